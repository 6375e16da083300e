import Derived.Test.YtanpkoghglnphaaGreatDoorSxH
import Derived.Test.YtanpkoghglnphaaGreatDoorCtx
import Derived.Test.YtanpkoghglnphaaGreatDoorShown
namespace Go.Sx
/-! letters laid anew -/
def Env.setI (ρ : Env) (i : Nat) (v : Int) : Env := { ρ with int := fun j => if j = i then v else ρ.int j }
def Env.setS (ρ : Env) (i : Nat) (v : List UInt8) : Env := { ρ with str := fun j => if j = i then v else ρ.str j }
def Env.setR (ρ : Env) (i : Nat) (v : List (List Value)) : Env := { ρ with rows := fun j => if j = i then v else ρ.rows j }
def Env.setB (ρ : Env) (i : Nat) (v : Bool) : Env := { ρ with boo := fun j => if j = i then v else ρ.boo j }
section
variable (ρ : Env) (i j : Nat)
theorem setI_int (v : Int) : (ρ.setI i v).int j = if j = i then v else ρ.int j := rfl
theorem setI_str (v : Int) : (ρ.setI i v).str j = ρ.str j := rfl
theorem setI_rows (v : Int) : (ρ.setI i v).rows j = ρ.rows j := rfl
theorem setI_boo (v : Int) : (ρ.setI i v).boo j = ρ.boo j := rfl
theorem setS_int (v : List UInt8) : (ρ.setS i v).int j = ρ.int j := rfl
theorem setS_str (v : List UInt8) : (ρ.setS i v).str j = if j = i then v else ρ.str j := rfl
theorem setS_rows (v : List UInt8) : (ρ.setS i v).rows j = ρ.rows j := rfl
theorem setS_boo (v : List UInt8) : (ρ.setS i v).boo j = ρ.boo j := rfl
theorem setR_int (v : List (List Value)) : (ρ.setR i v).int j = ρ.int j := rfl
theorem setR_str (v : List (List Value)) : (ρ.setR i v).str j = ρ.str j := rfl
theorem setR_rows (v : List (List Value)) : (ρ.setR i v).rows j = if j = i then v else ρ.rows j := rfl
theorem setR_boo (v : List (List Value)) : (ρ.setR i v).boo j = ρ.boo j := rfl
theorem setB_int (v : Bool) : (ρ.setB i v).int j = ρ.int j := rfl
theorem setB_str (v : Bool) : (ρ.setB i v).str j = ρ.str j := rfl
theorem setB_rows (v : Bool) : (ρ.setB i v).rows j = ρ.rows j := rfl
theorem setB_boo (v : Bool) : (ρ.setB i v).boo j = if j = i then v else ρ.boo j := rfl
end
/-! a heap of which more is said -/
def RefB (ρ : Env) (b c : ABlk) : Prop := b = c ∨ ∃ ro r z x cs e, b = .rowv ro r z x cs e ∧ c = .cells ro (some (.v r, z)) [] e ∧ cs.all scalarAV = true ∧ (Eqn.peek r x cs).ok ρ ρ
def RefL (ρ : Env) : List (Nat × ABlk) → List (Nat × ABlk) → Prop
  | [], [] => True
  | p :: l, q :: m => p.1 = q.1 ∧ RefB ρ p.2 q.2 ∧ RefL ρ l m
  | _, _ => False
theorem RefB.ok {ρ : Env} {b c : ABlk} (h : RefB ρ b c) : b.owned = c.owned ∧ ∀ φ L o, BR ρ φ L c o → BR ρ φ L b o := by
  rcases h with rfl | ⟨ro, r, z, x, cs, e, rfl, rfl, hs, hp⟩
  · exact ⟨rfl, fun _ _ _ h => h⟩
  · refine ⟨rfl, fun φ L o hb => ?_⟩
    obtain ⟨ek, c, lo, hi, xs, rest, a1, a2, a3, a4, a5, a6⟩ := hb
    have := VRs.nil_left a5; subst this
    refine ⟨⟨ek, c, lo, hi, rest, a1, a2, ?_, by rw [a4]; simp [preCells, RX.flat]⟩, a6, hp.1, fun ys hy => by rw [hp.2 ys hy]; exact vals_VR hs⟩
    rcases a3 with a3 | ⟨a3, a7, a8⟩
    · exact .inl a3
    · exact .inr ⟨a3, a7, by simpa [preCells, RX.flat] using a8⟩
theorem RefL.get {ρ : Env} : ∀ {l m : List (Nat × ABlk)} {n : Nat}, RefL ρ l m → ∀ i b, (heapOf' l n).t.get i = some b → ∃ c, (heapOf' m n).t.get i = some c ∧ RefB ρ b c
  | [], [], n, _, i, b, h => by cases h
  | p :: l, q :: m, n, ⟨h1, h2, h3⟩, i, b, h => by
    have h : ((l.foldr (fun p (t : PT ABlk) => t.set p.1 p.2) .nil).set p.1 p.2).get i = some b := h
    show ∃ c, ((m.foldr (fun p (t : PT ABlk) => t.set p.1 p.2) .nil).set q.1 q.2).get i = some c ∧ RefB ρ b c
    rw [PT.get_set] at h ⊢
    by_cases e : i = p.1
    · rw [if_pos e] at h; cases h
      rw [if_pos (by rw [← h1]; exact e)]
      exact ⟨_, rfl, h2⟩
    · rw [if_neg e] at h
      rw [if_neg (by rw [← h1]; exact e)]
      exact RefL.get (n := n) h3 i b h
  | [], _ :: _, _, h, _, _, _ => h.elim
  | _ :: _, [], _, h, _, _, _ => h.elim
theorem RefL.wr {ρ : Env} {φ : Pl} {l m : List (Nat × ABlk)} {n : Nat} {w : World} (h : RefL ρ l m) (hw : WR ρ φ (heapOf' m n) w) : WR ρ φ (heapOf' l n) w := by
  refine ⟨fun i b hb => ?_, fun i j b c L M hi hj ho => ?_, hw.fresh, fun i b L hi ho => ?_⟩
  · obtain ⟨c, h1, h2⟩ := h.get i b hb
    obtain ⟨L, o, h3, h4, h5⟩ := hw.blk i c h1
    exact ⟨L, o, h3, h4, h2.ok.2 _ _ _ h5⟩
  · obtain ⟨b', h1, h2⟩ := h.get i b hi
    obtain ⟨c', h3, h4⟩ := h.get j c hj
    exact hw.apart i j b' c' L M h1 h3 (by rw [← h2.ok.1]; exact ho)
  · obtain ⟨b', h1, h2⟩ := h.get i b hi
    exact hw.base i b' L h1 (by rw [← h2.ok.1]; exact ho)
theorem RefL.refl (ρ : Env) : ∀ l : List (Nat × ABlk), RefL ρ l l
  | [] => trivial
  | _ :: l => ⟨rfl, .inl rfl, RefL.refl ρ l⟩
/-- a call whose states make a graph, as a known call -/
theorem orc_of_graph {G : Graph} {C : Ctx} {P : Program} {ρ : Env} {o : Orc} {I : Nat → Env → Prop} {μ : Nat → Env → Nat} {F : Facts} {l0 : List (Nat × ABlk)}
    (hC : ∀ k ρ, I k ρ → CtxOK C P ρ) (hfacts : ∀ k ρ, I k ρ → (G.tg k).facts.ok ρ) (hat : ∀ k ρ, I k ρ → G.At C k) (hok : ∀ k ρ', I k ρ' → OTok I μ (fun ρ'' => ρ'' = ρ) k ρ' (G.o k)) (hi : I 0 ρ)
    (hs : startF C F o.f o.args (heapOf' l0 o.next) = some (G.tg 0)) (hf : G.f = o.f) (hv : G.v = o.v) (hh : G.h = heapOf' o.post o.next') (hN : G.N = o.next) (hnn : o.next ≤ o.next') (hinc : incr o.post = true)
    (href : RefL ρ l0 o.pre) : OrcOK P ρ o := by
  refine ⟨fun φ w xs hw hG _ ha => ?_, incr_get hinc⟩
  have := Graph.calls hC hfacts hat hok hi (F := F) (args := o.args) (h := heapOf' l0 o.next) (by rw [hf]; exact hs) (href.wr hw) hG ha
  rw [hf] at this
  refine this.mono fun e w' ⟨ρ', ψ, z, he, hJ, hz, hw', hev⟩ => ?_
  subst hJ
  rw [hv] at hz
  rw [hh] at hw' hev
  refine ⟨ψ, z, he, hz, fun i L hL => ?_, hw', fun b hb hno => hev.keep b hb fun ho => hno ?_, fun b hb => ?_, hev.size, hnn, hev.same⟩
  · refine hev.le i ?_ L hL
    rw [hN]
    rcases Nat.lt_or_ge i o.next with h | h
    · exact h
    · have := hw.fresh i h
      rw [this] at hL; cases hL
  · obtain ⟨id, bb, L, h1, h2, h3, h4⟩ := ho
    obtain ⟨c, h5, h6⟩ := href.get id bb h1
    exact ⟨id, c, L, h5, by rw [← h6.ok.1]; exact h2, h3, h4⟩
  · rcases hev.own b hb with ⟨id, bb, L, h1, h2, h3, h4⟩ | h
    · obtain ⟨c, h5, h6⟩ := href.get id bb h1
      exact .inl ⟨id, c, L, h5, by rw [← h6.ok.1]; exact h2, h3, h4⟩
    · exact .inr h
/-! rows of texts -/
def vstr (a : List UInt8) : Value := .string ⟨⟨a⟩⟩
def rows1 (A : List (List UInt8)) : List (List Value) := A.map fun a => [vstr a]
theorem rows1_ok (A : List (List UInt8)) : ∀ q ∈ rows1 A, q.length = 1 ∧ ∀ v ∈ q, v.oneCell' = true := by
  intro q hq
  obtain ⟨a, _, rfl⟩ := List.mem_map.1 hq
  exact ⟨rfl, fun v hv => by simp at hv; subst hv; rfl⟩
theorem rows1_get {A : List (List UInt8)} {i : Nat} {xs : List Value} (h : (rows1 A)[i]? = some xs) : xs = [vstr (A.getD i [])] := by
  simp only [rows1, List.getElem?_map] at h
  cases ha : A[i]? with
  | none => rw [ha] at h; cases h
  | some a => rw [ha] at h; cases h; simp [List.getD, ha]
def qrow (k : Int) (s : List UInt8) : List Value := [vstr s, .int .i64 k]
end Go.Sx
namespace Go.Sx
open Go.Proofs
set_option maxRecDepth 1000000
noncomputable def C0 : Ctx := ctxOf Tryz.prog lies18 exts18 [] []
theorem C0_ok {ρ : Env} : CtxOK C0 Tryz.prog ρ := ctx18 orcs_nil pors_nil
noncomputable def qtg : List AM := [st C0 93 [.str [.var 0]] ⟨.nil, 64⟩ [(.cmp .leq (.slen 0) (.lit 100000), true)],
    nd C0 93 0 [(0, .str [.var 0]), (3, .ptr 64 0), (5, .str [.var 0]), (6, .int .i64 (.slen 0)), (7, .int .i64 (.var 0))] [(64, .cells false none [.ptr 64 0, .slice 65 0 (.slen 1) (.rest 1)] 70), (65, .bytes [.var 1] 5 false)] 66
      [(.cmp .leq (.slen 0) (.lit 100000), true), (.cmp .geq (.var 0) (.lit 1), true), (.cmp .leq (.var 0) (.slen 0), true), (.cmp .geq (.slen 1) (.lit 1), true), (.cmp .leq (.slen 1) (.lit 200000), true)]]
noncomputable def qo0 : OT := (.fork (.cmp .lss (.lit 0) (.slen 0)) (.fork (.cmp .eql (.sbyte 0 (.lit 0)) (.lit 42)) (.to 1 ⟨64, 66, [(64, 64), (65, 68)]⟩ [.str [.var 0] [.var 0], .int (.var 0) (.lit 1), .str [.var 0] [.var 0], .int (.slen 0) (.slen 0), .str [.var 1] [.lit [92], .chr (.sbyte 0 (.lit 0))], .int (.slen 1) (.lit 2)]) (.fork (.cmp .eql (.sbyte 0 (.lit 0)) (.lit 63)) (.to 1 ⟨64, 66, [(64, 64), (65, 68)]⟩ [.str [.var 0] [.var 0], .int (.var 0) (.lit 1), .str [.var 0] [.var 0], .int (.slen 0) (.slen 0), .str [.var 1] [.lit [92], .chr (.sbyte 0 (.lit 0))], .int (.slen 1) (.lit 2)]) (.fork (.cmp .eql (.sbyte 0 (.lit 0)) (.lit 91)) (.to 1 ⟨64, 66, [(64, 64), (65, 68)]⟩ [.str [.var 0] [.var 0], .int (.var 0) (.lit 1), .str [.var 0] [.var 0], .int (.slen 0) (.slen 0), .str [.var 1] [.lit [92], .chr (.sbyte 0 (.lit 0))], .int (.slen 1) (.lit 2)]) (.fork (.cmp .eql (.sbyte 0 (.lit 0)) (.lit 93)) (.to 1 ⟨64, 66, [(64, 64), (65, 68)]⟩ [.str [.var 0] [.var 0], .int (.var 0) (.lit 1), .str [.var 0] [.var 0], .int (.slen 0) (.slen 0), .str [.var 1] [.lit [92], .chr (.sbyte 0 (.lit 0))], .int (.slen 1) (.lit 2)]) (.fork (.cmp .eql (.sbyte 0 (.lit 0)) (.lit 33)) (.to 1 ⟨64, 66, [(64, 64), (65, 68)]⟩ [.str [.var 0] [.var 0], .int (.var 0) (.lit 1), .str [.var 0] [.var 0], .int (.slen 0) (.slen 0), .str [.var 1] [.lit [92], .chr (.sbyte 0 (.lit 0))], .int (.slen 1) (.lit 2)]) (.fork (.cmp .eql (.sbyte 0 (.lit 0)) (.lit 45)) (.to 1 ⟨64, 66, [(64, 64), (65, 68)]⟩ [.str [.var 0] [.var 0], .int (.var 0) (.lit 1), .str [.var 0] [.var 0], .int (.slen 0) (.slen 0), .str [.var 1] [.lit [92], .chr (.sbyte 0 (.lit 0))], .int (.slen 1) (.lit 2)]) (.fork (.cmp .eql (.sbyte 0 (.lit 0)) (.lit 92)) (.to 1 ⟨64, 66, [(64, 64), (65, 68)]⟩ [.str [.var 0] [.var 0], .int (.var 0) (.lit 1), .str [.var 0] [.var 0], .int (.slen 0) (.slen 0), .str [.var 1] [.lit [92], .chr (.sbyte 0 (.lit 0))], .int (.slen 1) (.lit 2)]) (.to 1 ⟨64, 66, [(64, 64), (65, 66)]⟩ [.str [.var 0] [.var 0], .int (.var 0) (.lit 1), .str [.var 0] [.var 0], .int (.slen 0) (.slen 0), .str [.var 1] [.chr (.sbyte 0 (.lit 0))], .int (.slen 1) (.lit 1)])))))))) (.fin ⟨64, 64, []⟩ [.str [.var 2] []]))
noncomputable def qo1 : OT := (.fork (.cmp .lss (.var 0) (.slen 0)) (.fork (.cmp .eql (.sbyte 0 (.var 0)) (.lit 42)) (.to 1 ⟨64, 66, [(64, 64), (65, 69)]⟩ [.str [.var 0] [.var 0], .int (.var 0) (.add (.var 0) (.lit 1)), .str [.var 0] [.var 0], .int (.slen 0) (.slen 0), .str [.var 1] [.var 1, .lit [92], .chr (.sbyte 0 (.var 0))], .int (.slen 1) (.add (.add (.slen 1) (.lit 1)) (.lit 1))]) (.fork (.cmp .eql (.sbyte 0 (.var 0)) (.lit 63)) (.to 1 ⟨64, 66, [(64, 64), (65, 69)]⟩ [.str [.var 0] [.var 0], .int (.var 0) (.add (.var 0) (.lit 1)), .str [.var 0] [.var 0], .int (.slen 0) (.slen 0), .str [.var 1] [.var 1, .lit [92], .chr (.sbyte 0 (.var 0))], .int (.slen 1) (.add (.add (.slen 1) (.lit 1)) (.lit 1))]) (.fork (.cmp .eql (.sbyte 0 (.var 0)) (.lit 91)) (.to 1 ⟨64, 66, [(64, 64), (65, 69)]⟩ [.str [.var 0] [.var 0], .int (.var 0) (.add (.var 0) (.lit 1)), .str [.var 0] [.var 0], .int (.slen 0) (.slen 0), .str [.var 1] [.var 1, .lit [92], .chr (.sbyte 0 (.var 0))], .int (.slen 1) (.add (.add (.slen 1) (.lit 1)) (.lit 1))]) (.fork (.cmp .eql (.sbyte 0 (.var 0)) (.lit 93)) (.to 1 ⟨64, 66, [(64, 64), (65, 69)]⟩ [.str [.var 0] [.var 0], .int (.var 0) (.add (.var 0) (.lit 1)), .str [.var 0] [.var 0], .int (.slen 0) (.slen 0), .str [.var 1] [.var 1, .lit [92], .chr (.sbyte 0 (.var 0))], .int (.slen 1) (.add (.add (.slen 1) (.lit 1)) (.lit 1))]) (.fork (.cmp .eql (.sbyte 0 (.var 0)) (.lit 33)) (.to 1 ⟨64, 66, [(64, 64), (65, 69)]⟩ [.str [.var 0] [.var 0], .int (.var 0) (.add (.var 0) (.lit 1)), .str [.var 0] [.var 0], .int (.slen 0) (.slen 0), .str [.var 1] [.var 1, .lit [92], .chr (.sbyte 0 (.var 0))], .int (.slen 1) (.add (.add (.slen 1) (.lit 1)) (.lit 1))]) (.fork (.cmp .eql (.sbyte 0 (.var 0)) (.lit 45)) (.to 1 ⟨64, 66, [(64, 64), (65, 69)]⟩ [.str [.var 0] [.var 0], .int (.var 0) (.add (.var 0) (.lit 1)), .str [.var 0] [.var 0], .int (.slen 0) (.slen 0), .str [.var 1] [.var 1, .lit [92], .chr (.sbyte 0 (.var 0))], .int (.slen 1) (.add (.add (.slen 1) (.lit 1)) (.lit 1))]) (.fork (.cmp .eql (.sbyte 0 (.var 0)) (.lit 92)) (.to 1 ⟨64, 66, [(64, 64), (65, 69)]⟩ [.str [.var 0] [.var 0], .int (.var 0) (.add (.var 0) (.lit 1)), .str [.var 0] [.var 0], .int (.slen 0) (.slen 0), .str [.var 1] [.var 1, .lit [92], .chr (.sbyte 0 (.var 0))], .int (.slen 1) (.add (.add (.slen 1) (.lit 1)) (.lit 1))]) (.to 1 ⟨64, 66, [(64, 64), (65, 67)]⟩ [.str [.var 0] [.var 0], .int (.var 0) (.add (.var 0) (.lit 1)), .str [.var 0] [.var 0], .int (.slen 0) (.slen 0), .str [.var 1] [.var 1, .chr (.sbyte 0 (.var 0))], .int (.slen 1) (.add (.slen 1) (.lit 1))])))))))) (.fin ⟨64, 64, []⟩ [.str [.var 2] [.var 1]]))
noncomputable def qG : Graph := { tg := pick qtg, stop := stopAny [(93, 0, 3)], n := fun _ => 300, pl := fun k => ([qo0, qo1].getD k .no).plan, o := fun k => [qo0, qo1].getD k .no, v := .str [.var 2], h := ⟨.nil, 64⟩, f := 93, N := 64 }
theorem qat0 : qG.At C0 0 := ⟨by kernel_rfl, by kernel_rfl, by kernel_rfl⟩
theorem qat1 : qG.At C0 1 := ⟨by kernel_rfl, by kernel_rfl, by kernel_rfl⟩
end Go.Sx
namespace Go.Sx
open Go.Proofs
def isSp (b : UInt8) : Bool := [42, 63, 91, 93, 33, 45, 92].contains b.toNat
def quoteB (b : UInt8) : List UInt8 := if isSp b then [92, b] else [b]
def quoteL : List UInt8 → List UInt8
  | [] => []
  | b :: s => quoteB b ++ quoteL s
theorem quoteL_app : ∀ a b : List UInt8, quoteL (a ++ b) = quoteL a ++ quoteL b
  | [], b => rfl
  | x :: a, b => by simp [quoteL, quoteL_app a b]
theorem quoteL_take {s : List UInt8} {i : Nat} (h : i < s.length) : quoteL (s.take (i + 1)) = quoteL (s.take i) ++ quoteB s[i] := by
  rw [List.take_succ_eq_append_getElem h, quoteL_app]
  simp [quoteL]
theorem quoteB_len (b : UInt8) : 1 ≤ (quoteB b).length ∧ (quoteB b).length ≤ 2 := by
  unfold quoteB; split <;> simp
theorem quoteL_len : ∀ s : List UInt8, s.length ≤ (quoteL s).length ∧ (quoteL s).length ≤ 2 * s.length
  | [] => by simp [quoteL]
  | b :: s => by
    have := quoteB_len b
    have := quoteL_len s
    simp only [quoteL, List.length_append, List.length_cons]
    omega
theorem quoteB_yes {b : UInt8} (h : isSp b = true) : quoteB b = [92, b] := by simp [quoteB, h]
theorem quoteB_no {b : UInt8} (h : isSp b = false) : quoteB b = [b] := by simp [quoteB, h]
theorem qf0 : (qG.tg 0).facts = [(.cmp .leq (.slen 0) (.lit 100000), true)] := by kernel_rfl
theorem qf1 : (qG.tg 1).facts = [(.cmp .leq (.slen 0) (.lit 100000), true), (.cmp .geq (.var 0) (.lit 1), true), (.cmp .leq (.var 0) (.slen 0), true), (.cmp .geq (.slen 1) (.lit 1), true), (.cmp .leq (.slen 1) (.lit 200000), true)] := by kernel_rfl
/-- the loop's states -/
def QI (s : List UInt8) : Nat → Env → Prop
  | 0, ρ => ρ.str 0 = s
  | 1, ρ => ∃ i : Nat, 1 ≤ i ∧ i ≤ s.length ∧ ρ.str 0 = s ∧ ρ.int 0 = i ∧ ρ.str 1 = quoteL (s.take i)
  | _, _ => False
def Qμ (s : List UInt8) : Nat → Env → Nat
  | 0, _ => s.length + 2
  | _, ρ => s.length + 1 - (ρ.int 0).toNat
theorem byte_at {s : List UInt8} {i : Nat} (h : i < s.length) : (s[i]?).getD 0 = s[i] := by simp [List.getElem?_eq_getElem h]
theorem qstep {s : List UInt8} {i : Nat} (h : i < s.length) : ∃ b : UInt8, (s[i]?).getD 0 = b ∧ quoteL (s.take (i + 1)) = quoteL (s.take i) ++ quoteB b := ⟨s[i], byte_at h, quoteL_take h⟩
theorem quote_calls (s : ByteArray) (hs : s.data.toList.length ≤ 100000) (W : World) :
    Calls Tryz.prog 93 #[.string s] W fun e W' => e = .returned (.string ⟨⟨quoteL s.data.toList⟩⟩) ∧ Kept W W' := by
  generalize hd : s.data.toList = d at hs
  have hq := quoteL_len
  have := Graph.calls (G := qG) (C := C0) (P := Tryz.prog) (I := QI d) (μ := Qμ d) (J := fun ρ => ρ.str 2 = quoteL d) (fun _ _ _ => C0_ok) ?_ ?_ ?_ (ρ := env [] [d]) rfl (F := [(.cmp .leq (.slen 0) (.lit 100000), true)]) (args := [.str [.var 0]]) (h := ⟨.nil, 64⟩) (by kernel_rfl)
    (φ := pl0) (w := W) (xs := [.string s]) (wr0 _ W) glob0 (VRs.cons (by rw [← hd]; exact str0' s) VRs.nil)
  · exact this.mono fun e W' h => kept_of h (fun ρ' ψ z hJ hz => by
      have hz : VR ρ' ψ (.str [.var 2]) z := hz
      simp only [VR, SS.den, SP.den, List.append_nil] at hz; rw [hz, hJ]) rfl
  · intro k ρ hi
    match k, hi with
    | 0, hi =>
      have hi : ρ.str 0 = d := hi
      intro p hp
      rw [qf0] at hp
      rcases List.mem_singleton.1 hp with rfl
      simp [SB.den, SI.den, intCmp, ltInt_iff, hi]; omega
    | 1, hi =>
      obtain ⟨i, h1, h2, h3, h4, h5⟩ := hi
      have hl := hq (d.take i)
      rw [List.length_take, Nat.min_eq_left h2] at hl
      intro p hp
      rw [qf1] at hp
      simp only [List.mem_cons, List.not_mem_nil, or_false] at hp
      rcases hp with rfl | rfl | rfl | rfl | rfl <;> simp [SB.den, SI.den, intCmp, ltInt_iff, h3, h4, h5] <;> omega
  · intro k ρ hi
    match k, hi with
    | 0, hi => exact qat0
    | 1, hi => exact qat1
  · intro k ρ hi
    match k, hi with
    | 0, hi =>
      have hi : ρ.str 0 = d := hi
      show OTok (QI d) (Qμ d) _ 0 ρ qo0
      simp only [qo0, OTok, SB.den, SI.den, intCmp, Option.getD_some, ltInt_iff, eqInt_iff, hi, decide_eq_true_eq, decide_eq_false_iff_not]
      refine ⟨fun h0 => ?_, fun h0 => ?_⟩
      · have hlt : 0 < d.length := by omega
        obtain ⟨b, hb, hstep⟩ := qstep hlt
        simp only [Int.toNat_zero, hb]
        have h01 := hq (d.take 1)
        rw [List.length_take, Nat.min_eq_left (by omega)] at h01
        have hone : isSp b = true → ∃ ρ', Eqns ρ' ρ [.str [.var 0] [.var 0], .int (.var 0) (.lit 1), .str [.var 0] [.var 0], .int (.slen 0) (.slen 0), .str [.var 1] [.lit [92], .chr (.sbyte 0 (.lit 0))], .int (.slen 1) (.lit 2)] ∧ QI d 1 ρ' ∧ Qμ d 1 ρ' < Qμ d 0 ρ := by
          intro hsp
          refine ⟨env [1] [d, quoteL (d.take 1)], ?_, ⟨1, by omega, by omega, rfl, rfl, rfl⟩, ?_⟩
          · rw [hstep, quoteB_yes hsp]
            simp [Eqns, Eqn.ok, SI.den, SS.den, SP.den, env, hi, hb, quoteL]
          · simp [Qμ, env] <;> omega
        repeat' (first | apply And.intro | intro)
        all_goals first | exact hone (by simp [isSp] <;> omega) | skip
        have hsp : isSp b = false := by simp [isSp] <;> omega
        refine ⟨env [1] [d, quoteL (d.take 1)], ?_, ⟨1, by omega, by omega, rfl, rfl, rfl⟩, ?_⟩
        · rw [hstep, quoteB_no hsp]
          simp [Eqns, Eqn.ok, SI.den, SS.den, SP.den, env, hi, hb, quoteL]
        · simp [Qμ, env] <;> omega
      · have : d = [] := by cases d with
          | nil => rfl
          | cons a l => simp at h0
        subst this
        exact ⟨env [] [[], [], []], by simp [Eqns, Eqn.ok, SS.den, SP.den, env], rfl⟩
    | 1, hi =>
      obtain ⟨i, g1, g2, g3, g4, g5⟩ := hi
      show OTok (QI d) (Qμ d) _ 1 ρ qo1
      simp only [qo1, OTok, SB.den, SI.den, intCmp, Option.getD_some, ltInt_iff, eqInt_iff, g3, g4, decide_eq_true_eq, decide_eq_false_iff_not]
      refine ⟨fun h0 => ?_, fun h0 => ?_⟩
      · have hlt : i < d.length := by omega
        obtain ⟨b, hb, hstep⟩ := qstep hlt
        simp only [Int.toNat_natCast, hb]
        have hone : isSp b = true → ∃ ρ', Eqns ρ' ρ [.str [.var 0] [.var 0], .int (.var 0) (.add (.var 0) (.lit 1)), .str [.var 0] [.var 0], .int (.slen 0) (.slen 0), .str [.var 1] [.var 1, .lit [92], .chr (.sbyte 0 (.var 0))], .int (.slen 1) (.add (.add (.slen 1) (.lit 1)) (.lit 1))] ∧ QI d 1 ρ' ∧ Qμ d 1 ρ' < Qμ d 1 ρ := by
          intro hsp
          refine ⟨env [((i + 1 : Nat) : Int)] [d, quoteL (d.take (i + 1))], ?_, ⟨i + 1, by omega, by omega, rfl, rfl, rfl⟩, ?_⟩
          · rw [hstep, quoteB_yes hsp]
            simp [Eqns, Eqn.ok, SI.den, SS.den, SP.den, env, g3, g4, g5, hb] <;> omega
          · simp [Qμ, env, g4] <;> omega
        repeat' (first | apply And.intro | intro)
        all_goals first | exact hone (by simp [isSp] <;> omega) | skip
        have hsp : isSp b = false := by simp [isSp] <;> omega
        refine ⟨env [((i + 1 : Nat) : Int)] [d, quoteL (d.take (i + 1))], ?_, ⟨i + 1, by omega, by omega, rfl, rfl, rfl⟩, ?_⟩
        · rw [hstep, quoteB_no hsp]
          simp [Eqns, Eqn.ok, SI.den, SS.den, SP.den, env, g3, g4, g5, hb] <;> omega
        · simp [Qμ, env, g4] <;> omega
      · have : d.take i = d := List.take_of_length_le (by omega)
        exact ⟨env [] [[], [], quoteL d], by simp [Eqns, Eqn.ok, SS.den, SP.den, env, g5, this], rfl⟩
end Go.Sx
namespace Go.Sx
open Go.Proofs
set_option maxRecDepth 100000
noncomputable def p_sh : POrc := { facts := [], f := 10, args := [], pre := [], v := .bool (.lit true) }
theorem sh_ok {ρ : Env} : POrcOK Tryz.prog ρ p_sh := by
  intro φ w xs n _ _ _ ha
  have := VRs.nil_left ha; subst this
  exact (kept0 (o18_ok (ρ := env [] [])) rfl rfl rfl (fun p hp => by cases hp) VRs.nil w).mono fun e w' ⟨he, hk⟩ => ⟨_, he, by simp only [VR, p_sh, SB.den], hk⟩
theorem rows1_lth (A : List (List UInt8)) : (rows1 A).length = A.length := by simp [rows1]
theorem eqns_nl {ρ' ρ : Env} : Eqns ρ' ρ [] := fun e he => (by cases he)
/-- the world of a law: the arguments' rows -/
structure LWn (n : Nat) (φ : Pl) (ρ : Env) (l : List (Nat × ABlk)) (W : World) : Prop where
  wr : WR ρ φ (hpOf l n) W
  glob : Glob φ
  own : ∀ b, ¬ Own φ (hpOf l n) b
/-- a graph of a law that ends in true -/
theorem law_ofn {n f : Nat} {G : Graph} {C : Ctx} {I : Nat → Env → Prop} {μ : Nat → Env → Nat} {ρ : Env} {F : Facts} {args : List AV} {l : List (Nat × ABlk)} {φ : Pl} {W : World} {xs : List Value} (hC : ∀ k ρ, I k ρ → CtxOK C Tryz.prog ρ) (hfacts : ∀ k ρ, I k ρ → (G.tg k).facts.ok ρ)
    (hat : ∀ k ρ, I k ρ → G.At C k) (hok : ∀ k ρ, I k ρ → OTok I μ (fun _ => True) k ρ (G.o k)) (hi : I 0 ρ) (hf : G.f = f) (hv : G.v = .bool (.lit true)) (hs : startF C F f args (hpOf l n) = some (G.tg 0)) (hw : LWn n φ ρ l W) (ha : VRs ρ φ args xs) :
    Calls Tryz.prog f ⟨xs⟩ W fun e W' => e = .returned (.bool true) ∧ Kept W W' := by
  have := Graph.calls hC hfacts hat hok hi (F := F) (args := args) (h := hpOf l n) (by rw [hf]; exact hs) hw.wr hw.glob ha
  rw [hf] at this
  refine this.mono fun e w' ⟨ρ', ψ, z, he, _, hz, _, hev⟩ => ?_
  rw [hv] at hz
  simp only [VR, SB.den] at hz
  subst hz
  exact ⟨he, fun b hb => hev.keep b hb (hw.own b), hev.same, hev.size⟩
end Go.Sx
namespace Go.Sx
open Go.Proofs
set_option maxRecDepth 100000
theorem por_quo {ρ : Env} {a b : Nat} (h : ρ.str b = quoteL (ρ.str a)) (hl : (ρ.str a).length ≤ 100000) : POrcOK Tryz.prog ρ { facts := [], f := 93, args := [.str [.var a]], pre := [], v := .str [.var b] } := by
  intro φ w xs n _ _ _ ha
  obtain ⟨x, ys, rfl, h1, h2⟩ := VRs.cons_left ha
  have := VRs.nil_left h2; subst this
  simp only [VR, SS.den, SP.den, List.append_nil] at h1
  subst h1
  refine (quote_calls ⟨⟨ρ.str a⟩⟩ hl w).mono fun e w' ⟨he, hk⟩ => ⟨_, he, ?_, hk⟩
  simp only [VR, SS.den, SP.den, List.append_nil, h]
noncomputable def p_qr : POrc := { facts := [], f := 93, args := [.str [.var 30]], pre := [], v := .str [.var 32] }
end Go.Sx
