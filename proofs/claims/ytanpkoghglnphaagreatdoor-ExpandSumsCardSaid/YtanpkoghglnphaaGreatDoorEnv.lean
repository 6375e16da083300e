import Derived.Test.YtanpkoghglnphaaGreatDoorSxH
import Derived.Test.YtanpkoghglnphaaGreatDoorCtx
import Derived.Test.YtanpkoghglnphaaGreatDoorShown
namespace Go.Sx
/-! letters laid anew -/
def Env.setI (ρ : Env) (i : Nat) (v : Int) : Env := { ρ with int := fun j => if j = i then v else ρ.int j }
def Env.setS (ρ : Env) (i : Nat) (v : List UInt8) : Env := { ρ with str := fun j => if j = i then v else ρ.str j }
def Env.setR (ρ : Env) (i : Nat) (v : List (List Value)) : Env := { ρ with rows := fun j => if j = i then v else ρ.rows j }
def Env.setB (ρ : Env) (i : Nat) (v : Bool) : Env := { ρ with boo := fun j => if j = i then v else ρ.boo j }
section
variable (ρ : Env) (i j : Nat)
theorem setI_int (v : Int) : (ρ.setI i v).int j = if j = i then v else ρ.int j := rfl
theorem setI_str (v : Int) : (ρ.setI i v).str j = ρ.str j := rfl
theorem setI_rows (v : Int) : (ρ.setI i v).rows j = ρ.rows j := rfl
theorem setI_boo (v : Int) : (ρ.setI i v).boo j = ρ.boo j := rfl
theorem setS_int (v : List UInt8) : (ρ.setS i v).int j = ρ.int j := rfl
theorem setS_str (v : List UInt8) : (ρ.setS i v).str j = if j = i then v else ρ.str j := rfl
theorem setS_rows (v : List UInt8) : (ρ.setS i v).rows j = ρ.rows j := rfl
theorem setS_boo (v : List UInt8) : (ρ.setS i v).boo j = ρ.boo j := rfl
theorem setR_int (v : List (List Value)) : (ρ.setR i v).int j = ρ.int j := rfl
theorem setR_str (v : List (List Value)) : (ρ.setR i v).str j = ρ.str j := rfl
theorem setR_rows (v : List (List Value)) : (ρ.setR i v).rows j = if j = i then v else ρ.rows j := rfl
theorem setR_boo (v : List (List Value)) : (ρ.setR i v).boo j = ρ.boo j := rfl
theorem setB_int (v : Bool) : (ρ.setB i v).int j = ρ.int j := rfl
theorem setB_str (v : Bool) : (ρ.setB i v).str j = ρ.str j := rfl
theorem setB_rows (v : Bool) : (ρ.setB i v).rows j = ρ.rows j := rfl
theorem setB_boo (v : Bool) : (ρ.setB i v).boo j = if j = i then v else ρ.boo j := rfl
end
/-! a heap of which more is said -/
def RefB (ρ : Env) (b c : ABlk) : Prop := b = c ∨ ∃ ro r z x cs e, b = .rowv ro r z x cs e ∧ c = .cells ro (some (.v r, z)) [] e ∧ cs.all scalarAV = true ∧ (Eqn.peek r x cs).ok ρ ρ
def RefL (ρ : Env) : List (Nat × ABlk) → List (Nat × ABlk) → Prop
  | [], [] => True
  | p :: l, q :: m => p.1 = q.1 ∧ RefB ρ p.2 q.2 ∧ RefL ρ l m
  | _, _ => False
theorem RefB.ok {ρ : Env} {b c : ABlk} (h : RefB ρ b c) : b.owned = c.owned ∧ ∀ φ L o, BR ρ φ L c o → BR ρ φ L b o := by
  rcases h with rfl | ⟨ro, r, z, x, cs, e, rfl, rfl, hs, hp⟩
  · exact ⟨rfl, fun _ _ _ h => h⟩
  · refine ⟨rfl, fun φ L o hb => ?_⟩
    obtain ⟨ek, c, lo, hi, xs, rest, a1, a2, a3, a4, a5, a6⟩ := hb
    have := VRs.nil_left a5; subst this
    refine ⟨⟨ek, c, lo, hi, rest, a1, a2, ?_, by rw [a4]; simp [preCells, RX.flat]⟩, a6, hp.1, fun ys hy => by rw [hp.2 ys hy]; exact vals_VR hs⟩
    rcases a3 with a3 | ⟨a3, a7, a8⟩
    · exact .inl a3
    · exact .inr ⟨a3, a7, by simpa [preCells, RX.flat] using a8.1, a8.2⟩
theorem RefL.get {ρ : Env} : ∀ {l m : List (Nat × ABlk)} {n : Nat}, RefL ρ l m → ∀ i b, (heapOf' l n).t.get i = some b → ∃ c, (heapOf' m n).t.get i = some c ∧ RefB ρ b c
  | [], [], n, _, i, b, h => by cases h
  | p :: l, q :: m, n, ⟨h1, h2, h3⟩, i, b, h => by
    have h : ((l.foldr (fun p (t : PT ABlk) => t.set p.1 p.2) .nil).set p.1 p.2).get i = some b := h
    show ∃ c, ((m.foldr (fun p (t : PT ABlk) => t.set p.1 p.2) .nil).set q.1 q.2).get i = some c ∧ RefB ρ b c
    rw [PT.get_set] at h ⊢
    by_cases e : i = p.1
    · rw [if_pos e] at h; cases h
      rw [if_pos (by rw [← h1]; exact e)]
      exact ⟨_, rfl, h2⟩
    · rw [if_neg e] at h
      rw [if_neg (by rw [← h1]; exact e)]
      exact RefL.get (n := n) h3 i b h
  | [], _ :: _, _, h, _, _, _ => h.elim
  | _ :: _, [], _, h, _, _, _ => h.elim
theorem RefL.wr {ρ : Env} {φ : Pl} {l m : List (Nat × ABlk)} {n : Nat} {w : World} (h : RefL ρ l m) (hw : WR ρ φ (heapOf' m n) w) : WR ρ φ (heapOf' l n) w := by
  refine ⟨fun i b hb => ?_, fun i j b c L M hi hj ho => ?_, hw.fresh, fun i b L hi ho => ?_⟩
  · obtain ⟨c, h1, h2⟩ := h.get i b hb
    obtain ⟨L, o, h3, h4, h5⟩ := hw.blk i c h1
    exact ⟨L, o, h3, h4, h2.ok.2 _ _ _ h5⟩
  · obtain ⟨b', h1, h2⟩ := h.get i b hi
    obtain ⟨c', h3, h4⟩ := h.get j c hj
    exact hw.apart i j b' c' L M h1 h3 (by rw [← h2.ok.1]; exact ho)
  · obtain ⟨b', h1, h2⟩ := h.get i b hi
    exact hw.base i b' L h1 (by rw [← h2.ok.1]; exact ho)
theorem RefL.refl (ρ : Env) : ∀ l : List (Nat × ABlk), RefL ρ l l
  | [] => trivial
  | _ :: l => ⟨rfl, .inl rfl, RefL.refl ρ l⟩
/-- a call whose states make a graph, as a known call -/
theorem orc_of_graph {G : Graph} {C : Ctx} {P : Program} {ρ : Env} {o : Orc} {I : Nat → Env → Prop} {μ : Nat → Env → Nat} {F : Facts} {l0 : List (Nat × ABlk)}
    (hC : ∀ k ρ, I k ρ → CtxOK C P ρ) (hfacts : ∀ k ρ, I k ρ → (G.tg k).facts.ok ρ) (hat : ∀ k ρ, I k ρ → G.At C k) (hok : ∀ k ρ', I k ρ' → OTok I μ (fun ρ'' => ρ'' = ρ) k ρ' (G.o k)) (hi : I 0 ρ)
    (hs : startF C F o.f o.args (heapOf' l0 o.next) = some (G.tg 0)) (hf : G.f = o.f) (hv : G.v = o.v) (hh : G.h = heapOf' o.post o.next') (hN : G.N = o.next) (hnn : o.next ≤ o.next') (hinc : incr o.post = true)
    (href : RefL ρ l0 o.pre) : OrcOK P ρ o := by
  refine ⟨fun φ w xs hw hG _ ha => ?_, incr_get hinc⟩
  have := Graph.calls hC hfacts hat hok hi (F := F) (args := o.args) (h := heapOf' l0 o.next) (by rw [hf]; exact hs) (href.wr hw) hG ha
  rw [hf] at this
  refine this.mono fun e w' ⟨ρ', ψ, z, he, hJ, hz, hw', hev⟩ => ?_
  subst hJ
  rw [hv] at hz
  rw [hh] at hw' hev
  refine ⟨ψ, z, he, hz, fun i L hL => ?_, hw', fun b hb hno => hev.keep b hb fun ho => hno ?_, fun b hb => ?_, hev.size, hnn, hev.same⟩
  · refine hev.le i ?_ L hL
    rw [hN]
    rcases Nat.lt_or_ge i o.next with h | h
    · exact h
    · have := hw.fresh i h
      rw [this] at hL; cases hL
  · obtain ⟨id, bb, L, h1, h2, h3, h4⟩ := ho
    obtain ⟨c, h5, h6⟩ := href.get id bb h1
    exact ⟨id, c, L, h5, by rw [← h6.ok.1]; exact h2, h3, h4⟩
  · rcases hev.own b hb with ⟨id, bb, L, h1, h2, h3, h4⟩ | h
    · obtain ⟨c, h5, h6⟩ := href.get id bb h1
      exact .inl ⟨id, c, L, h5, by rw [← h6.ok.1]; exact h2, h3, h4⟩
    · exact .inr h
/-! rows of texts -/
def vstr (a : List UInt8) : Value := .string ⟨⟨a⟩⟩
def rows1 (A : List (List UInt8)) : List (List Value) := A.map fun a => [vstr a]
theorem rows1_ok (A : List (List UInt8)) : ∀ q ∈ rows1 A, q.length = 1 ∧ ∀ v ∈ q, v.oneCell' = true := by
  intro q hq
  obtain ⟨a, _, rfl⟩ := List.mem_map.1 hq
  exact ⟨rfl, fun v hv => by simp at hv; subst hv; rfl⟩
theorem rows1_get {A : List (List UInt8)} {i : Nat} {xs : List Value} (h : (rows1 A)[i]? = some xs) : xs = [vstr (A.getD i [])] := by
  simp only [rows1, List.getElem?_map] at h
  cases ha : A[i]? with
  | none => rw [ha] at h; cases h
  | some a => rw [ha] at h; cases h; simp [List.getD, ha]
def qrow (k : Int) (s : List UInt8) : List Value := [vstr s, .int .i64 k]
end Go.Sx
namespace Go.Sx
open Go.Proofs
set_option maxRecDepth 100000
noncomputable def p_sh : POrc := { facts := [], f := 10, args := [], pre := [], v := .bool (.lit true) }
theorem sh_ok {ρ : Env} : POrcOK Tryz.prog ρ p_sh := by
  intro φ w xs n _ _ _ ha
  have := VRs.nil_left ha; subst this
  exact (kept0 (o18_ok (ρ := env [] [])) rfl rfl rfl (fun p hp => by cases hp) VRs.nil w).mono fun e w' ⟨he, hk⟩ => ⟨_, he, by simp only [VR, p_sh, SB.den], hk⟩
theorem rows1_lth (A : List (List UInt8)) : (rows1 A).length = A.length := by simp [rows1]
theorem eqns_nl {ρ' ρ : Env} : Eqns ρ' ρ [] := fun e he => (by cases he)
/-- the world of a law: the arguments' rows -/
structure LWn (n : Nat) (φ : Pl) (ρ : Env) (l : List (Nat × ABlk)) (W : World) : Prop where
  wr : WR ρ φ (hpOf l n) W
  glob : Glob φ
  own : ∀ b, ¬ Own φ (hpOf l n) b
/-- a graph of a law that ends in true -/
theorem law_ofn {n f : Nat} {G : Graph} {C : Ctx} {I : Nat → Env → Prop} {μ : Nat → Env → Nat} {ρ : Env} {F : Facts} {args : List AV} {l : List (Nat × ABlk)} {φ : Pl} {W : World} {xs : List Value} (hC : ∀ k ρ, I k ρ → CtxOK C Tryz.prog ρ) (hfacts : ∀ k ρ, I k ρ → (G.tg k).facts.ok ρ)
    (hat : ∀ k ρ, I k ρ → G.At C k) (hok : ∀ k ρ, I k ρ → OTok I μ (fun _ => True) k ρ (G.o k)) (hi : I 0 ρ) (hf : G.f = f) (hv : G.v = .bool (.lit true)) (hs : startF C F f args (hpOf l n) = some (G.tg 0)) (hw : LWn n φ ρ l W) (ha : VRs ρ φ args xs) :
    Calls Tryz.prog f ⟨xs⟩ W fun e W' => e = .returned (.bool true) ∧ Kept W W' := by
  have := Graph.calls hC hfacts hat hok hi (F := F) (args := args) (h := hpOf l n) (by rw [hf]; exact hs) hw.wr hw.glob ha
  rw [hf] at this
  refine this.mono fun e w' ⟨ρ', ψ, z, he, _, hz, _, hev⟩ => ?_
  rw [hv] at hz
  simp only [VR, SB.den] at hz
  subst hz
  exact ⟨he, fun b hb => hev.keep b hb (hw.own b), hev.same, hev.size⟩
end Go.Sx
namespace Go.Sx
open Go.Proofs
set_option maxRecDepth 100000
/-! the arguments' world: one row that was handed in -/
def pl64 (b off cap : Nat) : Pl := pl0.with 64 ⟨b, off, cap⟩
theorem glob64 (b off cap : Nat) : Glob (pl64 b off cap) := fun g hg => by
  unfold pl64
  rw [Pl.with_ne _ _ (by omega)]
  simp [pl0, hg]
theorem fresh64 (b off cap : Nat) : ∀ i, 65 ≤ i → pl64 b off cap i = none := by
  intro i hi
  unfold pl64
  rw [Pl.with_ne _ _ (by omega)]
  simp [pl0]; omega
theorem pl64_at (b off cap : Nat) : pl64 b off cap 64 = some ⟨b, off, cap⟩ := Pl.with_same _ _ _
theorem lwn {n : Nat} {ρ : Env} {φ : Pl} {W : World} {l : List (Nat × ABlk)} (hg : Glob φ) (hf : ∀ i, n ≤ i → φ i = none) (hl : ∀ i b, (hpOf l n).t.get i = some b → b.owned = false ∧ ∃ L o, φ i = some L ∧ W.heap[L.blk]? = some o ∧ BR ρ φ L b o) : LWn n φ ρ l W :=
  ⟨⟨fun i b h => (hl i b h).2, (fun i j b c L M h1 h2 ho => by rw [(hl i b h1).1] at ho; cases ho), hf, (fun i b L h ho => by rw [(hl i b h).1] at ho; cases ho)⟩, hg, fun k ⟨id, c, L, h, ho, _⟩ => by rw [(hl id c h).1] at ho; cases ho⟩
theorem get_one {n k : Nat} {b : ABlk} {i : Nat} {c : ABlk} (h : (hpOf [(k, b)] n).t.get i = some c) : i = k ∧ c = b := by
  simp only [hpOf, List.foldr] at h
  rw [PT.get_set] at h
  split at h
  · cases h; exact ⟨by assumption, rfl⟩
  · cases h
theorem flat1 : ∀ l : List Value, (l.map fun v => [v]).flatten = l
  | [] => rfl
  | a :: l => by simp [flat1 l]
/-- a row of values that was handed in -/
theorem row_br {ρ : Env} {φ : Pl} {r : Nat} {vals : List Value} {b off cap ek e : Nat} {fz : Nat × Nat} {c : Array Value} {cs : List AV} (hR : ρ.rows r = vals.map fun v => [v]) (hone : ∀ v ∈ vals, v.oneCell' = true) (hcap : off + cap ≤ c.size) (hlen : vals.length ≤ cap)
    (hc : ∀ i, i < vals.length → c[off + i]? = vals[i]?) (hpk : ∀ v, vals[0]? = some v → VRs ρ φ cs [v]) (he : e ≠ 1000) : BR ρ φ ⟨b, off, cap⟩ (.rowv true r 1 (.lit 0) cs e) (.cells c ek fz) := by
  obtain ⟨lo, hi⟩ := fz
  have hfl : (vals.map fun v => [v]).flatten = vals := flat1 vals
  refine ⟨⟨ek, c, lo, hi, (c.toList.drop off).drop vals.length, rfl, .inl rfl, .inr ⟨rfl, hcap, ?_, he⟩, ?_⟩, ?_, by simp [SI.den], ?_⟩
  · rw [hR, hfl]; exact hlen
  · rw [hR, hfl]
    show c.toList.drop off = _
    have : (c.toList.drop off).take vals.length = vals := by
      apply List.ext_getElem?
      intro i
      by_cases hi : i < vals.length
      · rw [List.getElem?_take, if_pos hi, List.getElem?_drop, Array.getElem?_toList, hc i hi]
      · rw [List.getElem?_eq_none (by simp; omega), List.getElem?_eq_none (by omega)]
    conv => rhs; lhs; rw [← this]
    exact (List.take_append_drop _ _).symm
  · intro q hq
    rw [hR] at hq
    obtain ⟨v, hv, rfl⟩ := List.mem_map.1 hq
    exact ⟨rfl, fun x hx => by simp at hx; subst hx; exact hone _ hv⟩
  · intro xs hx
    rw [hR] at hx
    simp only [SI.den, Int.toNat_zero, List.getElem?_map, Option.map_eq_some_iff] at hx
    obtain ⟨v, hv, rfl⟩ := hx
    exact hpk v hv
/-- a row of texts -/
theorem row_strs {ρ : Env} {φ : Pl} {A : List (List UInt8)} {r k b off cap ek e : Nat} {fz : Nat × Nat} {c : Array Value} (hR : ρ.rows r = rows1 A) (hk : ρ.str k = A.getD 0 []) (hcap : off + cap ≤ c.size) (hA : A.length ≤ cap) (hc : ∀ i, i < A.length → c[off + i]? = some (vstr (A.getD i []))) :
    (he : e ≠ 1000) → BR ρ φ ⟨b, off, cap⟩ (.rowv true r 1 (.lit 0) [.str [.var k]] e) (.cells c ek fz) := by
  intro he
  refine row_br (vals := A.map vstr) (by rw [hR]; simp [rows1]) (fun v hv => ?_) hcap (by simpa using hA) (fun i hi => ?_) (fun v hv => ?_) he
  · obtain ⟨a, _, rfl⟩ := List.mem_map.1 hv; rfl
  · simp only [List.length_map] at hi
    rw [hc i hi, List.getElem?_map, List.getElem?_eq_getElem hi]
    simp [List.getD, List.getElem?_eq_getElem hi]
  · refine VRs.cons ?_ VRs.nil
    simp only [List.getElem?_map, Option.map_eq_some_iff] at hv
    obtain ⟨a, ha, rfl⟩ := hv
    simp [VR, SS.den, SP.den, hk, List.getD, ha, vstr]
/-- a slice that was handed in: none, or some of a row of cells -/
def FormOf (W : World) (val : Nat → Value → Prop) (v : Value) : Prop :=
  v = .slice none 0 0 ∨ ∃ b off n cap c ek fz, v = .slice (some ⟨b, off, none⟩) n cap ∧ W.heap[b]? = some (.cells c ek fz) ∧ n ≤ cap ∧ (0 < cap → off + cap ≤ c.size) ∧ ∀ i, i < cap → ∃ x, c[off + i]? = some x ∧ val i x
theorem vr_rows {ρ : Env} {φ : Pl} {b off n cap id r : Nat} (hp : φ id = some ⟨b, off, cap⟩) (h : (ρ.rows r).length = n) (hl : n ≤ cap) : VR ρ φ (.slice id 0 (.rlen r) (.rest 1)) (.slice (some ⟨b, off, none⟩) n cap) := by
  simp only [VR, SI.den, h, Cap.val]
  exact ⟨⟨b, off, cap⟩, hp, by omega, by simpa using hl, by simp⟩
theorem vr_emp {ρ : Env} {φ : Pl} {b off cap id : Nat} (hp : φ id = some ⟨b, 0, off + cap⟩) : VR ρ φ (.eslice id 1) (.slice (some ⟨b, off, none⟩) 0 cap) := by
  simp only [VR]
  exact ⟨⟨b, 0, off + cap⟩, off, cap, hp, Nat.zero_le _, by simp, rfl⟩
theorem vr_nils {ρ : Env} {φ : Pl} : VR ρ φ .nilSlice (.slice none 0 0) := by simp only [VR]
theorem strsOf {ss : List (List UInt8)} {off n cap : Nat} {c : Array Value} (hn : n ≤ cap) (hc : ∀ i, i < cap → ∃ x, c[off + i]? = some x ∧ x = vstr (ss.getD i [])) : ∃ A : List (List UInt8), A.length = n ∧ ∀ i, i < A.length → c[off + i]? = some (vstr (A.getD i [])) := by
  refine ⟨(List.range n).map fun i => ss.getD i [], by simp, fun i hi => ?_⟩
  simp only [List.length_map, List.length_range] at hi
  obtain ⟨x, h1, rfl⟩ := hc i (by omega)
  rw [h1]
  simp [List.getD, List.getElem?_range hi]
theorem no_blocks {n : Nat} {ρ : Env} {φ : Pl} {W : World} : ∀ i b, (hpOf [] n).t.get i = some b → b.owned = false ∧ ∃ L o, φ i = some L ∧ W.heap[L.blk]? = some o ∧ BR ρ φ L b o := fun i b h => by cases h
end Go.Sx
