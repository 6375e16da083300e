import Derived.Test.YtanpkoghglnphaaGreatDoorSxG
import Derived.ChangeSame
import Derived.RowKit3
import Derived.Test.YtanpkoghglnphaaGreatDoorSxA
namespace Go.Sx
/-- what a reckoned tree says of the machine -/
def TreeR (P : Program) (ρ : Env) (φ : Pl) (h : Heap) (base : List Frame) (fr : Frame) (cs : List Frame) (w : World) : Tree → Prop
  | .next m' => SimN P ρ φ h base fr cs w m'
  | .fork c a b => (c.den ρ = true → TreeR P ρ φ h base fr cs w a) ∧ (c.den ρ = false → TreeR P ρ φ h base fr cs w b)
  | .done v m' => ∃ φ' fr' w' z, Steps P (lone fr (cs ++ base) w) (lone fr' base w') ∧ fr'.leaving P w' (.returned z) ∧ fr'.fn = m'.fr.fn ∧ VR ρ φ' v z ∧ Evo ρ φ h w φ' m'.h w'
  | .dead _ _ => True
  | .fail _ _ => True
theorem TreeR.trans {P : Program} {ρ : Env} {φ φ1 : Pl} {h h1 : Heap} {base : List Frame} {fr fr1 : Frame} {cs cs1 : List Frame} {w w1 : World} (hs : Steps P (lone fr (cs ++ base) w) (lone fr1 (cs1 ++ base) w1)) (he : Evo ρ φ h w φ1 h1 w1) :
    ∀ {t : Tree}, TreeR P ρ φ1 h1 base fr1 cs1 w1 t → TreeR P ρ φ h base fr cs w t
  | .next _, ⟨φ', fr', cs', w', h1, h2, h3⟩ => ⟨φ', fr', cs', w', hs.trans h1, h2, he.trans h3⟩
  | .fork _ _ _, ⟨h1, h2⟩ => ⟨fun e => TreeR.trans hs he (h1 e), fun e => TreeR.trans hs he (h2 e)⟩
  | .done _ _, ⟨φ', fr', w', z, h1, h2, h3, h4, h5⟩ => ⟨φ', fr', w', z, hs.trans h1, h2, h3, h4, he.trans h5⟩
  | .dead _ _, _ => trivial
  | .fail _ _, _ => trivial
section
variable {C : Ctx} {P : Program} {ρ : Env} (hC : CtxOK C P ρ)
include hC in
theorem exec_ok : ∀ (n : Nat) {φ : Pl} {w : World} {m : AM} {fr : Frame} {cs base : List Frame}, MR ρ φ m fr cs w → TreeR P ρ φ m.h base fr cs w (exec C n m)
  | 0, φ, w, m, fr, cs, base, hm => ⟨φ, fr, cs, w, Steps.refl _ _, hm, Evo.refl hm.wr⟩
  | n + 1, φ, w, m, fr, cs, base, hm => by
    have h := stepA_ok (base := base) hC hm
    simp only [exec]
    cases hs : stepA C m with
    | next m' =>
      rw [hs] at h
      obtain ⟨φ', fr', cs', w', h1, h2, h3⟩ := h
      exact TreeR.trans h1 h3 (exec_ok n h2)
    | fork c m' =>
      rw [hs] at h
      have h : m' = m := h
      subst h
      refine ⟨fun e => ?_, fun e => ?_⟩
      · have hm2 : MR ρ φ (m'.addFact c true) fr cs w := by
          cases m'; exact ⟨hm.wr, fun p hp => by
            rcases List.mem_cons.1 hp with rfl | hp
            · exact e
            · exact hm.facts p hp, hm.fr, hm.cs, hm.glob⟩
        have := exec_ok n (base := base) hm2
        cases m'; exact this
      · have hm2 : MR ρ φ (m'.addFact c false) fr cs w := by
          cases m'; exact ⟨hm.wr, fun p hp => by
            rcases List.mem_cons.1 hp with rfl | hp
            · exact e
            · exact hm.facts p hp, hm.fr, hm.cs, hm.glob⟩
        have := exec_ok n (base := base) hm2
        cases m'; exact this
    | done v m' => rw [hs] at h; exact h
    | dead c m' => trivial
    | fail s m' => trivial
end
end Go.Sx
namespace Go.Sx
/-- the tables of a program -/
noncomputable def ctxOf (P : Program) (lies : List (Nat × Nat × Nat)) (exts : List (Nat × Ext)) (orc : List Orc) (por : List POrc) : Ctx := {
  fn := PT.ofList P.funcs.toList 0 .nil
  ty := PT.ofList (P.types.toList.zipIdx.map fun p => rowOf P p.2 p.1) 0 .nil
  ext := exts.foldr (fun p t => t.set p.1 p.2) .nil
  lies
  orc
  por }
theorem ctxOf_fn {P : Program} {lies : List (Nat × Nat × Nat)} {exts : List (Nat × Ext)} {orc : List Orc} {por : List POrc} {i : Nat} {f : Func} (h : (ctxOf P lies exts orc por).fn.get i = some f) : P.funcs[i]? = some f := by
  have h : (PT.ofList P.funcs.toList 0 .nil).get i = some f := h
  rw [PT.get_ofList] at h
  split at h
  · simpa using h
  · cases h
theorem ext_foldr {exts : List (Nat × Ext)} {f : Nat} {e : Ext} (h : (exts.foldr (fun p (t : PT Ext) => t.set p.1 p.2) .nil).get f = some e) : (f, e) ∈ exts := by
  induction exts with
  | nil => cases h
  | cons p l ih =>
    rw [List.foldr_cons, PT.get_set] at h
    by_cases hf : f = p.1
    · rw [if_pos hf] at h; cases h; subst hf; exact List.mem_cons_self
    · rw [if_neg hf] at h; exact List.mem_cons_of_mem _ (ih h)
theorem info_of {P : Program} {t : Nat} {i : TypeInfo} (h : P.types[t]? = some i) : P.info? t = some i := by
  have hlt := size_of h
  show P.toTables.info? t = some i
  unfold Tables.info?
  rw [if_pos hlt]; exact h
theorem ctxOf_ok {P : Program} {ρ : Env} {lies : List (Nat × Nat × Nat)} {exts : List (Nat × Ext)} {orc : List Orc} {por : List POrc}
    (hext : ∀ f e, (f, e) ∈ exts → ∃ fn g, P.funcs[f]? = some fn ∧ (fn.name == "runtime.NumGoroutine") = false ∧ fn.body = none ∧ Extern.findNext fn = none ∧ Extern.find fn = some g ∧ ExtIs P g e)
    (hnum : P.funcs.toList.all (fun f => f.body.isNone || !(f.name == "runtime.NumGoroutine")) = true)
    (hund : (List.range P.types.size).all (fun t => (P.underlying t).isSome) = true)
    (hlies : ∀ e o t, (e, o, t) ∈ lies → ∀ count, 1 ≤ count → liesAt P P.depth e count o t 1 = true)
    (hmix : P.follows .mixedOrders = true) (hdep : ∃ d, P.depth = d + 1) (horc : ∀ o ∈ orc, OrcOK P ρ o) (hpor : ∀ o ∈ por, POrcOK P ρ o) : CtxOK (ctxOf P lies exts orc por) P ρ := by
  refine ⟨fun f e h => hext f e (ext_foldr h), fun i f h => ctxOf_fn h, fun i f h hb => ?_, fun t r h => ?_, hlies, hmix, hdep, horc, hpor, fun f h => by cases h⟩
  · have hf := ctxOf_fn h
    have := List.all_eq_true.1 hnum f (Array.mem_toList_iff.2 (Array.mem_of_getElem? hf))
    simp only [Bool.or_eq_true, Bool.not_eq_true'] at this
    rcases this with h1 | h1
    · exact absurd (by simpa using h1) hb
    · exact h1
  · have h : (PT.ofList (P.types.toList.zipIdx.map fun p => rowOf P p.2 p.1) 0 .nil).get t = some r := h
    rw [PT.get_ofList] at h
    split at h
    · rename_i hlt
      simp only [Nat.sub_zero, List.getElem?_map, List.getElem?_zipIdx, Array.getElem?_toList] at h
      cases ht : P.types[t]? with
      | none => rw [ht] at h; cases h
      | some i =>
        rw [ht] at h
        simp only [Option.map_some, Option.some.injEq, Nat.zero_add] at h
        have hlt' := size_of ht
        have hu := List.all_eq_true.1 hund t (List.mem_range.2 hlt')
        cases hU : P.underlying t with
        | none => rw [hU] at hu; cases hu
        | some u =>
          refine ⟨i, info_of ht, ?_, ?_, ?_, ?_⟩
          · rw [← h]; simp [rowOf, hU]
          · rw [← h]; rfl
          · rw [← h]; rfl
          · intro z hz
            rw [← h] at hz
            simp only [rowOf] at hz
            cases hzero : i.zero with
            | none => rw [hzero] at hz; cases hz
            | some v => rw [hzero] at hz; exact ⟨v, rfl, hz⟩
    · cases h
/-! a call -/
section
variable {C : Ctx} {P : Program} {ρ : Env} (hC : CtxOK C P ρ) {φ : Pl} {w : World}
include hC in
theorem startF_ok {F : Facts} (hF : F.ok ρ) {f : Nat} {args : List AV} {xs : List Value} {h : Heap} {m : AM} (hw : WR ρ φ h w) (hG : Glob φ) (ha : VRs ρ φ args xs) (hs : startF C F f args h = some m) :
    MR ρ φ m (Frame.enter P f ⟨xs⟩ .normal) [] w ∧ m.h = h ∧ m.fr.fn = f := by
  unfold startF at hs
  cases hg : enterFr C f args false with
  | none => rw [hg] at hs; cases hs
  | some g =>
    rw [hg] at hs
    cases hs
    have hen := enter_ok (P := P) hC ha hg
    exact ⟨⟨hw, hF, by simpa using hen, trivial, hG⟩, rfl, hen.fn.symm.trans rfl⟩
include hC in
theorem start_ok {f : Nat} {args : List AV} {xs : List Value} {h : Heap} {m : AM} (hw : WR ρ φ h w) (hG : Glob φ) (ha : VRs ρ φ args xs) (hs : start C f args h = some m) :
    MR ρ φ m (Frame.enter P f ⟨xs⟩ .normal) [] w ∧ m.h = h ∧ m.fr.fn = f := by
  unfold start at hs
  cases hg : enterFr C f args false with
  | none => rw [hg] at hs; cases hs
  | some g =>
    rw [hg] at hs
    cases hs
    have hen := enter_ok (P := P) hC ha hg
    exact ⟨⟨hw, (fun p hp => by cases hp), by simpa using hen, trivial, hG⟩, rfl, hen.fn.symm.trans rfl⟩
/-- a leaf that is reached under rho -/
inductive Leaf (ρ : Env) : Tree → Tree → Prop
  | next (m : AM) : Leaf ρ (.next m) (.next m)
  | done (v : AV) (m : AM) : Leaf ρ (.done v m) (.done v m)
  | left {c : SB} {a b t : Tree} (h : c.den ρ = true) (hl : Leaf ρ a t) : Leaf ρ (.fork c a b) t
  | right {c : SB} {a b t : Tree} (h : c.den ρ = false) (hl : Leaf ρ b t) : Leaf ρ (.fork c a b) t
theorem TreeR.leaf {P : Program} {h : Heap} {base : List Frame} {fr : Frame} {cs : List Frame} {t u : Tree} (hl : Leaf ρ t u) (ht : TreeR P ρ φ h base fr cs w t) : TreeR P ρ φ h base fr cs w u := by
  induction hl with
  | next m => exact ht
  | done v m => exact ht
  | left hc _ ih => exact ih (ht.1 hc)
  | right hc _ ih => exact ih (ht.2 hc)
include hC in
/-- a call whose reckoning ends: it returns the value, and the world goes on as said -/
theorem calls_of_exec {f : Nat} {args : List AV} {xs : List Value} {h : Heap} {m m' : AM} {n : Nat} {v : AV} {F : Facts} (hF : F.ok ρ) (hw : WR ρ φ h w) (hG : Glob φ) (ha : VRs ρ φ args xs) (hs : startF C F f args h = some m)
    (hl : Leaf ρ (exec C n m) (.done v m')) (hfn : m'.fr.fn = f) :
    Calls P f ⟨xs⟩ w fun e w' => ∃ φ' z, e = .returned z ∧ VR ρ φ' v z ∧ Evo ρ φ h w φ' m'.h w' := by
  intro cs
  obtain ⟨hm, hh, _⟩ := startF_ok (P := P) hC hF hw hG ha hs
  have ht := TreeR.leaf hl (exec_ok hC n (base := cs) hm)
  rw [hh] at ht
  obtain ⟨φ', fr', w', z, h1, h2, h3, h4, h5⟩ := ht
  exact ⟨.returned z, w', fr', ⟨φ', z, rfl, h4, h5⟩, h1, h3.trans hfn, h2⟩
end
theorem Evo.kept {ρ : Env} {φ φ' : Pl} {h h' : Heap} {w w' : World} (he : Evo ρ φ h w φ' h' w') (hno : ∀ b, ¬ Own φ h b) : Kept w w' := ⟨fun b hb => he.keep b hb (hno b), he.same, he.size⟩
theorem Kept.but {W w' : World} (h : Kept W w') (may : MemPlace → Prop) : W.keptBut w' may := by
  refine ⟨h.same.1, h.same.2, fun i hi => ?_⟩
  rw [h.blk i hi]
  cases ho : W.heap[i]? with
  | none => rfl
  | some o => cases o <;> simp
theorem Kept.frozen {W w' : World} (h : Kept W w') (a : Addr) (ha : a.block < W.heap.size) : w'.frozen? a = W.frozen? a := by
  simp [World.frozen?, h.blk a.block ha]
end Go.Sx
namespace Go.Sx
def incr : List (Nat × ABlk) → Bool
  | [] => true
  | (i, _) :: l => below i l && incr l
where
  below (i : Nat) : List (Nat × ABlk) → Bool
    | [] => true
    | (j, _) :: l => Nat.blt i j && below i l
noncomputable def orcCheck (C : Ctx) (o : Orc) (n : Nat) : Bool := match startF C o.facts o.f o.args (heapOf' o.pre o.next) with
  | some m => (match exec C n m with
    | .done v m' => AV.beq v o.v && subB m'.h.t o.post && m'.h.next.beq o.next' && m'.fr.fn.beq o.f
    | _ => false)
  | none => false
theorem below_ok {i : Nat} : ∀ {l : List (Nat × ABlk)}, incr.below i l = true → ∀ p ∈ l, i < p.1
  | (j, b) :: l, h, p, hp => by
    simp only [incr.below, Bool.and_eq_true] at h
    rcases List.mem_cons.1 hp with rfl | hp
    · simpa using h.1
    · exact below_ok h.2 p hp
theorem incr_get : ∀ {l : List (Nat × ABlk)} {n : Nat}, incr l = true → ∀ p ∈ l, (heapOf' l n).t.get p.1 = some p.2
  | (j, b) :: l, n, h, p, hp => by
    simp only [incr, Bool.and_eq_true] at h
    show ((l.foldr (fun p (t : PT ABlk) => t.set p.1 p.2) .nil).set j b).get p.1 = some p.2
    rw [PT.get_set]
    rcases List.mem_cons.1 hp with rfl | hp
    · rw [if_pos rfl]
    · have := below_ok h.1 p hp
      rw [if_neg (by omega)]
      exact incr_get (n := n) h.2 p hp
theorem Evo.sub {ρ : Env} {φ φ' : Pl} {h h' h2 : Heap} {w w' : World} (he : Evo ρ φ h w φ' h' w') (hs : ∀ i b, h2.t.get i = some b → h'.t.get i = some b) (hn : h2.next = h'.next) : Evo ρ φ h w φ' h2 w' :=
  ⟨he.le, he.wr.sub hs hn, he.keep, fun b ⟨id, bb, L, h1, h2, h3, h4⟩ => he.own b ⟨id, bb, L, hs id bb h1, h2, h3, h4⟩, he.size, by rw [hn]; exact he.next, he.same⟩
theorem orc_of_check {C : Ctx} {P : Program} {ρ : Env} (hC : CtxOK C P ρ) {o : Orc} {n : Nat} (h : orcCheck C o n = true) (hnd : incr o.post = true) : OrcOK P ρ o := by
  refine ⟨fun φ w xs hw hG hF ha => ?_, incr_get hnd⟩
  unfold orcCheck at h
  split at h
  · rename_i m hs
    split at h
    · rename_i v m' hex
      simp only [Bool.and_eq_true] at h
      obtain ⟨⟨⟨h1, h2⟩, h3⟩, h4⟩ := h
      have hv := AV.beq_eq h1
      have hsub := subB_ok h2
      have hl : Leaf ρ (exec C n m) (.done v m') := by rw [hex]; exact .done v m'
      refine (calls_of_exec hC hF hw hG ha hs hl (beq_nat h4)).mono fun e w' ⟨φ', z, he, hz, hev⟩ => ?_
      subst hv
      exact ⟨φ', z, he, hz, hev.sub (fun i b hb => hsub _ (heapOf_mem hb)) (beq_nat h3).symm⟩
    · cases h
  · cases h
theorem orcs_nil {P : Program} {ρ : Env} : ∀ x ∈ ([] : List Orc), OrcOK P ρ x := fun x h => by cases h
theorem orcs_cons {P : Program} {ρ : Env} {o : Orc} {l : List Orc} (h : OrcOK P ρ o) (hl : ∀ x ∈ l, OrcOK P ρ x) : ∀ x ∈ o :: l, OrcOK P ρ x := fun x hx => by
  rcases List.mem_cons.1 hx with rfl | hx
  · exact h
  · exact hl x hx
theorem pors_nil {P : Program} {ρ : Env} : ∀ x ∈ ([] : List POrc), POrcOK P ρ x := fun x h => by cases h
theorem pors_cons {P : Program} {ρ : Env} {o : POrc} {l : List POrc} (h : POrcOK P ρ o) (hl : ∀ x ∈ l, POrcOK P ρ x) : ∀ x ∈ o :: l, POrcOK P ρ x := fun x hx => by
  rcases List.mem_cons.1 hx with rfl | hx
  · exact h
  · exact hl x hx
end Go.Sx
noncomputable section
namespace Go.Sx
/-! a state is taken for another one: names of blocks and letters are laid anew -/
/-- what is to be shown of the letters -/
inductive Eqn where
  | int (x y : SI)
  | str (x y : SS)
  | boo (x y : SB)
  | row (r size : Nat) (p : Option (RX × Nat)) (cs : List AV)
  | peek (r : Nat) (i : SI) (cs : List AV)
/-- which block of the state is meant by a name of the other one -/
structure Ren where
  low : Nat
  top : Nat
  l : List (Nat × Nat)
def look (i : Nat) : List (Nat × Nat) → Option Nat
  | [] => none
  | (a, b) :: l => bif a.beq i then some b else look i l
def Ren.get (R : Ren) (i : Nat) : Option Nat := bif Nat.blt i R.top then (bif Nat.blt i R.low then some i else look i R.l) else none
def Ren.at (R : Ren) (i j : Nat) : Bool := match R.get i with | some k => k.beq j | none => false
def eqI (a b : SI) : List Eqn := match a, b with
  | .lit x, .lit y => bif eqInt x y then [] else [.int a b]
  | a, b => [.int a b]
def eqS (a b : SS) : List Eqn := match SS.toLit a, SS.toLit b with
  | some x, some y => bif eqBytes x y then [] else [.str a b]
  | _, _ => [.str a b]
def eqB (a b : SB) : List Eqn := match a, b with
  | .lit x, .lit y => bif eqBool x y then [] else [.boo a b]
  | a, b => [.boo a b]
def both (a b : Option (List Eqn)) : Option (List Eqn) := match a with
  | none => none
  | some x => match b with
    | none => none
    | some y => some (x ++ y)
def fitFn (R : Ren) (a b : Fn) : Bool := match a with
  | .func f => (match b with | .func g => f.beq g | _ => false)
  | .yield l => (match b with | .yield m => R.at l m | _ => false)
  | _ => false
/-- a known capacity that is the length -/
def capFit (c d : Cap) (m : SI) : Bool := bif Cap.beq c d then true else match c, d, m with
  | .full, .known k, .lit (.ofNat l) => k.beq l
  | _, _, _ => false
variable (R : Ren)
mutual
def fitV : AV → AV → Option (List Eqn)
  | .bool a, .bool b => some (eqB a b)
  | .int k a, .int l b => bif eqKind k l then some (eqI a b) else none
  | .str a, .str b => some (eqS a b)
  | .ptr i o, .ptr j p => bif R.at i j && o.beq p then some [] else none
  | .nilPtr, .nilPtr => some []
  | .slice i o n c, .slice j p m d => bif R.at i j && o.beq p && capFit c d m then some (eqI n m) else none
  | .eslice i o, .eslice j p => bif R.at i j && o.beq p then some [] else none
  | .nilSlice, .nilSlice => some []
  | .func f a b, .func g c d => bif fitFn R f g then both (fitVs a c) (fitVs b d) else none
  | .nilFunc, .nilFunc => some []
  | .iface t a, .iface u b => bif t.beq u then fitV a b else none
  | .nilIface, .nilIface => some []
  | .agg a, .agg b => fitVs a b
  | .tup a, .tup b => fitVs a b
  | .nilMap, .nilMap => some []
  | _, _ => none
def fitVs : List AV → List AV → Option (List Eqn)
  | [], [] => some []
  | a :: x, b :: y => both (fitV a b) (fitVs x y)
  | _, _ => none
end
/-! tries as lists -/
def oddK {α : Type} (p : Nat × α) : Nat × α := (2 * p.1 + 1, p.2)
def evenK {α : Type} (p : Nat × α) : Nat × α := (2 * p.1 + 2, p.2)
def PT.toL {α : Type} : PT α → List (Nat × α)
  | .nil => []
  | .node l v r => match v with
    | some a => (0, a) :: ((PT.toL l).map oddK ++ (PT.toL r).map evenK)
    | none => (PT.toL l).map oddK ++ (PT.toL r).map evenK
def fitTms : List (Nat × AV) → PT AV → Option (List Eqn)
  | [], _ => some []
  | (t, a) :: l, tm => match tm.get t with
    | some b => both (fitV R a b) (fitTms l tm)
    | none => none
def fitTm (a b : PT AV) : Option (List Eqn) := fitTms R a.toL b
def eqNats : List Nat → List Nat → Bool
  | [], [] => true
  | a :: x, b :: y => a.beq b && eqNats x y
  | _, _ => false
def fitB (a b : ABlk) : Option (List Eqn) := match a, b with
  | .cells ro p cs e, .cells ro' p' cs' e' => bif eqBool ro ro' && e.beq e' then (match p, p' with
      | none, none => fitVs R cs cs'
      | some (.v r, z), p' => (match cs with
        | [] => bif cs'.all scalarAV then some [.row r z p' cs'] else none
        | _ => none)
      | _, _ => none) else none
  | .cells ro (some (.v r, z)) [] e, .rowv ro' r' z' _ _ e' => bif eqBool ro ro' && e.beq e' then some [.row r z (some (.v r', z')) []] else none
  | .rowv ro r z i cs e, .cells ro' p' cs' e' => bif eqBool ro ro' && e.beq e' && cs'.all scalarAV && cs.all scalarAV then some [.row r z p' cs', .peek r i cs] else none
  | .rowv ro r z i cs e, .rowv ro' r' z' _ _ e' => bif eqBool ro ro' && e.beq e' && cs.all scalarAV then some [.row r z (some (.v r', z')) [], .peek r i cs] else none
  | .bytes s e z, .bytes s' e' z' => bif e.beq e' && (z || !z') then some (eqS s s') else none
  | .loop st pd f n tm ps _ _ d, .loop st' pd' f' n' tm' ps' _ _ d' =>
    bif st.ctorIdx.beq st'.ctorIdx && isNone pd && isNone pd' && f.beq f' && n.beq n' && eqNats ps ps' && R.at d d' then fitTm R tm tm' else none
  | .defd a, .defd b => bif eqBool a b then some [] else none
  | _, _ => none
def fitHs : List (Nat × ABlk) → Heap → Option (List Eqn)
  | [], _ => some []
  | (i, a) :: l, h => match R.get i with
    | some j => (match h.t.get j with
      | some b => both (fitB R a b) (fitHs l h)
      | none => none)
    | none => none
def notIn (i : Nat) : List (Nat × ABlk) → Bool
  | [] => true
  | (j, _) :: l => (match R.get i, R.get j with | some a, some b => !a.beq b | _, _ => false) && notIn i l
def onceH : List (Nat × ABlk) → Bool
  | [] => true
  | (i, _) :: l => notIn R i l && onceH l
def fitH (a : Heap) (b : Heap) : Option (List Eqn) := bif a.next.beq R.top && onceH R a.t.toL then fitHs R a.t.toL b else none
def fitTg (a b : ATarget) : Option (List Eqn) := match a, b with
  | .fn f c, .fn g d => bif fitFn R f g then fitVs R c d else none
  | .collected r, .collected s => bif R.at r s then some [] else none
  | _, _ => none
def fitDs : List ADef → List ADef → Option (List Eqn)
  | [], [] => some []
  | a :: x, b :: y => both (both (fitTg R a.target b.target) (fitVs R a.args b.args)) (fitDs x y)
  | _, _ => none
def fitRd (a b : Option Nat) : Bool := match a, b with
  | none, none => true
  | some l, some m => R.at l m
  | _, _ => false
def isRunB (m : AMode) : Bool := match m with | .run => true | _ => false
def fitFr (a b : AFr) : Option (List Eqn) :=
  bif a.fn.beq b.fn && a.n.beq b.n && isRunB a.mode && isRunB b.mode && eqBool a.deferred b.deferred && fitRd R a.round b.round then both (fitTm R a.tmps b.tmps) (fitDs R a.defers b.defers) else none
def fitFrs : List AFr → List AFr → Option (List Eqn)
  | [], [] => some []
  | a :: x, b :: y => both (fitFr R a b) (fitFrs x y)
  | _, _ => none
def fitM (a b : AM) : Option (List Eqn) :=
  bif Nat.ble 64 R.low && Nat.ble 64 R.top then both (fitFrs R (a.fr :: a.cs) (b.fr :: b.cs)) (fitH R a.h b.h) else none
/-- what a frame has still to do, in the state's names -/
def renIt : AItem → Option AItem
  | .code c => some (.code c)
  | .inBlock i => some (.inBlock i)
  | .inLoop c => some (.inLoop c)
  | .inScope c => some (.inScope c)
  | .reg ops i rest => some (.reg ops i rest)
  | .draw _ _ _ => none
  | .inRangeFunc l => (match R.get l with | some m => some (.inRangeFunc m) | none => none)
  | .endRangeFunc l => (match R.get l with | some m => some (.endRangeFunc m) | none => none)
  | .beginRound => some .beginRound
def renIts : List AItem → Option (List AItem)
  | [] => some []
  | a :: l => match renIt R a, renIts l with
    | some b, some m => some (b :: m)
    | _, _ => none
def codesB (b : Option ABlk) : List AItem := match b with
  | some (.loop _ _ _ _ _ _ x y _) => [.code x, .code y]
  | _ => []
def blkAt (h : Heap) (i : Nat) : Option ABlk := match R.get i with
  | some j => h.t.get j
  | none => none
def codesT (a : AM) : List (Option (List AItem)) := ((a.fr :: a.cs).map fun f => renIts R f.todo) ++ (a.h.t.toL.map fun p => some (codesB (some p.2)))
def codesL (a b : AM) : List (Option (List AItem)) := ((b.fr :: b.cs).map fun f => some f.todo) ++ (a.h.t.toL.map fun p => some (codesB (blkAt R b.h p.1)))

/-! heads of loops -/
def heads : Code → List AItem → List (List AItem)
  | .seq a b, k => heads a (.code b :: k) ++ heads b k
  | .cond _ a e, k => heads a k ++ heads e k
  | .block id a, k => heads a (.inBlock id :: k)
  | .loop a, k => (.inLoop a :: k) :: heads a (.inLoop a :: k)
  | .scope a, k => heads a (.inScope a :: k)
  | _, _ => []
def headOf (C : Ctx) (f i : Nat) : List AItem := match C.fn.get f with
  | some fn => (match fn.body with | some b => (heads b []).getD i [] | none => [])
  | none => []
def ntm (C : Ctx) (f : Nat) : Nat := match C.fn.get f with | some fn => fn.ntmps | none => 0
def tmOf (l : List (Nat × AV)) : PT AV := l.foldr (fun p t => t.set p.1 p.2) .nil
def hpOf (l : List (Nat × ABlk)) (n : Nat) : Heap := ⟨l.foldr (fun p t => t.set p.1 p.2) .nil, n⟩
/-- the places in a code: heads of loops, and operations of regions -/
def regAt (ops : Array Oper) (k : List AItem) : List Oper → Nat → List (List AItem)
  | [], _ => []
  | o :: r, i => (.reg ops i (o :: r) :: k) :: regAt ops k r (Nat.succ i)
def spots : Code → List AItem → List (List AItem)
  | .seq a b, k => spots a (.code b :: k) ++ spots b k
  | .cond _ a e, k => spots a k ++ spots e k
  | .block id a, k => spots a (.inBlock id :: k)
  | .loop a, k => (.inLoop a :: k) :: spots a (.inLoop a :: k)
  | .scope a, k => spots a (.inScope a :: k)
  | .region _ ops _, k => regAt ops k ops.toList 0
  | _, _ => []
def spotsOf (C : Ctx) (f : Nat) : List (List AItem) := match C.fn.get f with
  | some fn => (match fn.body with | some b => spots b [] | none => [])
  | none => []
def lenL {α : Type} : List α → Nat
  | [] => 0
  | _ :: l => Nat.succ (lenL l)
/-- is this a head (of so many items) in the function, so deep? -/
def stopAt (f d n : Nat) (m : AM) : Bool := match m.fr.todo with
  | .inLoop _ :: _ => m.fr.fn.beq f && (lenL m.cs).beq d && (lenL m.fr.todo).beq n
  | _ => false
def stopAny (l : List (Nat × Nat × Nat)) (m : AM) : Bool := match l with
  | [] => false
  | (f, d, n) :: l => stopAt f d n m || stopAny l m
variable (C : Ctx)
def execS (stop : AM → Bool) : Nat → AM → Tree
  | 0, m => .next m
  | n + 1, m => match stepA C m with
    | .next m => bif stop m then .next m else execS stop n m
    | .fork c m => .fork c (execS stop n (m.addFact c true)) (execS stop n (m.addFact c false))
    | .done v m => .done v m
    | .dead c m => .dead c m
    | .fail w m => .fail w m
/-- what is asked of a tree's leaves -/
inductive Plan where
  | fork (a b : Plan)
  | alt (a b : Plan)
  | to (k : Nat) (R : Ren)
  | fin (R : Ren)
  | no
inductive OT where
  | fork (c : SB) (a b : OT)
  | alt (a b : OT)
  | to (k : Nat) (R : Ren) (E : List Eqn)
  | fin (R : Ren) (E : List Eqn)
  | no
def noLoops : List (Nat × ABlk) → Bool
  | [] => true
  | (_, b) :: l => (match b with | .loop _ _ _ _ _ _ _ _ _ => false | _ => true) && noLoops l
def fitD (R : Ren) (v : AV) (h : Heap) (v' : AV) (m : AM) (f : Nat) : Option (List Eqn) :=
  bif Nat.ble 64 R.low && Nat.ble 64 R.top && m.fr.fn.beq f && noLoops h.t.toL then both (fitV R v v') (fitH R h m.h) else none
def evalT (tg : Nat → AM) (v : AV) (h : Heap) (f : Nat) : Plan → Tree → Option OT
  | .no, _ => some .no
  | .alt p q, t => (match evalT tg v h f p t, evalT tg v h f q t with
    | some x, some y => some (.alt x y)
    | _, _ => none)
  | .fork p q, .fork c a b => (match evalT tg v h f p a, evalT tg v h f q b with
    | some x, some y => some (.fork c x y)
    | _, _ => none)
  | .to k R, .next m => (match fitM R (tg k) m with | some E => some (.to k R E) | none => none)
  | .fin R, .done v' m => (match fitD R v h v' m f with | some E => some (.fin R E) | none => none)
  | _, _ => none
def codeT (tg : Nat → AM) : Plan → Tree → List (List (Option (List AItem)))
  | .alt p q, t => codeT tg p t ++ codeT tg q t
  | .fork p q, .fork _ a b => codeT tg p a ++ codeT tg q b
  | .to k R, .next _ => [codesT R (tg k)]
  | _, _ => []
def codeL (tg : Nat → AM) : Plan → Tree → List (List (Option (List AItem)))
  | .alt p q, t => codeL tg p t ++ codeL tg q t
  | .fork p q, .fork _ a b => codeL tg p a ++ codeL tg q b
  | .to k R, .next m => [codesL R (tg k) m]
  | _, _ => []
/-! nodes -/
def nd (f i : Nat) (tm : List (Nat × AV)) (h : List (Nat × ABlk)) (next : Nat) (F : Facts) : AM := ⟨⟨f, ntm C f, tmOf tm, headOf C f i, [], .run, false, none⟩, [], hpOf h next, F⟩
/-- a frame at a place -/
def frS (C : Ctx) (f s : Nat) (tm : List (Nat × AV)) (ds : List ADef) : AFr := ⟨f, ntm C f, tmOf tm, (spotsOf C f).getD s [], ds, .run, false, none⟩
def ndS (fr : AFr) (cs : List AFr) (h : List (Nat × ABlk)) (next : Nat) (F : Facts) : AM := ⟨fr, cs, hpOf h next, F⟩
def junk : AM := ⟨⟨0, 0, .nil, [], [], .run, false, none⟩, [], ⟨.nil, 0⟩, []⟩
def st (f : Nat) (args : List AV) (h : Heap) (F : Facts) : AM := match startF C F f args h with
  | some m => m
  | none => junk
/-! nodes that are taken from a run: the first stop on a way through the forks -/
def leafAt : Tree → List Bool → AM
  | .next m, _ => m
  | .fork _ a b, d :: l => bif d then leafAt a l else leafAt b l
  | _, _ => junk
def someT (tm : PT AV) (l : List Nat) : PT AV := l.foldr (fun i t => match tm.get i with | some v => t.set i v | none => t) .nil
def lessB (kl : List Nat) (b : ABlk) : ABlk := match b with
  | .loop st pd f n tm ps x y d => .loop st pd f n (someT tm kl) ps x y d
  | b => b
def keepB (kl : List Nat) (t : PT ABlk) : List Nat → PT ABlk
  | [] => .nil
  | i :: l => match t.get i with
    | some b => (keepB kl t l).set i (lessB kl b)
    | none => keepB kl t l
def lessFr (l : List Nat) (f : AFr) : AFr := match f with
  | ⟨f, n, tms, td, ds, md, df, rd⟩ => ⟨f, n, someT tms l, td, ds, md, df, rd⟩
def lessFrs : List (List Nat) → List AFr → List AFr
  | k :: ks, f :: fs => lessFr k f :: lessFrs ks fs
  | _, fs => fs
/-- the state with other letters: its frame's values (some as they are, some anew), some of its callers' values, some of its blocks as they are (of a loop: some of its values), others laid anew -/
def ndAt (m : AM) (keepT : List Nat) (tm : List (Nat × AV)) (keepC : List (List Nat)) (keep kl : List Nat) (l : List (Nat × ABlk)) (next : Nat) (F : Facts) : AM := match m with
  | ⟨⟨f, n, tms, td, ds, md, df, rd⟩, cs, h, _⟩ => ⟨⟨f, n, tm.foldr (fun p t => t.set p.1 p.2) (someT tms keepT), td, ds, md, df, rd⟩, lessFrs keepC cs, ⟨l.foldr (fun p t => t.set p.1 p.2) (keepB kl h.t keep), next⟩, F⟩
/-- what stands behind a loop -/
def behind (l : List AItem) : List AItem := match l with
  | .inLoop _ :: .inBlock _ :: k => k
  | l => l
/-- is this a place ahead of a code (of so many items), one value laid, another not yet? -/
def stopBk (f n t u : Nat) (m : AM) : Bool := match m.fr.todo with
  | .code _ :: _ => m.fr.fn.beq f && (lenL m.cs).beq 0 && (lenL m.fr.todo).beq n && (match m.fr.tmps.get t with | some _ => true | none => false) && (match m.fr.tmps.get u with | some _ => false | none => true)
  | _ => false
/-- is this the beginning of a call, so deep? -/
def stopEn (f d u : Nat) (m : AM) : Bool := match m.fr.todo with
  | [.code _] => m.fr.fn.beq f && (lenL m.cs).beq d && (match m.fr.tmps.get u with | some _ => false | none => true)
  | _ => false
/-- is this a loop's head in a function whose value t points to a text that begins with a letter? -/
def stopStr (f t : Nat) (m : AM) : Bool := match m.fr.todo with
  | .inLoop _ :: _ => m.fr.fn.beq f && (match m.fr.tmps.get t with
    | some (.ptr r _) => (match m.h.t.get r with
      | some (.cells _ _ (.str (.var _ :: _) :: _) _) => true
      | _ => false)
    | _ => false)
  | _ => false
/-- the state behind a loop -/
def bk (C : Ctx) (f i : Nat) (tm : List (Nat × AV)) (h : List (Nat × ABlk)) (next : Nat) (F : Facts) : AM := ⟨⟨f, ntm C f, tmOf tm, behind (headOf C f i), [], .run, false, none⟩, [], hpOf h next, F⟩
def OT.plan : OT → Plan
  | .fork _ a b => .fork (OT.plan a) (OT.plan b)
  | .alt a b => .alt (OT.plan a) (OT.plan b)
  | .to k R _ => .to k R
  | .fin R _ => .fin R
  | .no => .no
def pick (l : List AM) (k : Nat) : AM := l.getD k junk
end Go.Sx
end
namespace Go.Sx
def Eqn.ok (ρ' ρ : Env) : Eqn → Prop
  | .int x y => x.den ρ' = y.den ρ
  | .str x y => SS.den ρ' x = SS.den ρ y
  | .boo x y => x.den ρ' = y.den ρ
  | .row r z p cs => (ρ'.rows r).flatten = preCells ρ p ++ cs.map (AV.val ρ) ∧ RX.ok ρ' z (.v r)
  | .peek r i cs => 0 ≤ i.den ρ' ∧ ∀ xs, (ρ'.rows r)[(i.den ρ').toNat]? = some xs → xs = cs.map (AV.val ρ')
def Eqns (ρ' ρ : Env) (E : List Eqn) : Prop := ∀ e ∈ E, e.ok ρ' ρ
/-- the places in the other one's names -/
def Ren.pl (R : Ren) (φ : Pl) : Pl := fun i => match R.get i with | some j => φ j | none => none
theorem Ren.at_get {R : Ren} {i j : Nat} (h : R.at i j = true) : R.get i = some j := by
  unfold Ren.at at h
  split at h
  · rename_i k hk
    rw [hk, beq_nat h]
  · cases h
theorem Ren.pl_at {R : Ren} {φ : Pl} {i j : Nat} (h : R.at i j = true) : R.pl φ i = φ j := by
  unfold Ren.pl; rw [Ren.at_get h]
theorem Ren.pl_get {R : Ren} {φ : Pl} {i j : Nat} (h : R.get i = some j) : R.pl φ i = φ j := by
  unfold Ren.pl; rw [h]
theorem Ren.get_lt {R : Ren} {i j : Nat} (h : R.get i = some j) : i < R.top := by
  unfold Ren.get at h
  cases hb : Nat.blt i R.top
  · rw [hb] at h; cases h
  · simpa using hb
theorem Ren.get_low {R : Ren} {i : Nat} (h : i < R.low) (h2 : i < R.top) : R.get i = some i := by
  unfold Ren.get
  have e1 : Nat.blt i R.top = true := by simpa using h2
  have e2 : Nat.blt i R.low = true := by simpa using h
  rw [e1, e2]; rfl
theorem Eqns.app {ρ' ρ : Env} {a b : List Eqn} (h : Eqns ρ' ρ (a ++ b)) : Eqns ρ' ρ a ∧ Eqns ρ' ρ b :=
  ⟨fun e he => h e (List.mem_append_left _ he), fun e he => h e (List.mem_append_right _ he)⟩
theorem both_some {a b : Option (List Eqn)} {c : List Eqn} (h : both a b = some c) : ∃ x y, a = some x ∧ b = some y ∧ c = x ++ y := by
  unfold both at h
  split at h
  · cases h
  · split at h
    · cases h
    · cases h; exact ⟨_, _, rfl, rfl, rfl⟩
section
variable {ρ' ρ : Env} {φ : Pl} {R : Ren}
theorem eqI_ok {a b : SI} (h : Eqns ρ' ρ (eqI a b)) : a.den ρ' = b.den ρ := by
  unfold eqI at h
  split at h
  · rename_i x y
    cases hb : eqInt x y
    · rw [hb] at h; exact h (.int _ _) List.mem_cons_self
    · rw [eqInt_eq hb]; simp [SI.den]
  · exact h (.int _ _) List.mem_cons_self
theorem eqS_ok {a b : SS} (h : Eqns ρ' ρ (eqS a b)) : SS.den ρ' a = SS.den ρ b := by
  unfold eqS at h
  split at h
  · rename_i x y hx hy
    cases hb : eqBytes x y
    · rw [hb] at h; exact h (.str _ _) List.mem_cons_self
    · rw [SS.toLit_den ρ' hx, SS.toLit_den ρ hy, eqBytes_eq hb]
  · exact h (.str _ _) List.mem_cons_self
theorem eqB_ok {a b : SB} (h : Eqns ρ' ρ (eqB a b)) : a.den ρ' = b.den ρ := by
  unfold eqB at h
  split at h
  · rename_i x y
    cases hb : eqBool x y
    · rw [hb] at h; exact h (.boo _ _) List.mem_cons_self
    · rw [eqBool_eq hb]; simp [SB.den]
  · exact h (.boo _ _) List.mem_cons_self
theorem fitFn_ok {a b f : Fn} (h : fitFn R a b = true) (hr : fnRel φ b f) : fnRel (R.pl φ) a f := by
  unfold fitFn at h
  split at h
  · split at h
    · rw [beq_nat h]; exact hr
    · cases h
  · split at h
    · obtain ⟨L, h1, h2⟩ := hr
      exact ⟨L, by rw [Ren.pl_at h]; exact h1, h2⟩
    · cases h
  · cases h
mutual
theorem fitV_ok : ∀ {a b : AV} {E : List Eqn} {v : Value}, fitV R a b = some E → Eqns ρ' ρ E → VR ρ φ b v → VR ρ' (R.pl φ) a v
  | .bool a, b0, E, v, h, he, hv => by
    cases b0 with
    | bool b =>
      simp only [fitV, Option.some.injEq] at h; subst h
      simp only [VR] at hv ⊢; rw [eqB_ok he]; exact hv
    | _ => simp only [fitV] at h; cases h
  | .int k a, b0, E, v, h, he, hv => by
    cases b0 with
    | int l b =>
      simp only [fitV] at h
      cases hk : eqKind k l
      · rw [hk] at h; cases h
      · rw [hk] at h
        simp only [_root_.cond_true, Option.some.injEq] at h; subst h
        have := eqKind_eq hk; subst this
        simp only [VR] at hv ⊢; rw [eqI_ok he]; exact hv
    | _ => simp only [fitV] at h; cases h
  | .str a, b0, E, v, h, he, hv => by
    cases b0 with
    | str b =>
      simp only [fitV, Option.some.injEq] at h; subst h
      simp only [VR] at hv ⊢; rw [eqS_ok he]; exact hv
    | _ => simp only [fitV] at h; cases h
  | .ptr i o, b0, E, v, h, he, hv => by
    cases b0 with
    | ptr j p =>
      simp only [fitV] at h
      cases hc : R.at i j && o.beq p
      · rw [hc] at h; cases h
      · simp only [Bool.and_eq_true] at hc
        have := beq_nat hc.2; subst this
        simp only [VR] at hv ⊢
        obtain ⟨L, h1, h2⟩ := hv
        exact ⟨L, by rw [Ren.pl_at hc.1]; exact h1, h2⟩
    | _ => simp only [fitV] at h; cases h
  | .nilPtr, b0, _, _, h, _, hv => by
    cases b0 with
    | nilPtr =>
      simpa only [VR] using hv
    | _ => simp only [fitV] at h; cases h
  | .slice i o n c, b0, E, v, h, he, hv => by
    cases b0 with
    | slice j p m d =>
      simp only [fitV] at h
      cases hc : R.at i j && o.beq p && capFit c d m
      · rw [hc] at h; cases h
      · rw [hc] at h
        simp only [_root_.cond_true, Option.some.injEq] at h; subst h
        simp only [Bool.and_eq_true] at hc
        have := beq_nat hc.1.2; subst this
        have hcf := hc.2
        simp only [VR] at hv ⊢
        obtain ⟨L, h1, h2⟩ := hv
        rw [eqI_ok he]
        refine ⟨L, by rw [Ren.pl_at hc.1.1]; exact h1, ?_⟩
        unfold capFit at hcf
        cases hcb : Cap.beq c d
        · rw [hcb] at hcf
          simp only [_root_.cond_false] at hcf
          split at hcf
          · have := beq_nat hcf; subst this
            simpa [Cap.val, SI.den] using h2
          · cases hcf
        · have := Cap.beq_eq hcb; subst this
          exact h2
    | _ => simp only [fitV] at h; cases h
  | .eslice i o, b0, E, v, h, he, hv => by
    cases b0 with
    | eslice j p =>
      simp only [fitV] at h
      cases hc : R.at i j && o.beq p
      · rw [hc] at h; cases h
      · simp only [Bool.and_eq_true] at hc
        have := beq_nat hc.2; subst this
        simp only [VR] at hv ⊢
        obtain ⟨L, o, c, h1, h2⟩ := hv
        exact ⟨L, o, c, by rw [Ren.pl_at hc.1]; exact h1, h2⟩
    | _ => simp only [fitV] at h; cases h
  | .nilSlice, b0, _, _, h, _, hv => by
    cases b0 with
    | nilSlice =>
      simpa only [VR] using hv
    | _ => simp only [fitV] at h; cases h
  | .func f a b, b0, E, v, h, he, hv => by
    cases b0 with
    | func g c d =>
      simp only [fitV] at h
      cases hf : fitFn R f g
      · rw [hf] at h; cases h
      · rw [hf] at h
        simp only [_root_.cond_true] at h
        obtain ⟨x, y, h1, h2, rfl⟩ := both_some h
        simp only [VR] at hv ⊢
        obtain ⟨k, xs, ys, h3, h4, h5, h6⟩ := hv
        exact ⟨k, xs, ys, h3, fitFn_ok hf h4, fitVs_ok h1 he.app.1 h5, fitVs_ok h2 he.app.2 h6⟩
    | _ => simp only [fitV] at h; cases h
  | .nilFunc, b0, _, _, h, _, hv => by
    cases b0 with
    | nilFunc =>
      simpa only [VR] using hv
    | _ => simp only [fitV] at h; cases h
  | .iface t a, b0, E, v, h, he, hv => by
    cases b0 with
    | iface u b =>
      simp only [fitV] at h
      cases hc : t.beq u
      · rw [hc] at h; cases h
      · rw [hc] at h
        have := beq_nat hc; subst this
        simp only [VR] at hv ⊢
        obtain ⟨x, h1, h2⟩ := hv
        exact ⟨x, h1, fitV_ok h he h2⟩
    | _ => simp only [fitV] at h; cases h
  | .nilIface, b0, _, _, h, _, hv => by
    cases b0 with
    | nilIface =>
      simpa only [VR] using hv
    | _ => simp only [fitV] at h; cases h
  | .agg a, b0, E, v, h, he, hv => by
    cases b0 with
    | agg b =>
      simp only [fitV] at h
      simp only [VR] at hv ⊢
      obtain ⟨x, h1, h2⟩ := hv
      exact ⟨x, h1, fitVs_ok h he h2⟩
    | _ => simp only [fitV] at h; cases h
  | .tup a, b0, E, v, h, he, hv => by
    cases b0 with
    | tup b =>
      simp only [fitV] at h
      simp only [VR] at hv ⊢
      obtain ⟨x, h1, h2⟩ := hv
      exact ⟨x, h1, fitVs_ok h he h2⟩
    | _ => simp only [fitV] at h; cases h
  | .nilMap, b0, _, _, h, _, hv => by
    cases b0 with
    | nilMap =>
      simpa only [VR] using hv
    | _ => simp only [fitV] at h; cases h
theorem fitVs_ok : ∀ {a b : List AV} {E : List Eqn} {v : List Value}, fitVs R a b = some E → Eqns ρ' ρ E → VRs ρ φ b v → VRs ρ' (R.pl φ) a v
  | [], [], _, _, _, _, hv => by rw [VRs.nil_left hv]; exact VRs.nil
  | a :: x, b :: y, E, v, h, he, hv => by
    simp only [fitVs] at h
    obtain ⟨p, q, h1, h2, rfl⟩ := both_some h
    obtain ⟨z, zs, rfl, h3, h4⟩ := VRs.cons_left hv
    exact VRs.cons (fitV_ok h1 he.app.1 h3) (fitVs_ok h2 he.app.2 h4)
  | [], _ :: _, _, _, h, _, _ => by simp only [fitVs] at h; cases h
  | _ :: _, [], _, _, h, _, _ => by simp only [fitVs] at h; cases h
end
/-! tries as lists -/
theorem PT.mem_toL {α : Type} : ∀ (t : PT α) (i : Nat) (a : α), t.get i = some a → (i, a) ∈ t.toL
  | .nil, i, a, h => by cases h
  | .node l v r, i, a, h => by
    rw [PT.get_node] at h
    have key : ∀ p ∈ (PT.toL l).map oddK ++ (PT.toL r).map evenK, p ∈ PT.toL (.node l v r) := by
      intro p hp
      cases v with
      | none => exact hp
      | some b => exact List.mem_cons_of_mem _ hp
    by_cases h0 : i = 0
    · rw [if_pos h0] at h
      subst h h0
      exact List.mem_cons_self
    · rw [if_neg h0] at h
      by_cases h1 : i % 2 = 1
      · rw [if_pos h1] at h
        refine key _ (List.mem_append_left _ (List.mem_map.2 ⟨_, PT.mem_toL l _ a h, ?_⟩))
        simp only [oddK, Prod.mk.injEq, and_true]; omega
      · rw [if_neg h1] at h
        refine key _ (List.mem_append_right _ (List.mem_map.2 ⟨_, PT.mem_toL r _ a h, ?_⟩))
        simp only [evenK, Prod.mk.injEq, and_true]; omega
theorem fitTms_ok : ∀ {l : List (Nat × AV)} {tm : PT AV} {E : List Eqn} {x : Array Value}, fitTms R l tm = some E → Eqns ρ' ρ E → TmR ρ φ tm x → ∀ p ∈ l, ∃ y, x[p.1]? = some y ∧ VR ρ' (R.pl φ) p.2 y
  | (t, a) :: l, tm, E, x, h, he, hx, p, hp => by
    simp only [fitTms] at h
    split at h
    · rename_i b hb
      obtain ⟨u, v, h1, h2, rfl⟩ := both_some h
      rcases List.mem_cons.1 hp with rfl | hp
      · obtain ⟨y, h3, h4⟩ := hx t b hb
        exact ⟨y, h3, fitV_ok h1 he.app.1 h4⟩
      · exact fitTms_ok h2 he.app.2 hx p hp
    · cases h
theorem fitTm_ok {a b : PT AV} {E : List Eqn} {x : Array Value} (h : fitTm R a b = some E) (he : Eqns ρ' ρ E) (hx : TmR ρ φ b x) : TmR ρ' (R.pl φ) a x :=
  fun t v hv => fitTms_ok h he hx (t, v) (PT.mem_toL a t v hv)
theorem eqNats_eq : ∀ {a b : List Nat}, eqNats a b = true → a = b
  | [], [], _ => rfl
  | a :: x, b :: y, h => by
    simp only [eqNats, Bool.and_eq_true] at h
    rw [beq_nat h.1, eqNats_eq h.2]
  | [], _ :: _, h => by cases h
  | _ :: _, [], h => by cases h
theorem loopState_eq {a b : LoopState} (h : a.ctorIdx.beq b.ctorIdx = true) : a = b := by
  cases a <;> cases b <;> first | rfl | cases h
theorem isNone_eq {α : Type} {o : Option α} (h : isNone o = true) : o = none := by cases o <;> first | rfl | cases h
/-- a block that begins with rows -/
def RowsR (ρ : Env) (L : Loc) (ro : Bool) (r z elem : Nat) (o : Obj) : Prop :=
  (∃ (ek : Nat) (c : Array Value) (lo hi : Nat) (rest : List Value), o = .cells c ek (lo, hi) ∧ (ro = true ∨ (hi = 0 ∧ ek = elem)) ∧ (c.size = L.base + L.n ∨ (ro = true ∧ L.base + L.n ≤ c.size ∧ (ρ.rows r).flatten.length ≤ L.n ∧ elem ≠ 1000)) ∧
    c.toList.drop L.base = (ρ.rows r).flatten ++ rest) ∧ RX.ok ρ z (.v r)
theorem RowsR.cells {ρ : Env} {φ : Pl} {L : Loc} {ro : Bool} {r z elem : Nat} {o : Obj} (h : RowsR ρ L ro r z elem o) : BR ρ φ L (.cells ro (some (.v r, z)) [] elem) o := by
  obtain ⟨⟨ek, c, lo, hi, rest, h1, h2, h3, h4⟩, h5⟩ := h
  refine ⟨ek, c, lo, hi, [], rest, h1, h2, ?_, ?_, VRs.nil, h5⟩
  · rcases h3 with h3 | ⟨h3, h6, h7⟩
    · exact .inl h3
    · exact .inr ⟨h3, h6, by simpa [preCells, RX.flat] using h7.1, h7.2⟩
  · rw [h4]; simp [preCells, RX.flat]
theorem RowsR.rowv {ρ ρ0 : Env} {φ : Pl} {L : Loc} {ro : Bool} {r z elem : Nat} {o : Obj} {i : SI} {cs : List AV} (h : RowsR ρ L ro r z elem o) (hs : cs.all scalarAV = true) (hp : (Eqn.peek r i cs).ok ρ ρ0) : BR ρ φ L (.rowv ro r z i cs elem) o :=
  ⟨h.1, h.2, hp.1, fun xs hx => by rw [hp.2 xs hx]; exact vals_VR hs⟩
theorem rows_of_cells {ρ' ρ : Env} {φ : Pl} {L : Loc} {ro : Bool} {p : Option (RX × Nat)} {cs : List AV} {r z elem : Nat} {o : Obj} (hs : cs.all scalarAV = true) (he : (Eqn.row r z p cs).ok ρ' ρ) (hb : BR ρ φ L (.cells ro p cs elem) o) : RowsR ρ' L ro r z elem o := by
  obtain ⟨ek, c, lo, hi, xs, rest, h1, h2, h3, h4, h5, h6⟩ := hb
  obtain ⟨hr1, hr2⟩ := he
  rw [← vals_of hs h5] at hr1
  refine ⟨⟨ek, c, lo, hi, rest, h1, h2, ?_, by rw [h4, hr1]⟩, hr2⟩
  rcases h3 with h3 | ⟨h3, h7, h8⟩
  · exact .inl h3
  · exact .inr ⟨h3, h7, by rw [hr1, List.length_append]; exact h8.1, h8.2⟩
theorem rows_of_rowv {ρ' ρ : Env} {φ : Pl} {L : Loc} {ro : Bool} {cs : List AV} {r z r' z' elem : Nat} {i : SI} {o : Obj} (he : (Eqn.row r z (some (.v r', z')) []).ok ρ' ρ) (hb : BR ρ φ L (.rowv ro r' z' i cs elem) o) : RowsR ρ' L ro r z elem o := by
  obtain ⟨⟨ek, c, lo, hi, rest, h1, h2, h3, h4⟩, _⟩ := hb
  obtain ⟨hr1, hr2⟩ := he
  have hr1 : (ρ'.rows r).flatten = (ρ.rows r').flatten := by rw [hr1]; simp [preCells, RX.flat]
  refine ⟨⟨ek, c, lo, hi, rest, h1, h2, ?_, by rw [h4, hr1]⟩, hr2⟩
  rcases h3 with h3 | ⟨h3, h7, h8⟩
  · exact .inl h3
  · exact .inr ⟨h3, h7, by rw [hr1]; exact h8.1, h8.2⟩
theorem fitB_ok {L : Loc} {a b : ABlk} {E : List Eqn} {o : Obj} (h : fitB R a b = some E) (hc : codesB (some a) = codesB (some b)) (he : Eqns ρ' ρ E) (hb : BR ρ φ L b o) : BR ρ' (R.pl φ) L a o ∧ a.owned = b.owned := by
  cases a with
  | cells ro p cs e =>
    cases b with
    | cells ro' p' cs' e' =>
      cases p with
      | none =>
        simp only [fitB] at h
        cases hk : eqBool ro ro' && e.beq e'
        · rw [hk] at h; cases h
        · rw [hk] at h
          simp only [_root_.cond_true] at h
          simp only [Bool.and_eq_true] at hk
          have := eqBool_eq hk.1; subst this
          have := beq_nat hk.2; subst this
          cases p' with
          | some q => cases h
          | none =>
            obtain ⟨ek, c, lo, hi, xs, rest, h1, h2, h3, h4, h5, h6⟩ := hb
            exact ⟨⟨ek, c, lo, hi, xs, rest, h1, h2, h3, h4, fitVs_ok h he h5, trivial⟩, rfl⟩
      | some q =>
        obtain ⟨x, z⟩ := q
        cases x with
        | cs l y => simp only [fitB] at h; cases hk : eqBool ro ro' && e.beq e' <;> rw [hk] at h <;> cases h
        | v r =>
          simp only [fitB] at h
          cases hk : eqBool ro ro' && e.beq e'
          · rw [hk] at h; cases h
          · rw [hk] at h
            simp only [_root_.cond_true] at h
            simp only [Bool.and_eq_true] at hk
            have := eqBool_eq hk.1; subst this
            have := beq_nat hk.2; subst this
            cases cs with
            | cons _ _ => cases h
            | nil =>
              cases hsc : cs'.all scalarAV
              · rw [hsc] at h; cases h
              · rw [hsc] at h; cases h
                exact ⟨(rows_of_cells hsc (he _ List.mem_cons_self) hb).cells, rfl⟩
    | rowv ro' r' z' i' cs' e' =>
      cases p with
      | none => simp only [fitB] at h; cases h
      | some q =>
        obtain ⟨x, z⟩ := q
        cases x with
        | cs l y => simp only [fitB] at h; cases h
        | v r =>
          cases cs with
          | cons _ _ => simp only [fitB] at h; cases h
          | nil =>
            simp only [fitB] at h
            cases hk : eqBool ro ro' && e.beq e'
            · rw [hk] at h; cases h
            · rw [hk] at h; cases h
              simp only [Bool.and_eq_true] at hk
              have := eqBool_eq hk.1; subst this
              have := beq_nat hk.2; subst this
              exact ⟨(rows_of_rowv (he _ List.mem_cons_self) hb).cells, rfl⟩
    | _ => simp only [fitB] at h; cases h
  | rowv ro r z i cs e =>
    cases b with
    | cells ro' p' cs' e' =>
      simp only [fitB] at h
      cases hk : eqBool ro ro' && e.beq e' && cs'.all scalarAV && cs.all scalarAV
      · rw [hk] at h; cases h
      · rw [hk] at h; cases h
        simp only [Bool.and_eq_true] at hk
        have := eqBool_eq hk.1.1.1; subst this
        have := beq_nat hk.1.1.2; subst this
        exact ⟨(rows_of_cells hk.1.2 (he _ List.mem_cons_self) hb).rowv hk.2 (he _ (List.mem_cons_of_mem _ List.mem_cons_self)), rfl⟩
    | rowv ro' r' z' i' cs' e' =>
      simp only [fitB] at h
      cases hk : eqBool ro ro' && e.beq e' && cs.all scalarAV
      · rw [hk] at h; cases h
      · rw [hk] at h; cases h
        simp only [Bool.and_eq_true] at hk
        have := eqBool_eq hk.1.1; subst this
        have := beq_nat hk.1.2; subst this
        exact ⟨(rows_of_rowv (he _ List.mem_cons_self) hb).rowv hk.2 (he _ (List.mem_cons_of_mem _ List.mem_cons_self)), rfl⟩
    | _ => simp only [fitB] at h; cases h
  | bytes s e z =>
    cases b with
    | bytes s' e' z' =>
      simp only [fitB] at h
      cases hk : e.beq e' && (z || !z')
      · rw [hk] at h; cases h
      · rw [hk] at h
        simp only [_root_.cond_true, Option.some.injEq] at h; subst h
        simp only [Bool.and_eq_true] at hk
        have := beq_nat hk.1; subst this
        refine ⟨?_, rfl⟩
        obtain ⟨c, lo, hi, rest, h1, h2, h3, h4⟩ := hb
        refine ⟨c, lo, hi, rest, h1, h2, by rw [eqS_ok he]; exact h3, ?_⟩
        rw [eqS_ok he]
        rcases h4 with h4 | ⟨h4, h5⟩
        · exact .inl h4
        · subst h4
          exact .inr ⟨by simpa using hk.2, h5⟩
    | _ => simp only [fitB] at h; cases h
  | loop st pd f n tm ps as bd d =>
    cases b with
    | loop st' pd' f' n' tm' ps' as' bd' d' =>
      simp only [fitB] at h
      cases hk : st.ctorIdx.beq st'.ctorIdx && isNone pd && isNone pd' && f.beq f' && n.beq n' && eqNats ps ps' && R.at d d'
      · rw [hk] at h; cases h
      · rw [hk] at h
        simp only [_root_.cond_true] at h
        simp only [Bool.and_eq_true] at hk
        obtain ⟨⟨⟨⟨⟨⟨k1, k2⟩, k3⟩, k4⟩, k5⟩, k6⟩, k7⟩ := hk
        have := loopState_eq k1; subst this
        have := isNone_eq k2; subst this
        have := isNone_eq k3; subst this
        have := beq_nat k4; subst this
        have := beq_nat k5; subst this
        have := eqNats_eq k6; subst this
        simp only [codesB, List.cons.injEq, AItem.code.injEq, and_true] at hc
        obtain ⟨rfl, rfl⟩ := hc
        refine ⟨?_, rfl⟩
        obtain ⟨x, D, h1, h2, h3, h4⟩ := hb
        exact ⟨x, D, h1, by rw [Ren.pl_at k7]; exact h2, h3, fitTm_ok h he h4⟩
    | _ => simp only [fitB] at h; cases h
  | defd t =>
    cases b with
    | defd t' =>
      simp only [fitB] at h
      cases hk : eqBool t t'
      · rw [hk] at h; cases h
      · have := eqBool_eq hk; subst this
        exact ⟨hb, rfl⟩
    | _ => simp only [fitB] at h; cases h
theorem fitHs_ok : ∀ {l : List (Nat × ABlk)} {h : Heap} {E : List Eqn}, fitHs R l h = some E → ∀ p ∈ l, ∃ j b E', R.get p.1 = some j ∧ h.t.get j = some b ∧ fitB R p.2 b = some E' ∧ ∀ e ∈ E', e ∈ E
  | (i, a) :: l, h, E, hf, p, hp => by
    simp only [fitHs] at hf
    split at hf
    · rename_i j hj
      split at hf
      · rename_i b hb
        obtain ⟨u, v, h1, h2, rfl⟩ := both_some hf
        rcases List.mem_cons.1 hp with rfl | hp
        · exact ⟨j, b, u, hj, hb, h1, fun e he => List.mem_append_left _ he⟩
        · obtain ⟨j', b', E', a1, a2, a3, a4⟩ := fitHs_ok h2 p hp
          exact ⟨j', b', E', a1, a2, a3, fun e he => List.mem_append_right _ (a4 e he)⟩
      · cases hf
    · cases hf
theorem notIn_ok {i : Nat} : ∀ {l : List (Nat × ABlk)}, notIn R i l = true → ∀ p ∈ l, ∀ k, R.get i = some k → R.get p.1 ≠ some k
  | (j, b) :: l, h, p, hp, k, hk => by
    simp only [notIn, Bool.and_eq_true] at h
    rcases List.mem_cons.1 hp with rfl | hp
    · intro c
      have h1 := h.1
      rw [hk, c] at h1
      simp only [Bool.not_eq_true', nbeq_true rfl] at h1
      cases h1
    · exact notIn_ok h.2 p hp k hk
theorem onceH_ok : ∀ {l : List (Nat × ABlk)}, onceH R l = true → ∀ p ∈ l, ∀ q ∈ l, ∀ k, R.get p.1 = some k → R.get q.1 = some k → p.1 = q.1
  | (j, b) :: l, h, p, hp, q, hq, k, hk, hk' => by
    simp only [onceH, Bool.and_eq_true] at h
    rcases List.mem_cons.1 hp with rfl | hp
    · rcases List.mem_cons.1 hq with rfl | hq
      · rfl
      · exact absurd hk' (notIn_ok h.1 q hq k hk)
    · rcases List.mem_cons.1 hq with rfl | hq
      · exact absurd hk (notIn_ok h.1 p hp k hk')
      · exact onceH_ok h.2 p hp q hq k hk hk'
/-- one world behind another, the names of blocks laid anew but below N -/
structure EvoN (N : Nat) (φ : Pl) (h : Heap) (w : World) (φ' : Pl) (h' : Heap) (w' : World) : Prop where
  le : ∀ i, i < N → ∀ L, φ i = some L → φ' i = some L
  keep : ∀ b, b < w.heap.size → ¬ Own φ h b → w'.heap[b]? = w.heap[b]?
  own : ∀ b, Own φ' h' b → Own φ h b ∨ w.heap.size ≤ b
  size : w.heap.size ≤ w'.heap.size
  same : w'.os = w.os ∧ w'.output = w.output
theorem EvoN.refl (N : Nat) (φ : Pl) (h : Heap) (w : World) : EvoN N φ h w φ h w := ⟨fun _ _ _ h => h, fun _ _ _ => rfl, fun _ h => .inl h, Nat.le_refl _, rfl, rfl⟩
theorem EvoN.trans {N : Nat} {φ φ' φ'' : Pl} {h h' h'' : Heap} {w w' w'' : World} (a : EvoN N φ h w φ' h' w') (b : EvoN N φ' h' w' φ'' h'' w'') : EvoN N φ h w φ'' h'' w'' := by
  refine ⟨fun i hi L hL => b.le i hi L (a.le i hi L hL), ?_, ?_, Nat.le_trans a.size b.size, b.same.1.trans a.same.1, b.same.2.trans a.same.2⟩
  · intro k hk ho
    rw [b.keep k (Nat.lt_of_lt_of_le hk a.size) ?_, a.keep k hk ho]
    intro hc
    rcases a.own k hc with h1 | h1
    · exact ho h1
    · omega
  · intro k hk
    rcases b.own k hk with h1 | h1
    · exact a.own k h1
    · exact .inr (Nat.le_trans a.size h1)
theorem Evo.toN {N : Nat} {φ' : Pl} {h h' : Heap} {w w' : World} (e : Evo ρ φ h w φ' h' w') : EvoN N φ h w φ' h' w' := ⟨fun i _ L hL => e.le i L hL, e.keep, e.own, e.size, e.same⟩
theorem fitH_ok {a b : Heap} {E : List Eqn} {w : World} (h : fitH R a b = some E) (hcod : ∀ p ∈ a.t.toL, codesB (some p.2) = codesB (blkAt R b p.1)) (he : Eqns ρ' ρ E) (hw : WR ρ φ b w) :
    WR ρ' (R.pl φ) a w ∧ ∀ k, Own (R.pl φ) a k → Own φ b k := by
  unfold fitH at h
  cases hk : a.next.beq R.top && onceH R a.t.toL
  · rw [hk] at h; cases h
  · rw [hk] at h
    simp only [_root_.cond_true] at h
    simp only [Bool.and_eq_true] at hk
    have htop := beq_nat hk.1
    have hall := fitHs_ok h
    have each : ∀ id c, a.t.get id = some c → ∃ j b', R.get id = some j ∧ b.t.get j = some b' ∧ c.owned = b'.owned ∧ ∀ L o, BR ρ φ L b' o → BR ρ' (R.pl φ) L c o := by
      intro id c hc
      obtain ⟨j, b', E', h1, h2, h3, h4⟩ := hall _ (PT.mem_toL _ _ _ hc)
      have hcc := hcod _ (PT.mem_toL _ _ _ hc)
      unfold blkAt at hcc
      simp only [h1, h2] at hcc
      have hE : Eqns ρ' ρ E' := fun e hh => he e (h4 e hh)
      refine ⟨j, b', h1, h2, ?_, fun L o hb => (fitB_ok h3 hcc hE hb).1⟩
      obtain ⟨L, o, _, _, hbr⟩ := hw.blk j b' h2
      exact (fitB_ok h3 hcc hE hbr).2
    refine ⟨⟨?_, ?_, ?_, ?_⟩, ?_⟩
    · intro id c hc
      obtain ⟨j, b', h1, h2, h3, h4⟩ := each id c hc
      obtain ⟨L, o, h5, h6, h7⟩ := hw.blk j b' h2
      exact ⟨L, o, by rw [Ren.pl_get h1]; exact h5, h6, h4 L o h7⟩
    · intro i j c d L M hi hj ho hL hM e
      obtain ⟨i', b1, h1, h2, h3, _⟩ := each i c hi
      obtain ⟨j', b2, h4, h5, h6, _⟩ := each j d hj
      rw [Ren.pl_get h1] at hL
      rw [Ren.pl_get h4] at hM
      have := hw.apart i' j' b1 b2 L M h2 h5 (by rw [← h3]; exact ho) hL hM e
      subst this
      exact onceH_ok hk.2 _ (PT.mem_toL _ _ _ hi) _ (PT.mem_toL _ _ _ hj) _ h1 h4
    · intro i hi
      unfold Ren.pl
      split
      · rename_i j hj
        have := Ren.get_lt hj
        omega
      · rfl
    · intro i c L hi ho hL
      obtain ⟨j, b', h1, h2, h3, _⟩ := each i c hi
      rw [Ren.pl_get h1] at hL
      exact hw.base j b' L h2 (by rw [← h3]; exact ho) hL
    · rintro k ⟨i, c, L, hi, ho, hL, rfl⟩
      obtain ⟨j, b', h1, h2, h3, _⟩ := each i c hi
      rw [Ren.pl_get h1] at hL
      exact ⟨j, b', L, h2, by rw [← h3]; exact ho, hL, rfl⟩
theorem fitTg_ok {a b : ADef} {E E2 : List Eqn} {d : Deferred} (h : fitTg R a.target b.target = some E) (he : Eqns ρ' ρ E) (h2 : fitVs R a.args b.args = some E2) (he2 : Eqns ρ' ρ E2) (hb : DefR ρ φ b d) : DefR ρ' (R.pl φ) a d := by
  obtain ⟨ta, aa⟩ := a
  obtain ⟨tb, ab⟩ := b
  obtain ⟨ys, h5, h6, h7⟩ := hb
  refine ⟨ys, h5, fitVs_ok h2 he2 h6, ?_⟩
  cases ta with
  | fn f c =>
    cases tb with
    | fn g e =>
      simp only [fitTg] at h
      cases hf : fitFn R f g
      · rw [hf] at h; cases h
      · rw [hf] at h
        obtain ⟨k, xs, h1, h2, h3⟩ := h7
        exact ⟨k, xs, h1, fitFn_ok hf h2, fitVs_ok h he h3⟩
    | collected s => simp only [fitTg] at h; cases h
  | collected r =>
    cases tb with
    | fn g e => simp only [fitTg] at h; cases h
    | collected s =>
      simp only [fitTg] at h
      cases hf : R.at r s
      · rw [hf] at h; cases h
      · obtain ⟨L, h1, h2⟩ := h7
        exact ⟨L, by rw [Ren.pl_at hf]; exact h1, h2⟩
theorem fitDs_ok : ∀ {a b : List ADef} {E : List Eqn} {d : List Deferred}, fitDs R a b = some E → Eqns ρ' ρ E → DefsR ρ φ b d → DefsR ρ' (R.pl φ) a d
  | [], [], _, d, _, _, hd => by cases d <;> exact hd
  | a :: x, b :: y, E, d, h, he, hd => by
    simp only [fitDs] at h
    obtain ⟨u, v, h1, h2, rfl⟩ := both_some h
    obtain ⟨p, q, h3, h4, rfl⟩ := both_some h1
    cases d with
    | nil => exact hd.elim
    | cons e es =>
      exact ⟨fitTg_ok h3 he.app.1.app.1 h4 he.app.1.app.2 hd.1, fitDs_ok h2 he.app.2 hd.2⟩
  | [], _ :: _, _, _, h, _, _ => by simp only [fitDs] at h; cases h
  | _ :: _, [], _, _, h, _, _ => by simp only [fitDs] at h; cases h
theorem renIt_ok {a b : AItem} {i : Item} (h : renIt R a = some b) (hi : ItR φ b i) : ItR (R.pl φ) a i := by
  cases a <;> simp only [renIt] at h
  case inRangeFunc l =>
    split at h
    · rename_i m hm
      cases h
      obtain ⟨L, h1, h2⟩ := hi
      exact ⟨L, by rw [Ren.pl_get hm]; exact h1, h2⟩
    · cases h
  case endRangeFunc l =>
    split at h
    · rename_i m hm
      cases h
      obtain ⟨L, h1, h2⟩ := hi
      exact ⟨L, by rw [Ren.pl_get hm]; exact h1, h2⟩
    · cases h
  all_goals cases h; try exact hi
theorem renIts_ok : ∀ {a b : List AItem} {is : List Item}, renIts R a = some b → ItsR φ b is → ItsR (R.pl φ) a is
  | [], b, is, h, hi => by simp only [renIts, Option.some.injEq] at h; subst h; cases is <;> exact hi
  | a :: l, b, is, h, hi => by
    simp only [renIts] at h
    split at h
    · rename_i x y hx hy
      cases h
      cases is with
      | nil => exact hi.elim
      | cons i is => exact ⟨renIt_ok hx hi.1, renIts_ok hy hi.2⟩
    · cases h
theorem renIts_body {a b : List AItem} (h : renIts R a = some b) : (∀ ops m p k, a ≠ .draw ops m p :: k) ∧ (∀ ops m p k, b ≠ .draw ops m p :: k) := by
  constructor
  · intro ops m p k e
    subst e
    simp [renIts, renIt] at h
  · intro ops m p k e
    subst e
    cases a with
    | nil => simp [renIts] at h
    | cons a l =>
      simp only [renIts] at h
      split at h
      · rename_i x y hx hy
        simp only [Option.some.injEq, List.cons.injEq] at h
        obtain ⟨rfl, _⟩ := h
        cases a <;> simp only [renIt] at hx
        all_goals first | (cases hx; done) | (split at hx <;> cases hx; done)
      · cases h
theorem bodyR_items {tm : PT AV} {td : List AItem} {x : Array Value} {td' : List Item} (hn : ∀ ops m p k, td ≠ .draw ops m p :: k) : BodyR ρ φ tm td x td' ↔ ItsR φ td td' ∧ TmR ρ φ tm x := by
  unfold BodyR
  split
  · rename_i ops m p k; exact absurd rfl (hn ops m p k)
  · exact Iff.rfl
theorem isRunB_eq {m : AMode} (h : isRunB m = true) : m = .run := by cases m <;> first | rfl | cases h
theorem fitFr_ok {a b : AFr} {E : List Eqn} {c : Frame} (h : fitFr R a b = some E) (ht : renIts R a.todo = some b.todo) (he : Eqns ρ' ρ E) (hb : FrR ρ φ b c) : FrR ρ' (R.pl φ) a c := by
  unfold fitFr at h
  cases hk : a.fn.beq b.fn && a.n.beq b.n && isRunB a.mode && isRunB b.mode && eqBool a.deferred b.deferred && fitRd R a.round b.round
  · rw [hk] at h; cases h
  · rw [hk] at h
    simp only [_root_.cond_true] at h
    simp only [Bool.and_eq_true] at hk
    obtain ⟨⟨⟨⟨⟨k1, k2⟩, k3⟩, k4⟩, k5⟩, k6⟩ := hk
    obtain ⟨u, v, h1, h2, rfl⟩ := both_some h
    have k3 := isRunB_eq k3
    have k4 := isRunB_eq k4
    have hdn := renIts_body ht
    have hrun : b.mode.isRun = true := by rw [k4]; rfl
    have hbody := (bodyR_items hdn.2).1 (hb.body hrun)
    refine ⟨by rw [beq_nat k1]; exact hb.fn, by rw [beq_nat k2]; exact hb.size, by rw [eqBool_eq k5]; exact hb.kind, ?_, ?_, fitDs_ok h2 he.app.2 hb.defers, fun _ => ?_, fun c => ?_⟩
    · have hr := hb.round
      unfold fitRd at k6
      split at k6
      · rename_i e1 e2; rw [e1]; rw [e2] at hr; exact hr
      · rename_i l m e1 e2
        rw [e1]; rw [e2] at hr
        obtain ⟨L, r1, r2⟩ := hr
        exact ⟨L, by rw [Ren.pl_at k6]; exact r1, r2⟩
      · cases k6
    · rw [k3]; have := hb.mode; rw [k4] at this; exact this
    · exact (bodyR_items hdn.1).2 ⟨renIts_ok ht hbody.1, fitTm_ok h1 he.app.1 hbody.2⟩
    · rw [k3] at c; cases c
theorem fitFrs_ok : ∀ {a b : List AFr} {E : List Eqn} {c : List Frame}, fitFrs R a b = some E → (a.map fun f => renIts R f.todo) = (b.map fun f => some f.todo) → Eqns ρ' ρ E → CsR ρ φ b c → CsR ρ' (R.pl φ) a c
  | [], [], _, c, _, _, _, hc => by cases c <;> exact hc
  | a :: x, b :: y, E, c, h, ht, he, hc => by
    simp only [fitFrs] at h
    obtain ⟨u, v, h1, h2, rfl⟩ := both_some h
    simp only [List.map_cons, List.cons.injEq] at ht
    cases c with
    | nil => exact hc.elim
    | cons c cs =>
      obtain ⟨h3, h4, h5⟩ := hc
      refine ⟨fitFr_ok h1 ht.1 he.app.1 h3, ?_, fitFrs_ok h2 ht.2 he.app.2 h5⟩
      intro _
      split
      · rename_i ops m p k e
        exact absurd e ((renIts_body ht.1).1 ops m p k)
      · trivial
  | [], _ :: _, _, _, h, _, _, _ => by simp only [fitFrs] at h; cases h
  | _ :: _, [], _, _, h, _, _, _ => by simp only [fitFrs] at h; cases h
theorem glob_ren (hG : Glob φ) (h1 : 64 ≤ R.low) (h2 : 64 ≤ R.top) : Glob (R.pl φ) := by
  intro g hg
  rw [Ren.pl_get (Ren.get_low (by omega) (by omega))]; exact hG g hg
/-- the state is the other one -/
theorem fitM_ok {a b : AM} {E : List Eqn} {fr : Frame} {cs : List Frame} {w : World} (h : fitM R a b = some E) (hcod : codesT R a = codesL R a b) (he : Eqns ρ' ρ E) (hF : a.facts.ok ρ') (hm : MR ρ φ b fr cs w) :
    MR ρ' (R.pl φ) a fr cs w ∧ ∀ N, N ≤ R.low → N ≤ R.top → EvoN N φ b.h w (R.pl φ) a.h w := by
  unfold fitM at h
  cases hk : Nat.ble 64 R.low && Nat.ble 64 R.top
  · rw [hk] at h; cases h
  · rw [hk] at h
    simp only [_root_.cond_true] at h
    simp only [Bool.and_eq_true, Nat.ble_eq] at hk
    obtain ⟨u, v, h1, h2, rfl⟩ := both_some h
    have hlen : ((a.fr :: a.cs).map fun f => renIts R f.todo).length = ((b.fr :: b.cs).map fun f => some f.todo).length := by
      have h1' := h1
      have : ∀ (x y : List AFr) (E : List Eqn), fitFrs R x y = some E → x.length = y.length := by
        intro x
        induction x with
        | nil => intro y E hy; cases y with
          | nil => rfl
          | cons _ _ => simp only [fitFrs] at hy; cases hy
        | cons a x ih => intro y E hy; cases y with
          | nil => simp only [fitFrs] at hy; cases hy
          | cons b y =>
            simp only [fitFrs] at hy
            obtain ⟨_, _, _, h, _⟩ := both_some hy
            simp [ih _ _ h]
      simpa using this _ _ _ h1'
    unfold codesT codesL at hcod
    obtain ⟨hc1, hc2⟩ := List.append_inj hcod hlen
    have hH : ∀ p ∈ a.h.t.toL, codesB (some p.2) = codesB (blkAt R b.h p.1) := by
      intro p hp
      obtain ⟨i, hi⟩ := List.getElem?_of_mem hp
      have := congrArg (fun l => l[i]?) hc2
      simp only [List.getElem?_map, hi, Option.map_some, Option.some.injEq] at this
      exact this
    obtain ⟨hw, hown⟩ := fitH_ok h2 hH he.app.2 hm.wr
    simp only [fitFrs] at h1
    obtain ⟨p, q, h3, h4, rfl⟩ := both_some h1
    simp only [List.map_cons, List.cons.injEq] at hc1
    refine ⟨⟨hw, hF, fitFr_ok h3 hc1.1 he.app.1.app.1 hm.fr, fitFrs_ok h4 hc1.2 he.app.1.app.2 hm.cs, glob_ren hm.glob hk.1 hk.2⟩, fun N hN hN2 => ⟨fun i hi L hL => ?_, fun _ _ _ => rfl, fun b hb => .inl (hown b hb), Nat.le_refl _, rfl, rfl⟩⟩
    rw [Ren.pl_get (Ren.get_low (by omega) (by omega))]; exact hL
end
end Go.Sx
namespace Go.Sx
section
variable {C : Ctx} {P : Program} {ρ : Env} (hC : CtxOK C P ρ)
include hC in
theorem execS_ok {stop : AM → Bool} : ∀ (n : Nat) {φ : Pl} {w : World} {m : AM} {fr : Frame} {cs base : List Frame}, MR ρ φ m fr cs w → TreeR P ρ φ m.h base fr cs w (execS C stop n m)
  | 0, φ, w, m, fr, cs, base, hm => ⟨φ, fr, cs, w, Steps.refl _ _, hm, Evo.refl hm.wr⟩
  | n + 1, φ, w, m, fr, cs, base, hm => by
    have h := stepA_ok (base := base) hC hm
    simp only [execS]
    cases hs : stepA C m with
    | next m' =>
      rw [hs] at h
      obtain ⟨φ', fr', cs', w', h1, h2, h3⟩ := h
      show TreeR P ρ φ m.h base fr cs w (bif stop m' then Tree.next m' else execS C stop n m')
      cases hst : stop m' with
      | true => exact ⟨φ', fr', cs', w', h1, h2, h3⟩
      | false => exact TreeR.trans h1 h3 (execS_ok n h2)
    | fork c m' =>
      rw [hs] at h
      have h : m' = m := h
      subst h
      refine ⟨fun e => ?_, fun e => ?_⟩
      · have hm2 : MR ρ φ (m'.addFact c true) fr cs w := by
          cases m'; exact ⟨hm.wr, fun p hp => by
            rcases List.mem_cons.1 hp with rfl | hp
            · exact e
            · exact hm.facts p hp, hm.fr, hm.cs, hm.glob⟩
        have := execS_ok (stop := stop) n (base := base) hm2
        cases m'; exact this
      · have hm2 : MR ρ φ (m'.addFact c false) fr cs w := by
          cases m'; exact ⟨hm.wr, fun p hp => by
            rcases List.mem_cons.1 hp with rfl | hp
            · exact e
            · exact hm.facts p hp, hm.fr, hm.cs, hm.glob⟩
        have := execS_ok (stop := stop) n (base := base) hm2
        cases m'; exact this
    | done v m' => rw [hs] at h; exact h
    | dead c m' => trivial
    | fail s m' => trivial
end
/-- what a call comes to: it returns, and all is as the last state says -/
def Fin (P : Program) (J : Env → Prop) (v : AV) (h' : Heap) (f : Nat) (N : Nat) (φ : Pl) (h : Heap) (base : List Frame) (fr : Frame) (cs : List Frame) (w : World) : Prop :=
  ∃ ρ' ψ fr' w' z, J ρ' ∧ Steps P (lone fr (cs ++ base) w) (lone fr' base w') ∧ fr'.leaving P w' (.returned z) ∧ fr'.fn = f ∧ VR ρ' ψ v z ∧ WR ρ' ψ h' w' ∧ EvoN N φ h w ψ h' w'
theorem Fin.trans {P : Program} {J : Env → Prop} {v : AV} {h' : Heap} {f N : Nat} {φ φ1 : Pl} {h h1 : Heap} {base : List Frame} {fr fr1 : Frame} {cs cs1 : List Frame} {w w1 : World}
    (hs : Steps P (lone fr (cs ++ base) w) (lone fr1 (cs1 ++ base) w1)) (he : EvoN N φ h w φ1 h1 w1) (hf : Fin P J v h' f N φ1 h1 base fr1 cs1 w1) : Fin P J v h' f N φ h base fr cs w := by
  obtain ⟨ρ', ψ, fr', w', z, a1, a2, a3, a4, a5, a6, a7⟩ := hf
  exact ⟨ρ', ψ, fr', w', z, a1, hs.trans a2, a3, a4, a5, a6, he.trans a7⟩
/-- what must hold at the leaves -/
def OTok (I : Nat → Env → Prop) (μ : Nat → Env → Nat) (J : Env → Prop) (k : Nat) (ρ : Env) : OT → Prop
  | .fork c a b => (c.den ρ = true → OTok I μ J k ρ a) ∧ (c.den ρ = false → OTok I μ J k ρ b)
  | .alt a b => OTok I μ J k ρ a ∨ OTok I μ J k ρ b
  | .to j _ E => ∃ ρ', Eqns ρ' ρ E ∧ I j ρ' ∧ μ j ρ' < μ k ρ
  | .fin _ E => ∃ ρ', Eqns ρ' ρ E ∧ J ρ'
  | .no => False
def lowOT (N : Nat) : OT → Bool
  | .fork _ a b => lowOT N a && lowOT N b
  | .alt a b => lowOT N a && lowOT N b
  | .to _ R _ => Nat.ble N R.low && Nat.ble N R.top
  | .fin R _ => Nat.ble N R.low && Nat.ble N R.top
  | .no => true
section
variable {P : Program} {ρ : Env}
theorem noLoops_ok : ∀ {l : List (Nat × ABlk)}, noLoops l = true → ∀ p ∈ l, ∀ st pd f n tm ps x y d, p.2 ≠ .loop st pd f n tm ps x y d
  | (i, b) :: l, h, p, hp, st, pd, f, n, tm, ps, x, y, d, e => by
    simp only [noLoops, Bool.and_eq_true] at h
    rcases List.mem_cons.1 hp with rfl | hp
    · simp only at e; subst e; cases h.1
    · exact noLoops_ok h.2 p hp st pd f n tm ps x y d e
theorem fitH_noLoops {R : Ren} {ρ' : Env} {φ : Pl} {a b : Heap} {E : List Eqn} {w : World} (h : fitH R a b = some E) (hn : noLoops a.t.toL = true) (he : Eqns ρ' ρ E) (hw : WR ρ φ b w) :
    WR ρ' (R.pl φ) a w ∧ ∀ k, Own (R.pl φ) a k → Own φ b k := by
  refine fitH_ok h ?_ he hw
  intro p hp
  unfold fitH at h
  cases hk : a.next.beq R.top && onceH R a.t.toL
  · rw [hk] at h; cases h
  · rw [hk] at h
    simp only [_root_.cond_true] at h
    obtain ⟨j, b', E', h1, h2, h3, _⟩ := fitHs_ok h p hp
    have hp2 := noLoops_ok hn p hp
    unfold blkAt
    simp only [h1, h2]
    cases hb : p.2 with
    | loop st pd f n tm ps x y d => exact absurd hb (hp2 st pd f n tm ps x y d)
    | cells ro q cs e =>
      rw [hb] at h3
      cases b' <;> first | rfl | (simp only [fitB] at h3; cases h3)
    | bytes s e z =>
      rw [hb] at h3
      cases b' <;> first | rfl | (simp only [fitB] at h3; cases h3)
    | defd t =>
      rw [hb] at h3
      cases b' <;> first | rfl | (simp only [fitB] at h3; cases h3)
    | rowv ro r z i cs e =>
      rw [hb] at h3
      cases b' <;> first | rfl | (simp only [fitB] at h3; cases h3)
theorem code_len (tg : Nat → AM) : ∀ (p : Plan) (t : Tree), (codeT tg p t).length = (codeL tg p t).length := by
  intro p
  induction p with
  | fork p q ihp ihq => intro t; cases t <;> first | rfl | (simp only [codeT, codeL, List.length_append, ihp, ihq])
  | alt p q ihp ihq => intro t; simp only [codeT, codeL, List.length_append, ihp, ihq]
  | to k R => intro t; cases t <;> rfl
  | fin R => intro t; cases t <;> rfl
  | no => intro t; cases t <;> rfl
theorem leaf_ok {I : Nat → Env → Prop} {μ : Nat → Env → Nat} {J : Env → Prop} {tg : Nat → AM} {v : AV} {h' : Heap} {f N k : Nat} (hfacts : ∀ j ρ', I j ρ' → (tg j).facts.ok ρ')
    (ih : ∀ j ρ' φ fr cs base w, I j ρ' → μ j ρ' < μ k ρ → MR ρ' φ (tg j) fr cs w → Fin P J v h' f N φ (tg j).h base fr cs w) :
    ∀ (pl : Plan) (t : Tree) (o : OT) {φ : Pl} {h : Heap} {base : List Frame} {fr : Frame} {cs : List Frame} {w : World}, evalT tg v h' f pl t = some o → codeT tg pl t = codeL tg pl t → lowOT N o = true → OTok I μ J k ρ o →
      TreeR P ρ φ h base fr cs w t → Fin P J v h' f N φ h base fr cs w
  | .no, t, o, φ, h, base, fr, cs, w, he, hcod, hlow, hok, ht => by
    have : evalT tg v h' f .no t = some .no := by cases t <;> rfl
    rw [this] at he; cases he
    exact hok.elim
  | .alt p q, t, o, φ, h, base, fr, cs, w, he, hcod, hlow, hok, ht => by
    simp only [evalT] at he
    split at he
    · rename_i x y hx hy
      cases he
      simp only [lowOT, Bool.and_eq_true] at hlow
      simp only [codeT, codeL] at hcod
      obtain ⟨hc1, hc2⟩ := List.append_inj hcod (code_len tg p t)
      rcases hok with hok | hok
      · exact leaf_ok hfacts ih p t x hx hc1 hlow.1 hok ht
      · exact leaf_ok hfacts ih q t y hy hc2 hlow.2 hok ht
    · cases he
  | .fork p q, .fork c a b, o, φ, h, base, fr, cs, w, he, hcod, hlow, hok, ht => by
    simp only [evalT] at he
    split at he
    · rename_i x y hx hy
      cases he
      simp only [lowOT, Bool.and_eq_true] at hlow
      simp only [codeT, codeL] at hcod
      obtain ⟨hc1, hc2⟩ := List.append_inj hcod (code_len tg p a)
      cases hd : c.den ρ with
      | true => exact leaf_ok hfacts ih p a x hx hc1 hlow.1 (hok.1 hd) (ht.1 hd)
      | false => exact leaf_ok hfacts ih q b y hy hc2 hlow.2 (hok.2 hd) (ht.2 hd)
    · cases he
  | .to j R, .next m, o, φ, h, base, fr, cs, w, he, hcod, hlow, hok, ht => by
    simp only [evalT] at he
    split at he
    · rename_i E hE
      cases he
      simp only [lowOT, Bool.and_eq_true, Nat.ble_eq] at hlow
      simp only [codeT, codeL, List.cons.injEq, and_true] at hcod
      obtain ⟨φ1, fr1, cs1, w1, h1, h2, h3⟩ := ht
      obtain ⟨ρ', e1, e2, e3⟩ := hok
      obtain ⟨g1, g2⟩ := fitM_ok hE hcod e1 (hfacts j ρ' e2) h2
      exact Fin.trans h1 (h3.toN.trans (g2 N hlow.1 hlow.2)) (ih j ρ' _ _ _ base _ e2 e3 g1)
    · cases he
  | .fin R, .done v' m, o, φ, h, base, fr, cs, w, he, hcod, hlow, hok, ht => by
    simp only [evalT] at he
    split at he
    · rename_i E hE
      cases he
      simp only [lowOT, Bool.and_eq_true, Nat.ble_eq] at hlow
      obtain ⟨φ1, fr1, w1, z, h1, h2, h3, h4, h5⟩ := ht
      obtain ⟨ρ', e1, e2⟩ := hok
      unfold fitD at hE
      cases hk : Nat.ble 64 R.low && Nat.ble 64 R.top && m.fr.fn.beq f && noLoops h'.t.toL
      · rw [hk] at hE; cases hE
      · rw [hk] at hE
        simp only [_root_.cond_true] at hE
        simp only [Bool.and_eq_true, Nat.ble_eq] at hk
        obtain ⟨u, x, k1, k2, rfl⟩ := both_some hE
        obtain ⟨g1, g2⟩ := fitH_noLoops k2 hk.2 e1.app.2 h5.wr
        refine ⟨ρ', R.pl φ1, fr1, w1, z, e2, h1, h2, h3.trans (beq_nat hk.1.2), fitV_ok k1 e1.app.1 h4, g1, h5.toN.trans ⟨fun i hi L hL => ?_, fun _ _ _ => rfl, fun b hb => .inl (g2 b hb), Nat.le_refl _, rfl, rfl⟩⟩
        rw [Ren.pl_get (Ren.get_low (by omega) (by omega))]; exact hL
    · cases he
  | .fork _ _, .next _, o, φ, h, base, fr, cs, w, he, _, _, _, _ => by simp only [evalT] at he; cases he
  | .fork _ _, .done _ _, o, φ, h, base, fr, cs, w, he, _, _, _, _ => by simp only [evalT] at he; cases he
  | .fork _ _, .dead _ _, o, φ, h, base, fr, cs, w, he, _, _, _, _ => by simp only [evalT] at he; cases he
  | .fork _ _, .fail _ _, o, φ, h, base, fr, cs, w, he, _, _, _, _ => by simp only [evalT] at he; cases he
  | .to _ _, .fork _ _ _, o, φ, h, base, fr, cs, w, he, _, _, _, _ => by simp only [evalT] at he; cases he
  | .to _ _, .done _ _, o, φ, h, base, fr, cs, w, he, _, _, _, _ => by simp only [evalT] at he; cases he
  | .to _ _, .dead _ _, o, φ, h, base, fr, cs, w, he, _, _, _, _ => by simp only [evalT] at he; cases he
  | .to _ _, .fail _ _, o, φ, h, base, fr, cs, w, he, _, _, _, _ => by simp only [evalT] at he; cases he
  | .fin _, .fork _ _ _, o, φ, h, base, fr, cs, w, he, _, _, _, _ => by simp only [evalT] at he; cases he
  | .fin _, .next _, o, φ, h, base, fr, cs, w, he, _, _, _, _ => by simp only [evalT] at he; cases he
  | .fin _, .dead _ _, o, φ, h, base, fr, cs, w, he, _, _, _, _ => by simp only [evalT] at he; cases he
  | .fin _, .fail _ _, o, φ, h, base, fr, cs, w, he, _, _, _, _ => by simp only [evalT] at he; cases he
end
/-- a graph of states: each leads to others that are nearer to the end, or to the end -/
structure Graph where
  tg : Nat → AM
  stop : AM → Bool
  n : Nat → Nat
  pl : Nat → Plan
  o : Nat → OT
  v : AV
  h : Heap
  f : Nat
  N : Nat
/-- what the kernel reckons of a state -/
structure Graph.At (G : Graph) (C : Ctx) (k : Nat) : Prop where
  eval : evalT G.tg G.v G.h G.f (G.pl k) (execS C G.stop (G.n k) (G.tg k)) = some (G.o k)
  code : codeT G.tg (G.pl k) (execS C G.stop (G.n k) (G.tg k)) = codeL G.tg (G.pl k) (execS C G.stop (G.n k) (G.tg k))
  low : lowOT G.N (G.o k) = true
theorem Graph.ok {G : Graph} {C : Ctx} {P : Program} {I : Nat → Env → Prop} {μ : Nat → Env → Nat} {J : Env → Prop} (hC : ∀ k ρ, I k ρ → CtxOK C P ρ) (hfacts : ∀ k ρ, I k ρ → (G.tg k).facts.ok ρ)
    (hat : ∀ k ρ, I k ρ → G.At C k) (hok : ∀ k ρ, I k ρ → OTok I μ J k ρ (G.o k)) :
    ∀ (c : Nat) (k : Nat) (ρ : Env), μ k ρ < c → ∀ φ fr cs base w, I k ρ → MR ρ φ (G.tg k) fr cs w → Fin P J G.v G.h G.f G.N φ (G.tg k).h base fr cs w
  | 0, k, ρ, hμ, φ, fr, cs, base, w, hi, hm => by omega
  | c + 1, k, ρ, hμ, φ, fr, cs, base, w, hi, hm =>
    leaf_ok hfacts (fun j ρ' φ fr cs base w h1 h2 h3 => Graph.ok hC hfacts hat hok c j ρ' (by omega) φ fr cs base w h1 h3) _ _ _ (hat k ρ hi).eval (hat k ρ hi).code (hat k ρ hi).low (hok k ρ hi)
      (execS_ok (hC k ρ hi) (G.n k) hm)
/-- a call whose states make a graph -/
theorem Graph.calls {G : Graph} {C : Ctx} {P : Program} {I : Nat → Env → Prop} {μ : Nat → Env → Nat} {J : Env → Prop} (hC : ∀ k ρ, I k ρ → CtxOK C P ρ) (hfacts : ∀ k ρ, I k ρ → (G.tg k).facts.ok ρ)
    (hat : ∀ k ρ, I k ρ → G.At C k) (hok : ∀ k ρ, I k ρ → OTok I μ J k ρ (G.o k)) {ρ : Env} (hi : I 0 ρ) {F : Facts} {args : List AV} {h : Heap} (hs : startF C F G.f args h = some (G.tg 0))
    {φ : Pl} {w : World} {xs : List Value} (hw : WR ρ φ h w) (hG : Glob φ) (ha : VRs ρ φ args xs) :
    Calls P G.f ⟨xs⟩ w fun e w' => ∃ ρ' ψ z, e = .returned z ∧ J ρ' ∧ VR ρ' ψ G.v z ∧ WR ρ' ψ G.h w' ∧ EvoN G.N φ h w ψ G.h w' := by
  have hF : F.ok ρ := by
    have := hfacts 0 ρ hi
    unfold startF at hs
    cases hg : enterFr C G.f args false with
    | none => rw [hg] at hs; cases hs
    | some g => rw [hg] at hs; simp only [Option.map_some, Option.some.injEq] at hs; rw [← hs] at this; exact this
  intro cs
  obtain ⟨hm, hh, _⟩ := startF_ok (P := P) (hC 0 ρ hi) hF hw hG ha hs
  obtain ⟨ρ', ψ, fr', w', z, a1, a2, a3, a4, a5, a6, a7⟩ := Graph.ok hC hfacts hat hok (μ 0 ρ + 1) 0 ρ (Nat.lt_succ_self _) φ _ [] cs w hi hm
  rw [hh] at a7
  exact ⟨.returned z, w', fr', ⟨ρ', ψ, z, rfl, a1, a5, a6, a7⟩, a2, a4, a3⟩
end Go.Sx
