import Derived.Test.YtanpkoghglnphaaGreatDoorSxG
import Derived.ChangeSame
import Derived.RowKit3
namespace Go.Sx
/-- what a reckoned tree says of the machine -/
def TreeR (P : Program) (ρ : Env) (φ : Pl) (h : Heap) (base : List Frame) (fr : Frame) (cs : List Frame) (w : World) : Tree → Prop
  | .next m' => SimN P ρ φ h base fr cs w m'
  | .fork c a b => (c.den ρ = true → TreeR P ρ φ h base fr cs w a) ∧ (c.den ρ = false → TreeR P ρ φ h base fr cs w b)
  | .done v m' => ∃ φ' fr' w' z, Steps P (lone fr (cs ++ base) w) (lone fr' base w') ∧ fr'.leaving P w' (.returned z) ∧ fr'.fn = m'.fr.fn ∧ VR ρ φ' v z ∧ Evo ρ φ h w φ' m'.h w'
  | .dead _ _ => True
  | .fail _ _ => True
theorem TreeR.trans {P : Program} {ρ : Env} {φ φ1 : Pl} {h h1 : Heap} {base : List Frame} {fr fr1 : Frame} {cs cs1 : List Frame} {w w1 : World} (hs : Steps P (lone fr (cs ++ base) w) (lone fr1 (cs1 ++ base) w1)) (he : Evo ρ φ h w φ1 h1 w1) :
    ∀ {t : Tree}, TreeR P ρ φ1 h1 base fr1 cs1 w1 t → TreeR P ρ φ h base fr cs w t
  | .next _, ⟨φ', fr', cs', w', h1, h2, h3⟩ => ⟨φ', fr', cs', w', hs.trans h1, h2, he.trans h3⟩
  | .fork _ _ _, ⟨h1, h2⟩ => ⟨fun e => TreeR.trans hs he (h1 e), fun e => TreeR.trans hs he (h2 e)⟩
  | .done _ _, ⟨φ', fr', w', z, h1, h2, h3, h4, h5⟩ => ⟨φ', fr', w', z, hs.trans h1, h2, h3, h4, he.trans h5⟩
  | .dead _ _, _ => trivial
  | .fail _ _, _ => trivial
section
variable {C : Ctx} {P : Program} {ρ : Env} (hC : CtxOK C P ρ)
include hC in
theorem exec_ok : ∀ (n : Nat) {φ : Pl} {w : World} {m : AM} {fr : Frame} {cs base : List Frame}, MR ρ φ m fr cs w → TreeR P ρ φ m.h base fr cs w (exec C n m)
  | 0, φ, w, m, fr, cs, base, hm => ⟨φ, fr, cs, w, Steps.refl _ _, hm, Evo.refl hm.wr⟩
  | n + 1, φ, w, m, fr, cs, base, hm => by
    have h := stepA_ok (base := base) hC hm
    simp only [exec]
    cases hs : stepA C m with
    | next m' =>
      rw [hs] at h
      obtain ⟨φ', fr', cs', w', h1, h2, h3⟩ := h
      exact TreeR.trans h1 h3 (exec_ok n h2)
    | fork c m' =>
      rw [hs] at h
      have h : m' = m := h
      subst h
      refine ⟨fun e => ?_, fun e => ?_⟩
      · have hm2 : MR ρ φ (m'.addFact c true) fr cs w := by
          cases m'; exact ⟨hm.wr, fun p hp => by
            rcases List.mem_cons.1 hp with rfl | hp
            · exact e
            · exact hm.facts p hp, hm.fr, hm.cs, hm.glob⟩
        have := exec_ok n (base := base) hm2
        cases m'; exact this
      · have hm2 : MR ρ φ (m'.addFact c false) fr cs w := by
          cases m'; exact ⟨hm.wr, fun p hp => by
            rcases List.mem_cons.1 hp with rfl | hp
            · exact e
            · exact hm.facts p hp, hm.fr, hm.cs, hm.glob⟩
        have := exec_ok n (base := base) hm2
        cases m'; exact this
    | done v m' => rw [hs] at h; exact h
    | dead c m' => trivial
    | fail s m' => trivial
end
end Go.Sx
namespace Go.Sx
/-- the tables of a program -/
noncomputable def ctxOf (P : Program) (lies : List (Nat × Nat × Nat)) (exts : List (Nat × Ext)) (orc : List Orc) (por : List POrc) : Ctx := {
  fn := PT.ofList P.funcs.toList 0 .nil
  ty := PT.ofList (P.types.toList.zipIdx.map fun p => rowOf P p.2 p.1) 0 .nil
  ext := exts.foldr (fun p t => t.set p.1 p.2) .nil
  lies
  orc
  por }
theorem ctxOf_fn {P : Program} {lies : List (Nat × Nat × Nat)} {exts : List (Nat × Ext)} {orc : List Orc} {por : List POrc} {i : Nat} {f : Func} (h : (ctxOf P lies exts orc por).fn.get i = some f) : P.funcs[i]? = some f := by
  have h : (PT.ofList P.funcs.toList 0 .nil).get i = some f := h
  rw [PT.get_ofList] at h
  split at h
  · simpa using h
  · cases h
theorem ext_foldr {exts : List (Nat × Ext)} {f : Nat} {e : Ext} (h : (exts.foldr (fun p (t : PT Ext) => t.set p.1 p.2) .nil).get f = some e) : (f, e) ∈ exts := by
  induction exts with
  | nil => cases h
  | cons p l ih =>
    rw [List.foldr_cons, PT.get_set] at h
    by_cases hf : f = p.1
    · rw [if_pos hf] at h; cases h; subst hf; exact List.mem_cons_self
    · rw [if_neg hf] at h; exact List.mem_cons_of_mem _ (ih h)
theorem info_of {P : Program} {t : Nat} {i : TypeInfo} (h : P.types[t]? = some i) : P.info? t = some i := by
  have hlt := size_of h
  show P.toTables.info? t = some i
  unfold Tables.info?
  rw [if_pos hlt]; exact h
theorem ctxOf_ok {P : Program} {ρ : Env} {lies : List (Nat × Nat × Nat)} {exts : List (Nat × Ext)} {orc : List Orc} {por : List POrc}
    (hext : ∀ f e, (f, e) ∈ exts → ∃ fn g, P.funcs[f]? = some fn ∧ (fn.name == "runtime.NumGoroutine") = false ∧ fn.body = none ∧ Extern.findNext fn = none ∧ Extern.find fn = some g ∧ ExtIs P g e)
    (hnum : P.funcs.toList.all (fun f => f.body.isNone || !(f.name == "runtime.NumGoroutine")) = true)
    (hund : (List.range P.types.size).all (fun t => (P.underlying t).isSome) = true)
    (hlies : ∀ e o t, (e, o, t) ∈ lies → ∀ count, 1 ≤ count → liesAt P P.depth e count o t 1 = true)
    (hmix : P.follows .mixedOrders = true) (hdep : ∃ d, P.depth = d + 1) (horc : ∀ o ∈ orc, OrcOK P ρ o) (hpor : ∀ o ∈ por, POrcOK P ρ o) : CtxOK (ctxOf P lies exts orc por) P ρ := by
  refine ⟨fun f e h => hext f e (ext_foldr h), fun i f h => ctxOf_fn h, fun i f h hb => ?_, fun t r h => ?_, hlies, hmix, hdep, horc, hpor⟩
  · have hf := ctxOf_fn h
    have := List.all_eq_true.1 hnum f (Array.mem_toList_iff.2 (Array.mem_of_getElem? hf))
    simp only [Bool.or_eq_true, Bool.not_eq_true'] at this
    rcases this with h1 | h1
    · exact absurd (by simpa using h1) hb
    · exact h1
  · have h : (PT.ofList (P.types.toList.zipIdx.map fun p => rowOf P p.2 p.1) 0 .nil).get t = some r := h
    rw [PT.get_ofList] at h
    split at h
    · rename_i hlt
      simp only [Nat.sub_zero, List.getElem?_map, List.getElem?_zipIdx, Array.getElem?_toList] at h
      cases ht : P.types[t]? with
      | none => rw [ht] at h; cases h
      | some i =>
        rw [ht] at h
        simp only [Option.map_some, Option.some.injEq, Nat.zero_add] at h
        have hlt' := size_of ht
        have hu := List.all_eq_true.1 hund t (List.mem_range.2 hlt')
        cases hU : P.underlying t with
        | none => rw [hU] at hu; cases hu
        | some u =>
          refine ⟨i, info_of ht, ?_, ?_, ?_, ?_⟩
          · rw [← h]; simp [rowOf, hU]
          · rw [← h]; rfl
          · rw [← h]; rfl
          · intro z hz
            rw [← h] at hz
            simp only [rowOf] at hz
            cases hzero : i.zero with
            | none => rw [hzero] at hz; cases hz
            | some v => rw [hzero] at hz; exact ⟨v, rfl, hz⟩
    · cases h
/-! a call -/
section
variable {C : Ctx} {P : Program} {ρ : Env} (hC : CtxOK C P ρ) {φ : Pl} {w : World}
include hC in
theorem startF_ok {F : Facts} (hF : F.ok ρ) {f : Nat} {args : List AV} {xs : List Value} {h : Heap} {m : AM} (hw : WR ρ φ h w) (hG : Glob φ) (ha : VRs ρ φ args xs) (hs : startF C F f args h = some m) :
    MR ρ φ m (Frame.enter P f ⟨xs⟩ .normal) [] w ∧ m.h = h ∧ m.fr.fn = f := by
  unfold startF at hs
  cases hg : enterFr C f args false with
  | none => rw [hg] at hs; cases hs
  | some g =>
    rw [hg] at hs
    cases hs
    have hen := enter_ok (P := P) hC ha hg
    exact ⟨⟨hw, hF, by simpa using hen, trivial, hG⟩, rfl, hen.fn.symm.trans rfl⟩
include hC in
theorem start_ok {f : Nat} {args : List AV} {xs : List Value} {h : Heap} {m : AM} (hw : WR ρ φ h w) (hG : Glob φ) (ha : VRs ρ φ args xs) (hs : start C f args h = some m) :
    MR ρ φ m (Frame.enter P f ⟨xs⟩ .normal) [] w ∧ m.h = h ∧ m.fr.fn = f := by
  unfold start at hs
  cases hg : enterFr C f args false with
  | none => rw [hg] at hs; cases hs
  | some g =>
    rw [hg] at hs
    cases hs
    have hen := enter_ok (P := P) hC ha hg
    exact ⟨⟨hw, (fun p hp => by cases hp), by simpa using hen, trivial, hG⟩, rfl, hen.fn.symm.trans rfl⟩
/-- a leaf that is reached under rho -/
inductive Leaf (ρ : Env) : Tree → Tree → Prop
  | next (m : AM) : Leaf ρ (.next m) (.next m)
  | done (v : AV) (m : AM) : Leaf ρ (.done v m) (.done v m)
  | left {c : SB} {a b t : Tree} (h : c.den ρ = true) (hl : Leaf ρ a t) : Leaf ρ (.fork c a b) t
  | right {c : SB} {a b t : Tree} (h : c.den ρ = false) (hl : Leaf ρ b t) : Leaf ρ (.fork c a b) t
theorem TreeR.leaf {P : Program} {h : Heap} {base : List Frame} {fr : Frame} {cs : List Frame} {t u : Tree} (hl : Leaf ρ t u) (ht : TreeR P ρ φ h base fr cs w t) : TreeR P ρ φ h base fr cs w u := by
  induction hl with
  | next m => exact ht
  | done v m => exact ht
  | left hc _ ih => exact ih (ht.1 hc)
  | right hc _ ih => exact ih (ht.2 hc)
include hC in
/-- a call whose reckoning ends: it returns the value, and the world goes on as said -/
theorem calls_of_exec {f : Nat} {args : List AV} {xs : List Value} {h : Heap} {m m' : AM} {n : Nat} {v : AV} {F : Facts} (hF : F.ok ρ) (hw : WR ρ φ h w) (hG : Glob φ) (ha : VRs ρ φ args xs) (hs : startF C F f args h = some m)
    (hl : Leaf ρ (exec C n m) (.done v m')) (hfn : m'.fr.fn = f) :
    Calls P f ⟨xs⟩ w fun e w' => ∃ φ' z, e = .returned z ∧ VR ρ φ' v z ∧ Evo ρ φ h w φ' m'.h w' := by
  intro cs
  obtain ⟨hm, hh, _⟩ := startF_ok (P := P) hC hF hw hG ha hs
  have ht := TreeR.leaf hl (exec_ok hC n (base := cs) hm)
  rw [hh] at ht
  obtain ⟨φ', fr', w', z, h1, h2, h3, h4, h5⟩ := ht
  exact ⟨.returned z, w', fr', ⟨φ', z, rfl, h4, h5⟩, h1, h3.trans hfn, h2⟩
end
theorem Evo.kept {ρ : Env} {φ φ' : Pl} {h h' : Heap} {w w' : World} (he : Evo ρ φ h w φ' h' w') (hno : ∀ b, ¬ Own φ h b) : Kept w w' := ⟨fun b hb => he.keep b hb (hno b), he.same, he.size⟩
theorem Kept.but {W w' : World} (h : Kept W w') (may : MemPlace → Prop) : W.keptBut w' may := by
  refine ⟨h.same.1, h.same.2, fun i hi => ?_⟩
  rw [h.blk i hi]
  cases ho : W.heap[i]? with
  | none => rfl
  | some o => cases o <;> simp
theorem Kept.frozen {W w' : World} (h : Kept W w') (a : Addr) (ha : a.block < W.heap.size) : w'.frozen? a = W.frozen? a := by
  simp [World.frozen?, h.blk a.block ha]
end Go.Sx
namespace Go.Sx
def incr : List (Nat × ABlk) → Bool
  | [] => true
  | (i, _) :: l => below i l && incr l
where
  below (i : Nat) : List (Nat × ABlk) → Bool
    | [] => true
    | (j, _) :: l => Nat.blt i j && below i l
noncomputable def orcCheck (C : Ctx) (o : Orc) (n : Nat) : Bool := match startF C o.facts o.f o.args (heapOf' o.pre o.next) with
  | some m => (match exec C n m with
    | .done v m' => AV.beq v o.v && subB m'.h.t o.post && m'.h.next.beq o.next' && m'.fr.fn.beq o.f
    | _ => false)
  | none => false
theorem below_ok {i : Nat} : ∀ {l : List (Nat × ABlk)}, incr.below i l = true → ∀ p ∈ l, i < p.1
  | (j, b) :: l, h, p, hp => by
    simp only [incr.below, Bool.and_eq_true] at h
    rcases List.mem_cons.1 hp with rfl | hp
    · simpa using h.1
    · exact below_ok h.2 p hp
theorem incr_get : ∀ {l : List (Nat × ABlk)} {n : Nat}, incr l = true → ∀ p ∈ l, (heapOf' l n).t.get p.1 = some p.2
  | (j, b) :: l, n, h, p, hp => by
    simp only [incr, Bool.and_eq_true] at h
    show ((l.foldr (fun p (t : PT ABlk) => t.set p.1 p.2) .nil).set j b).get p.1 = some p.2
    rw [PT.get_set]
    rcases List.mem_cons.1 hp with rfl | hp
    · rw [if_pos rfl]
    · have := below_ok h.1 p hp
      rw [if_neg (by omega)]
      exact incr_get (n := n) h.2 p hp
theorem Evo.sub {ρ : Env} {φ φ' : Pl} {h h' h2 : Heap} {w w' : World} (he : Evo ρ φ h w φ' h' w') (hs : ∀ i b, h2.t.get i = some b → h'.t.get i = some b) (hn : h2.next = h'.next) : Evo ρ φ h w φ' h2 w' :=
  ⟨he.le, he.wr.sub hs hn, he.keep, fun b ⟨id, bb, L, h1, h2, h3, h4⟩ => he.own b ⟨id, bb, L, hs id bb h1, h2, h3, h4⟩, he.size, by rw [hn]; exact he.next, he.same⟩
theorem orc_of_check {C : Ctx} {P : Program} {ρ : Env} (hC : CtxOK C P ρ) {o : Orc} {n : Nat} (h : orcCheck C o n = true) (hnd : incr o.post = true) : OrcOK P ρ o := by
  refine ⟨fun φ w xs hw hG hF ha => ?_, incr_get hnd⟩
  unfold orcCheck at h
  split at h
  · rename_i m hs
    split at h
    · rename_i v m' hex
      simp only [Bool.and_eq_true] at h
      obtain ⟨⟨⟨h1, h2⟩, h3⟩, h4⟩ := h
      have hv := AV.beq_eq h1
      have hsub := subB_ok h2
      have hl : Leaf ρ (exec C n m) (.done v m') := by rw [hex]; exact .done v m'
      refine (calls_of_exec hC hF hw hG ha hs hl (beq_nat h4)).mono fun e w' ⟨φ', z, he, hz, hev⟩ => ?_
      subst hv
      exact ⟨φ', z, he, hz, hev.sub (fun i b hb => hsub _ (heapOf_mem hb)) (beq_nat h3).symm⟩
    · cases h
  · cases h
theorem orcs_nil {P : Program} {ρ : Env} : ∀ x ∈ ([] : List Orc), OrcOK P ρ x := fun x h => by cases h
theorem orcs_cons {P : Program} {ρ : Env} {o : Orc} {l : List Orc} (h : OrcOK P ρ o) (hl : ∀ x ∈ l, OrcOK P ρ x) : ∀ x ∈ o :: l, OrcOK P ρ x := fun x hx => by
  rcases List.mem_cons.1 hx with rfl | hx
  · exact h
  · exact hl x hx
theorem pors_nil {P : Program} {ρ : Env} : ∀ x ∈ ([] : List POrc), POrcOK P ρ x := fun x h => by cases h
theorem pors_cons {P : Program} {ρ : Env} {o : POrc} {l : List POrc} (h : POrcOK P ρ o) (hl : ∀ x ∈ l, POrcOK P ρ x) : ∀ x ∈ o :: l, POrcOK P ρ x := fun x hx => by
  rcases List.mem_cons.1 hx with rfl | hx
  · exact h
  · exact hl x hx
end Go.Sx
