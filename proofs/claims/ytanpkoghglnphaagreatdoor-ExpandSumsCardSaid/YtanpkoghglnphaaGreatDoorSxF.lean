import Derived.Test.YtanpkoghglnphaaGreatDoorSxE
namespace Go.Sx
def PanR (ρ : Env) (φ : Pl) (p : APanic) (e : PanicEntry) : Prop := VR ρ φ p.v e.v ∧ e.recovered = p.recovered ∧ e.goexit = false
def PansR (ρ : Env) (φ : Pl) : List APanic → List PanicEntry → Prop
  | [], [] => True
  | p :: ps, e :: es => PanR ρ φ p e ∧ PansR ρ φ ps es
  | _, _ => False
def ModeR (ρ : Env) (φ : Pl) : AMode → FrameMode → Prop
  | .run, m => m = .run
  | .returning, m => m = .returning
  | .panicking c, m => ∃ d, m = .panicking d ∧ PansR ρ φ c d
def DefsR (ρ : Env) (φ : Pl) : List ADef → List Deferred → Prop
  | [], [] => True
  | p :: ps, e :: es => DefR ρ φ p e ∧ DefsR ρ φ ps es
  | _, _ => False
def ItR (φ : Pl) : AItem → Item → Prop
  | .code c, i => i = .code c
  | .inBlock id, i => i = .inBlock id
  | .inLoop b, i => i = .inLoop b
  | .inScope b, i => i = .inScope b
  | .reg ops k rest, i => rest = ops.toList.drop k ∧ k ≤ ops.size ∧ i = .inRegion ops (List.range' k (ops.size - k))
  | .draw _ _ _, _ => False
  | .inRangeFunc l, i => ∃ L, φ l = some L ∧ i = .inRangeFunc L.blk
  | .endRangeFunc l, i => ∃ L, φ l = some L ∧ i = .endRangeFunc L.blk
  | .beginRound, i => i = .beginRound
def ItsR (φ : Pl) : List AItem → List Item → Prop
  | [], [] => True
  | a :: as, i :: is => ItR φ a i ∧ ItsR φ as is
  | _, _ => False
/-- an order in which a region's operations may be carried out -/
structure LinX (ops : Array Oper) (l : List Nat) : Prop where
  nodup : l.Nodup
  mem : ∀ i, i ∈ l ↔ i < ops.size
  ord : ∀ pre i post, l = pre ++ i :: post → ∀ j, bitAt ((preds ops).getD i 0) j = true → j ∈ pre
structure DrawR (ρ : Env) (φ : Pl) (ops : Array Oper) (mask : Nat) (pend : List Nat) (tm : PT AV) (x : Array Value) (l : List Nat) : Prop where
  ok : drawOK ops = true
  ext : ∃ done, LinX ops (done ++ l) ∧ (∀ i o, ops[i]? = some o → isE o = true → (bitAt mask i = true ↔ i ∈ done)) ∧ (∀ i ∈ done, bitAt mask i = true)
  low : ∀ i, bitAt mask i = true → i < ops.size
  tm : ∀ t a, tm.get t = some a → (∃ i o, i ∈ l ∧ bitAt mask i = true ∧ ops[i]? = some o ∧ o.dst = some t) ∨ ∃ y, x[t]? = some y ∧ VR ρ φ a y
  pn : ∀ i, i ∈ l → bitAt mask i = true → i ∈ pend
  pd : ∀ i ∈ pend, ∃ o, ops[i]? = some o ∧ isE o = false ∧ bitAt mask i = true ∧ hasAll mask ((preds ops).getD i 0) = true ∧ dstLt x.size o.dst = true
def BodyR (ρ : Env) (φ : Pl) (tm : PT AV) (todo : List AItem) (x : Array Value) (todo' : List Item) : Prop := match todo with
  | .draw ops mask pend :: k => ∃ l k', todo' = .inRegion ops l :: k' ∧ ItsR φ k k' ∧ DrawR ρ φ ops mask pend tm x l
  | todo => ItsR φ todo todo' ∧ TmR ρ φ tm x
def RoundR (φ : Pl) : Option Nat → Option Nat → Prop
  | none, r => r = none
  | some l, r => ∃ L, φ l = some L ∧ r = some L.blk
def AMode.isRun (m : AMode) : Bool := match m with | .run => true | _ => false
structure FrR (ρ : Env) (φ : Pl) (fr : AFr) (c : Frame) : Prop where
  fn : c.fn = fr.fn
  size : c.tmps.size = fr.n
  kind : c.kind = if fr.deferred then .deferred else .normal
  round : RoundR φ fr.round c.roundOf
  mode : ModeR ρ φ fr.mode c.mode
  defers : DefsR ρ φ fr.defers c.defers
  body : fr.mode.isRun = true → BodyR ρ φ fr.tmps fr.todo c.tmps c.todo
  tm : fr.mode.isRun = false → TmR ρ φ fr.tmps c.tmps
/-- a frame that waits for a value, in a region whose order is drawn: it waits at the operation that is next -/
def WaitR (fr : AFr) (c : Frame) : Prop := fr.mode.isRun = true → match fr.todo with
  | .draw ops mask _ :: _ => ∃ i o l k', nextE (preds ops) mask ops.toList 0 = some (some (i, o)) ∧ c.todo = .inRegion ops (i :: l) :: k'
  | _ => True
def CsR (ρ : Env) (φ : Pl) : List AFr → List Frame → Prop
  | [], [] => True
  | f :: fs, c :: cs => FrR ρ φ f c ∧ WaitR f c ∧ CsR ρ φ fs cs
  | _, _ => False
structure MR (ρ : Env) (φ : Pl) (m : AM) (fr : Frame) (cs : List Frame) (w : World) : Prop where
  wr : WR ρ φ m.h w
  facts : m.facts.ok ρ
  fr : FrR ρ φ m.fr fr
  cs : CsR ρ φ m.cs cs
  glob : Glob φ

section
variable {ρ : Env} {φ ψ : Pl} (hle : φ.le ψ)
include hle
theorem TmR.mono {tm : PT AV} {x : Array Value} (h : TmR ρ φ tm x) : TmR ρ ψ tm x := fun t v hv => let ⟨y, h1, h2⟩ := h t v hv; ⟨y, h1, VR.mono hle _ _ h2⟩
theorem PanR.mono {p : APanic} {e : PanicEntry} (h : PanR ρ φ p e) : PanR ρ ψ p e := ⟨VR.mono hle _ _ h.1, h.2⟩
theorem PansR.mono : ∀ {p : List APanic} {e : List PanicEntry}, PansR ρ φ p e → PansR ρ ψ p e
  | [], [], _ => trivial
  | _ :: _, _ :: _, h => ⟨h.1.mono hle, PansR.mono h.2⟩
  | [], _ :: _, h => h.elim
  | _ :: _, [], h => h.elim
theorem ModeR.mono {m : AMode} {e : FrameMode} (h : ModeR ρ φ m e) : ModeR ρ ψ m e := by
  cases m with
  | run => exact h
  | returning => exact h
  | panicking c => obtain ⟨d, h1, h2⟩ := h; exact ⟨d, h1, h2.mono hle⟩
theorem DefsR.mono : ∀ {p : List ADef} {e : List Deferred}, DefsR ρ φ p e → DefsR ρ ψ p e
  | [], [], _ => trivial
  | _ :: _, _ :: _, h => ⟨h.1.mono hle, DefsR.mono h.2⟩
  | [], _ :: _, h => h.elim
  | _ :: _, [], h => h.elim
theorem ItR.mono {a : AItem} {i : Item} (h : ItR φ a i) : ItR ψ a i := by
  cases a with
  | inRangeFunc l => obtain ⟨L, h1, h2⟩ := h; exact ⟨L, hle _ _ h1, h2⟩
  | endRangeFunc l => obtain ⟨L, h1, h2⟩ := h; exact ⟨L, hle _ _ h1, h2⟩
  | _ => exact h
theorem ItsR.mono : ∀ {a : List AItem} {i : List Item}, ItsR φ a i → ItsR ψ a i
  | [], [], _ => trivial
  | _ :: _, _ :: _, h => ⟨h.1.mono hle, ItsR.mono h.2⟩
  | [], _ :: _, h => h.elim
  | _ :: _, [], h => h.elim
theorem DrawR.mono {ops : Array Oper} {mask : Nat} {pend : List Nat} {tm : PT AV} {x : Array Value} {l : List Nat} (h : DrawR ρ φ ops mask pend tm x l) : DrawR ρ ψ ops mask pend tm x l :=
  ⟨h.ok, h.ext, h.low, fun t a ha => (h.tm t a ha).imp_right fun ⟨y, h1, h2⟩ => ⟨y, h1, VR.mono hle _ _ h2⟩, h.pn, h.pd⟩
theorem BodyR.mono {tm : PT AV} {todo : List AItem} {x : Array Value} {todo' : List Item} (h : BodyR ρ φ tm todo x todo') : BodyR ρ ψ tm todo x todo' := by
  unfold BodyR at h ⊢
  split at h
  · obtain ⟨l, k', h1, h2, h3⟩ := h; exact ⟨l, k', h1, h2.mono hle, h3.mono hle⟩
  · exact ⟨h.1.mono hle, h.2.mono hle⟩
theorem RoundR.mono {a b : Option Nat} (h : RoundR φ a b) : RoundR ψ a b := by
  cases a with
  | none => exact h
  | some l => obtain ⟨L, h1, h2⟩ := h; exact ⟨L, hle _ _ h1, h2⟩
theorem FrR.mono {fr : AFr} {c : Frame} (h : FrR ρ φ fr c) : FrR ρ ψ fr c := ⟨h.fn, h.size, h.kind, h.round.mono hle, h.mode.mono hle, h.defers.mono hle, (fun e => (h.body e).mono hle), (fun e => (h.tm e).mono hle)⟩
theorem CsR.mono : ∀ {a : List AFr} {b : List Frame}, CsR ρ φ a b → CsR ρ ψ a b
  | [], [], _ => trivial
  | _ :: _, _ :: _, h => ⟨h.1.mono hle, h.2.1, CsR.mono h.2.2⟩
  | [], _ :: _, h => h.elim
  | _ :: _, [], h => h.elim
end

/-! values of booleans; operands -/
theorem VR_bool {ρ : Env} {φ : Pl} {a : AV} {b : Bool} (h : VR ρ φ a (.bool b)) : ∃ s, a = .bool s ∧ s.den ρ = b := by
  cases a <;> simp only [VR] at h
  case bool s => simp only [Value.bool.injEq] at h; exact ⟨s, rfl, h.symm⟩
  all_goals first | (cases h; done) | (obtain ⟨_, h⟩ := h; simp at h; done) | (obtain ⟨_, _, h⟩ := h; simp at h; done) | (obtain ⟨_, _, _, h⟩ := h; simp at h; done) | (obtain ⟨_, _, _, _, h⟩ := h; simp at h; done) | (obtain ⟨_, _, _, _, _, _, h⟩ := h; simp at h; done) | (obtain ⟨_, h, _⟩ := h; simp at h; done) | (obtain ⟨_, _, _, h, _⟩ := h; simp at h; done) | skip
theorem evR_of {ρ : Env} {φ : Pl} (hG : Glob φ) {tm : PT AV} {c : Frame} {xs : List Operand} (h : ∀ t a, Operand.tmp t ∈ xs → tm.get t = some a → ∃ y, c.tmps[t]? = some y ∧ VR ρ φ a y) : EvR ρ φ tm c.eval xs := by
  intro x hx a ha
  cases x with
  | tmp t =>
    simp only [opnd] at ha
    obtain ⟨y, h1, h2⟩ := h t a hx ha
    simp only [Frame.eval, Array.getD_eq_getD_getElem?, h1, Option.getD_some]; exact h2
  | const v => simp only [opnd] at ha; exact AV.ofVal_ok ρ φ v a ha
  | global g =>
    simp only [opnd] at ha
    cases hg : Nat.blt g 64
    · rw [hg] at ha; cases ha
    · rw [hg] at ha; cases ha
      have hn := hG g (by simpa using hg)
      simp only [VR, Frame.eval]; exact ⟨_, hn, rfl⟩
  | func f =>
    simp only [opnd] at ha; cases ha
    simp only [VR, Frame.eval]; exact ⟨.func f, [], [], rfl, rfl, VRs.nil, VRs.nil⟩
theorem evR_tm {ρ : Env} {φ : Pl} (hG : Glob φ) {tm : PT AV} {c : Frame} (h : TmR ρ φ tm c.tmps) (xs : List Operand) : EvR ρ φ tm c.eval xs := evR_of hG (fun t a _ ha => h t a ha)

/-! writing a slot -/
theorem TmR.set {ρ : Env} {φ : Pl} {tm : PT AV} {x : Array Value} (h : TmR ρ φ tm x) {d : Nat} {a : AV} {y : Value} (hy : VR ρ φ a y) (hd : d < x.size) : TmR ρ φ (tm.set d a) (x.setIfInBounds d y) := by
  intro t v hv
  simp only [PT.get_set] at hv
  by_cases e : t = d
  · subst e; rw [if_pos rfl] at hv; cases hv
    exact ⟨y, by simp [hd], hy⟩
  · rw [if_neg e] at hv
    obtain ⟨z, h1, h2⟩ := h t v hv
    exact ⟨z, by rw [Array.getElem?_setIfInBounds_ne (fun e' => e e'.symm)]; exact h1, h2⟩
theorem TmR.setOOB {ρ : Env} {φ : Pl} {tm : PT AV} {x : Array Value} (h : TmR ρ φ tm x) {d : Nat} {y : Value} (hd : ¬ d < x.size) : TmR ρ φ tm (x.setIfInBounds d y) := by
  have : x.setIfInBounds d y = x := by simp [Array.setIfInBounds, hd]
  rw [this]; exact h
end Go.Sx
namespace Go.Sx
/-! lists of numbers -/
theorem split_mem {α : Type} {a : α} : ∀ {l : List α}, a ∈ l → ∃ p q, l = p ++ a :: q
  | b :: l, h => by
    rcases List.mem_cons.1 h with rfl | h
    · exact ⟨[], l, rfl⟩
    · obtain ⟨p, q, rfl⟩ := split_mem h; exact ⟨b :: p, q, rfl⟩
theorem all_len : ∀ (n : Nat) (l : List Nat), (∀ i, i < n → i ∈ l) → n ≤ l.length
  | 0, _, _ => Nat.zero_le _
  | n + 1, l, h => by
    obtain ⟨p, q, rfl⟩ := split_mem (h n (Nat.lt_succ_self n))
    have := all_len n (p ++ q) (fun i hi => by
      have := h i (Nat.lt_succ_of_lt hi)
      simp only [List.mem_append, List.mem_cons] at this ⊢
      rcases this with h | h | h
      · exact .inl h
      · omega
      · exact .inr h)
    simp at this ⊢; omega
theorem nodup_len : ∀ (n : Nat) (l : List Nat), l.Nodup → (∀ i ∈ l, i < n) → l.length ≤ n
  | 0, l, _, h => by
    cases l with
    | nil => exact Nat.le_refl _
    | cons a l => exact absurd (h a List.mem_cons_self) (Nat.not_lt_zero _)
  | n + 1, l, hd, h => by
    by_cases hn : n ∈ l
    · obtain ⟨p, q, rfl⟩ := split_mem hn
      have hd2 : (p ++ q).Nodup := by
        rw [List.nodup_append] at hd ⊢
        simp only [List.nodup_cons, List.mem_cons] at hd
        exact ⟨hd.1, hd.2.1.2, fun a ha b hb => hd.2.2 a ha b (.inr hb)⟩
      have hnn : n ∉ p ++ q := by
        rw [List.nodup_append] at hd
        simp only [List.nodup_cons, List.mem_cons] at hd
        simp only [List.mem_append, not_or]
        exact ⟨fun hp => hd.2.2 n hp n (.inl rfl) rfl, hd.2.1.1⟩
      have := nodup_len n (p ++ q) hd2 (fun i hi => by
        have h1 := h i (by simp only [List.mem_append, List.mem_cons] at hi ⊢; rcases hi with hi | hi <;> simp [hi])
        have h2 : i ≠ n := fun e => hnn (e ▸ hi)
        omega)
      simp at this ⊢; omega
    · have := nodup_len n l hd (fun i hi => by
        have h1 := h i hi
        have h2 : i ≠ n := fun e => hn (e ▸ hi)
        omega)
      omega
theorem nodup_rev {l : List Nat} (h : l.Nodup) : l.reverse.Nodup := by
  unfold List.Nodup at *
  rw [List.pairwise_reverse]
  exact h.imp fun hab => hab.symm
/-! bits -/
theorem hasAll_bit {mask p i : Nat} (h : hasAll mask p = true) (hb : bitAt p i = true) : bitAt mask i = true := by
  unfold hasAll at h
  have h := beq_nat h
  unfold bitAt at hb ⊢
  rw [← h] at hb
  have : (mask &&& p).testBit i = true := hb
  rw [Nat.testBit_and] at this
  simp at this; exact this.1
theorem hasAll_of {mask p : Nat} (h : ∀ i, bitAt p i = true → bitAt mask i = true) : hasAll mask p = true := by
  unfold hasAll
  apply nbeq_true
  show mask &&& p = p
  apply Nat.eq_of_testBit_eq
  intro i
  rw [Nat.testBit_and]
  have := h i
  unfold bitAt at this
  cases hp : p.testBit i <;> simp_all
theorem bit_with (mask i k : Nat) : bitAt (withBit mask i) k = (bitAt mask k || decide (k = i)) := by
  unfold bitAt withBit
  show (mask ||| 2 ^ i).testBit k = _
  rw [Nat.testBit_or, Nat.testBit_two_pow]
  congr 1
  simp [eq_comm]
theorem bit_full {mask n : Nat} (h : (Nat.succ mask).beq (Nat.pow 2 n) = true) (i : Nat) : bitAt mask i = decide (i < n) := by
  have h := beq_nat h
  have : mask = 2 ^ n - 1 := by
    have h' : mask + 1 = 2 ^ n := h
    omega
  unfold bitAt
  rw [this, Nat.testBit_two_pow_sub_one]
theorem bit_zero (i : Nat) : bitAt 0 i = false := by simp [bitAt]
/-! what stands ahead -/
def befStep (acc : Array Nat) (o : Oper) : Nat := o.after.foldl (fun s e => if Region.binds .any e then s ||| 2 ^ e.on ||| acc.getD e.on 0 else s) 0
theorem before_fold : ∀ (l : List Oper) (acc : Array Nat) (k : Nat), let r := l.foldl (fun acc o => acc.push (befStep acc o)) acc
    (r.size = acc.size + l.length) ∧ (k < acc.size → r[k]? = acc[k]?) ∧ (∀ o, acc.size ≤ k → l[k - acc.size]? = some o → ∃ acc' : Array Nat, acc'.size = k ∧ (∀ j, j < k → r[j]? = acc'[j]?) ∧ r[k]? = some (befStep acc' o))
  | [], acc, k => by simp
  | o :: l, acc, k => by
    have ih := before_fold l (acc.push (befStep acc o)) k
    have ih0 := before_fold l (acc.push (befStep acc o))
    simp only [List.foldl_cons] at *
    refine ⟨by rw [ih.1]; simp; omega, fun hk => ?_, fun o' hk ho => ?_⟩
    · rw [ih.2.1 (by simp; omega), Array.getElem?_push, if_neg (by omega)]
    · by_cases e : k = acc.size
      · subst e
        simp only [Nat.sub_self, List.getElem?_cons_zero, Option.some.injEq] at ho
        subst ho
        refine ⟨acc, rfl, fun j hj => ?_, ?_⟩
        · rw [(ih0 j).2.1 (by simp; omega), Array.getElem?_push, if_neg (by omega)]
        · rw [ih.2.1 (by simp), Array.getElem?_push, if_pos rfl]
      · have h1 : k - acc.size = (k - (acc.push (befStep acc o)).size) + 1 := by simp; omega
        rw [h1, List.getElem?_cons_succ] at ho
        exact ih.2.2 o' (by simp; omega) ho
theorem befStep_bit (acc : Array Nat) (o : Oper) (j : Nat) : (befStep acc o).testBit j = true ↔ ∃ e ∈ o.after.toList, Region.binds .any e = true ∧ (j = e.on ∨ (acc.getD e.on 0).testBit j = true) := by
  unfold befStep
  rw [← Array.foldl_toList]
  have : ∀ (l : List Edge) (s : Nat), (l.foldl (fun s e => if Region.binds .any e then s ||| 2 ^ e.on ||| acc.getD e.on 0 else s) s).testBit j = true ↔ s.testBit j = true ∨ ∃ e ∈ l, Region.binds .any e = true ∧ (j = e.on ∨ (acc.getD e.on 0).testBit j = true) := by
    intro l
    induction l with
    | nil => intro s; simp
    | cons e l ih =>
      intro s
      rw [List.foldl_cons, ih]
      by_cases hb : Region.binds .any e = true
      · rw [if_pos hb]
        simp only [Nat.testBit_or, Nat.testBit_two_pow, Bool.or_eq_true, decide_eq_true_eq, List.mem_cons, exists_eq_or_imp, hb, true_and]
        constructor
        · rintro ((h | h) | h)
          · rcases h with h | h
            · exact .inl h
            · exact .inr (.inl (.inl h.symm))
          · exact .inr (.inl (.inr h))
          · exact .inr (.inr h)
        · rintro (h | h | h)
          · exact .inl (.inl (.inl h))
          · rcases h with h | h
            · exact .inl (.inl (.inr h.symm))
            · exact .inl (.inr h)
          · exact .inr h
      · rw [if_neg hb]
        simp only [List.mem_cons, exists_eq_or_imp, hb, false_and, false_or, Bool.false_eq_true]
  rw [this]; simp
theorem edgesOK_lt {i : Nat} : ∀ {l : List Edge}, edgesOK i l = true → ∀ e ∈ l, Region.binds .any e = true → e.on < i
  | e :: l, h, e', he, hb => by
    simp only [edgesOK, Bool.and_eq_true, Bool.or_eq_true, Bool.not_eq_true'] at h
    rcases List.mem_cons.1 he with rfl | he
    · rcases h.1 with h1 | h1
      · rw [hb] at h1; cases h1
      · simpa using h1
    · exact edgesOK_lt h.2 e' he hb
structure RowOK (ops : Array Oper) (i : Nat) (o : Oper) : Prop where
  guard : guardOK o ((preds ops).getD i 0) = true
  self : selfOK o = true
  edges : edgesOK i o.after.toList = true
  pair : ∀ k ok, k < i → ops[k]? = some ok → pairOK ok k o ((preds ops).getD i 0) = true
theorem rowOK_pair {ps : List Nat} {oj : Oper} {pj : Nat} {opsL : List Oper} : ∀ (r : List Oper) (i : Nat), rowOK opsL ps oj pj r i = true → ∀ k ok, r[k]? = some ok → pairOK ok (i + k) oj pj = true
  | [], _, _, k, ok, hk => by simp at hk
  | o :: r, i, h, k, ok, hk => by
    simp only [rowOK, Bool.and_eq_true] at h
    cases k with
    | zero => simp at hk; subst hk; exact h.1
    | succ k =>
      simp at hk
      have := rowOK_pair r (Nat.succ i) h.2 k ok hk
      rwa [show Nat.succ i + k = i + (k + 1) by omega] at this
theorem drawFrom_row {L : List Oper} {ps : List Nat} : ∀ (r : List Oper) (j : Nat), drawFrom L ps r j = true → ∀ k o, r[k]? = some o →
    guardOK o (ps.getD (j + k) 0) = true ∧ selfOK o = true ∧ edgesOK (j + k) o.after.toList = true ∧ rowOK L ps o (ps.getD (j + k) 0) (L.take (j + k)) 0 = true
  | [], _, _, k, ok, hk => by simp at hk
  | o :: r, j, h, k, o', hk => by
    simp only [drawFrom, Bool.and_eq_true] at h
    cases k with
    | zero => simp at hk; subst hk; exact ⟨h.1.1.1.1, h.1.1.1.2, h.1.1.2, h.1.2⟩
    | succ k =>
      simp at hk
      have := drawFrom_row r (Nat.succ j) h.2 k o' hk
      rwa [show Nat.succ j + k = j + (k + 1) by omega] at this
theorem drawOK_row {ops : Array Oper} (h : drawOK ops = true) {i : Nat} {o : Oper} (ho : ops[i]? = some o) : RowOK ops i o := by
  obtain ⟨h1, h2, h3, h4⟩ := drawFrom_row ops.toList 0 h i o (by simpa using ho)
  rw [Nat.zero_add] at h1 h3 h4
  refine ⟨h1, h2, h3, fun k ok hk hok => ?_⟩
  have := rowOK_pair _ 0 h4 k ok (by rw [List.getElem?_take, if_pos hk]; simpa using hok)
  rwa [Nat.zero_add] at this
/-- what stands ahead of an operation is what its edges say, and what stands ahead of that -/
theorem preds_bit {ops : Array Oper} (h : drawOK ops = true) {i : Nat} {o : Oper} (ho : ops[i]? = some o) (j : Nat) :
    bitAt ((preds ops).getD i 0) j = true ↔ ∃ e ∈ o.after.toList, Region.binds .any e = true ∧ (j = e.on ∨ bitAt ((preds ops).getD e.on 0) j = true) := by
  have hB : Region.before ops = ops.toList.foldl (fun acc o => acc.push (befStep acc o)) #[] := by
    unfold Region.before; rw [← Array.foldl_toList]; rfl
  have hf := (before_fold ops.toList #[] i).2.2 o (Nat.zero_le _) (by simpa using ho)
  obtain ⟨acc', hs, hpre, hat⟩ := hf
  have hg : (preds ops).getD i 0 = befStep acc' o := by
    unfold preds
    rw [List.getD_eq_getElem?_getD, Array.getElem?_toList, hB, hat]; rfl
  unfold bitAt at *
  rw [hg, befStep_bit]
  have hr := drawOK_row h ho
  constructor
  · rintro ⟨e, he, hb, hj⟩
    have hlt := edgesOK_lt hr.edges e he hb
    refine ⟨e, he, hb, hj.imp_right fun hj => ?_⟩
    unfold preds
    rw [List.getD_eq_getElem?_getD, Array.getElem?_toList, hB, hpre _ hlt, ← Array.getD_eq_getD_getElem?]; exact hj
  · rintro ⟨e, he, hb, hj⟩
    have hlt := edgesOK_lt hr.edges e he hb
    refine ⟨e, he, hb, hj.imp_right fun hj => ?_⟩
    unfold preds at hj
    rw [List.getD_eq_getElem?_getD, Array.getElem?_toList, hB, hpre _ hlt, ← Array.getD_eq_getD_getElem?] at hj; exact hj
theorem preds_lt {ops : Array Oper} (h : drawOK ops = true) : ∀ (i : Nat) {o : Oper}, ops[i]? = some o → ∀ j, bitAt ((preds ops).getD i 0) j = true → j < i := by
  intro i
  induction i using Nat.strongRecOn with
  | _ i ih =>
    intro o ho j hj
    obtain ⟨e, he, hb, hj⟩ := (preds_bit h ho j).1 hj
    have hlt := edgesOK_lt (drawOK_row h ho).edges e he hb
    rcases hj with rfl | hj
    · exact hlt
    · have hi : i < ops.size := by
        rcases Nat.lt_or_ge i ops.size with h | h
        · exact h
        · rw [Array.getElem?_eq_none h] at ho; cases ho
      have := ih e.on hlt (o := ops[e.on]'(by omega)) (by rw [Array.getElem?_eq_getElem]) j hj
      omega
/-- an order that goes along the edges goes along all that stands ahead -/
theorem closed_linX {ops : Array Oper} (h : drawOK ops = true) {l : List Nat} (hd : l.Nodup) (hm : ∀ i, i ∈ l ↔ i < ops.size)
    (hc : ∀ pre i post, l = pre ++ i :: post → ∀ o, ops[i]? = some o → ∀ e ∈ o.after.toList, Region.binds .any e = true → e.on ∈ pre) : LinX ops l := by
  refine ⟨hd, hm, ?_⟩
  intro pre i
  induction i using Nat.strongRecOn generalizing pre with
  | _ i ih =>
    intro post hl j hj
    have hi : i < ops.size := (hm i).1 (by rw [hl]; simp)
    have ho : ops[i]? = some ops[i] := Array.getElem?_eq_getElem hi
    obtain ⟨e, he, hb, hj⟩ := (preds_bit h ho j).1 hj
    have hlt := edgesOK_lt (drawOK_row h ho).edges e he hb
    have hin := hc pre i post hl _ ho e he hb
    rcases hj with rfl | hj
    · exact hin
    · obtain ⟨p, q, rfl⟩ := split_mem hin
      have := ih e.on hlt p (q ++ i :: post) (by rw [hl]; simp) j hj
      simp [this]
theorem linearise_go {ops : Array Oper} (h : drawOK ops = true) : ∀ (fuel t : Nat) (listed : Array Bool) (acc : List Nat), listed.size = ops.size → (∀ i, i < ops.size → (listed[i]? = some true ↔ i ∈ acc)) → acc.Nodup → (∀ i ∈ acc, i < ops.size) →
    acc.length + fuel = ops.size → (∀ pre i post, acc.reverse = pre ++ i :: post → ∀ o, ops[i]? = some o → ∀ e ∈ o.after.toList, Region.binds .any e = true → e.on ∈ pre) →
    LinX ops (Region.linearise.go .any ops fuel t listed acc)
  | 0, t, listed, acc, hs, hl, hd, hb, hlen, hc => by
    simp only [Region.linearise.go]
    refine closed_linX h (nodup_rev hd) (fun i => ?_) hc
    rw [List.mem_reverse]
    refine ⟨hb i, fun hi => ?_⟩
    by_cases hin : i ∈ acc
    · exact hin
    · have := nodup_len ops.size (i :: acc) (List.nodup_cons.2 ⟨hin, hd⟩) (by
        intro k hk
        rcases List.mem_cons.1 hk with rfl | hk
        · exact hi
        · exact hb k hk)
      simp at this; omega
  | fuel + 1, t, listed, acc, hs, hl, hd, hb, hlen, hc => by
    simp only [Region.linearise.go]
    have hrs : ∀ i, i ∈ ((List.range ops.size).filter fun i => !listed.getD i true && ((ops[i]?).map (·.after.all fun e => !Region.binds .any e || listed.getD e.on false)).getD false) ↔
        i < ops.size ∧ i ∉ acc ∧ ∀ o, ops[i]? = some o → ∀ e ∈ o.after.toList, Region.binds .any e = true → listed.getD e.on false = true := by
      intro i
      simp only [List.mem_filter, List.mem_range, Bool.and_eq_true, Bool.not_eq_true']
      constructor
      · rintro ⟨h1, h2, h3⟩
        refine ⟨h1, fun hin => ?_, fun o ho e he hb => ?_⟩
        · have := (hl i h1).2 hin
          rw [Array.getD_eq_getD_getElem?, this] at h2; cases h2
        · rw [ho] at h3
          simp only [Option.map_some, Option.getD_some, Array.all_eq_true_iff_forall_mem] at h3
          have := h3 e (Array.mem_toList_iff.1 he)
          simpa [hb] using this
      · rintro ⟨h1, h2, h3⟩
        have ho : ops[i]? = some ops[i] := Array.getElem?_eq_getElem h1
        refine ⟨h1, ?_, ?_⟩
        · have hi : i < listed.size := by omega
          rw [Array.getD_eq_getD_getElem?, Array.getElem?_eq_getElem hi, Option.getD_some]
          cases hv : listed[i]
          · rfl
          · exact absurd ((hl i h1).1 (by rw [Array.getElem?_eq_getElem hi, hv])) h2
        · rw [ho]
          simp only [Option.map_some, Option.getD_some, Array.all_eq_true_iff_forall_mem]
          intro e he
          cases hb : Region.binds .any e
          · rfl
          · have := h3 _ ho e (Array.mem_toList_iff.2 he) hb
            simp [this]
    generalize hR : ((List.range ops.size).filter fun i => !listed.getD i true && ((ops[i]?).map (·.after.all fun e => !Region.binds .any e || listed.getD e.on false)).getD false) = rs at hrs
    have hne : rs ≠ [] := by
      -- the least that is not listed
      have hex : ∃ i, i < ops.size ∧ i ∉ acc := by
        refine Classical.byContradiction fun hno => ?_
        have := all_len ops.size acc (fun i hi => Classical.byContradiction fun hn => hno ⟨i, hi, hn⟩)
        omega
      have hmin : ∃ i, i < ops.size ∧ i ∉ acc ∧ ∀ j, j < i → j ∈ acc := by
        obtain ⟨i, hi, hn⟩ := hex
        induction i using Nat.strongRecOn with
        | _ i ih =>
          by_cases hj : ∃ j, j < i ∧ j ∉ acc
          · obtain ⟨j, h1, h2⟩ := hj
            exact ih j h1 (by omega) h2
          · exact ⟨i, hi, hn, fun j hj' => Classical.byContradiction fun hn' => hj ⟨j, hj', hn'⟩⟩
      obtain ⟨i, hi, hn, hall⟩ := hmin
      have : i ∈ rs := (hrs i).2 ⟨hi, hn, fun o ho e he hb => by
        have hlt := edgesOK_lt (drawOK_row h ho).edges e he hb
        have := (hl e.on (by omega)).2 (hall _ hlt)
        rw [Array.getD_eq_getD_getElem?, this]; rfl⟩
      intro e; rw [e] at this; cases this
    have hpos : 0 < rs.length := List.length_pos_iff.2 hne
    have hget : rs[t % rs.length]? = some (rs[t % rs.length]'(Nat.mod_lt _ hpos)) := List.getElem?_eq_getElem _
    rw [hget]
    dsimp only
    generalize hI : rs[t % rs.length]'(Nat.mod_lt _ hpos) = i
    have hi := (hrs i).1 (by rw [← hI]; exact List.getElem_mem _)
    obtain ⟨h1, h2, h3⟩ := hi
    refine linearise_go h fuel (t / rs.length) _ (i :: acc) (by simpa using hs) ?_ (List.nodup_cons.2 ⟨h2, hd⟩) (by
      intro k hk
      rcases List.mem_cons.1 hk with rfl | hk
      · exact h1
      · exact hb k hk) (by simp; omega) ?_
    · intro k hk
      by_cases e : k = i
      · subst e; simp [hs, h1]
      · rw [Array.getElem?_setIfInBounds_ne (fun e' => e e'.symm), hl k hk]; simp [e]
    · intro pre k post hr o ho e he hbe
      rw [List.reverse_cons] at hr
      have hinj : (∃ post', post = post' ++ [i] ∧ acc.reverse = pre ++ k :: post') ∨ (post = [] ∧ k = i ∧ acc.reverse = pre) := by
        rcases List.eq_nil_or_concat post with rfl | ⟨post', b, rfl⟩
        · right
          have := List.append_inj' hr rfl
          simp at this
          exact ⟨rfl, this.2.symm, this.1⟩
        · left
          have : acc.reverse ++ [i] = (pre ++ k :: post') ++ [b] := by rw [hr]; simp
          have := List.append_inj' this rfl
          have h2 : i = b := by simpa using this.2
          exact ⟨post', by simp [h2], this.1⟩
      rcases hinj with ⟨post', rfl, hacc⟩ | ⟨rfl, rfl, hacc⟩
      · exact hc pre k post' hacc o ho e he hbe
      · have hlt := edgesOK_lt (drawOK_row h ho).edges e he hbe
        have h4 := h3 o ho e he hbe
        have hin : e.on < listed.size := by omega
        rw [Array.getD_eq_getD_getElem?, Array.getElem?_eq_getElem hin, Option.getD_some] at h4
        have := (hl e.on (by omega)).1 (by rw [Array.getElem?_eq_getElem hin, h4])
        rw [← hacc]; simpa using this
theorem schedule_linX {ops : Array Oper} (h : drawOK ops = true) (t : Nat) : LinX ops (Region.schedule true ops t) := by
  unfold Region.schedule
  simp only [Bool.true_or, if_true]
  refine linearise_go h ops.size t _ [] (by simp) ?_ List.nodup_nil (by simp) (by simp) (by simp)
  intro i hi
  simp [hi]
end Go.Sx
namespace Go.Sx
theorem size_of {α : Type} {ops : Array α} {i : Nat} {o : α} (h : ops[i]? = some o) : i < ops.size := by
  rcases Nat.lt_or_ge i ops.size with h' | h'
  · exact h'
  · rw [Array.getElem?_eq_none h'] at h; cases h
theorem usesTmp_mem {t : Nat} : ∀ {l : List Operand}, Operand.tmp t ∈ l → usesTmp t l = true
  | x :: l, h => by
    rcases List.mem_cons.1 h with rfl | h
    · simp [usesTmp]
    · have := usesTmp_mem h
      cases x <;> simp only [usesTmp] <;> first | exact this | (rename_i u; cases u.beq t <;> simp [this])
/-- the slot that an operation's guard looks at -/
def guardSlot (ops : Array Oper) (o : Oper) : Option Nat := match o.guard with
  | some (j, _) => (ops.toList[j]?).bind (·.dst)
  | none => none
def reads (ops : Array Oper) (o : Oper) (t : Nat) : Prop := Operand.tmp t ∈ o.op.operands.toList ∨ guardSlot ops o = some t
section
variable {C : Ctx} {P : Program} {ρ : Env} (hC : CtxOK C P ρ) {φ : Pl} {F : Facts} (hF : F.ok ρ) {h : Heap} {w : World} (hw : WR ρ φ h w)

/-- two operations of a region lay different slots -/
theorem dst_apart {ops : Array Oper} (hok : drawOK ops = true) {i j : Nat} {oi oj : Oper} (hi : ops[i]? = some oi) (hj : ops[j]? = some oj) (hne : i ≠ j) {d : Nat} (h1 : oi.dst = some d) : oj.dst ≠ some d := by
  intro h2
  have key : ∀ {i j : Nat} {oi oj : Oper}, ops[i]? = some oi → ops[j]? = some oj → i < j → oi.dst = some d → oj.dst = some d → False := by
    intro i j oi oj hi hj hlt h1 h2
    have := (drawOK_row hok hj).pair i oi hlt hi
    unfold pairOK at this
    rw [h1] at this
    simp [dstIs, h2] at this
  rcases Nat.lt_or_gt_of_ne hne with h | h
  · exact key hi hj h h1 h2
  · exact key hj hi h h2 h1
/-- a quiet operation writes no slot that another one reads, but of one that stands behind it -/
theorem reads_apart {ops : Array Oper} (hok : drawOK ops = true) {q k : Nat} {oq ok : Oper} (hq : ops[q]? = some oq) (hk : ops[k]? = some ok) (hquiet : isE oq = false) (hnp : bitAt ((preds ops).getD k 0) q = false)
    {d : Nat} (h1 : oq.dst = some d) : ¬ reads ops ok d := by
  intro hr
  rcases hr with hr | hr
  · have hu := usesTmp_mem hr
    rcases Nat.lt_trichotomy q k with h | h | h
    · have := (drawOK_row hok hk).pair q oq h hq
      unfold pairOK at this
      rw [h1] at this
      dsimp only at this
      rw [hu, hnp] at this
      simp at this
    · subst h
      rw [hq] at hk; cases hk
      have := (drawOK_row hok hq).self
      unfold selfOK at this
      rw [h1] at this
      simp [hu] at this
    · have := (drawOK_row hok hq).pair k ok h hk
      unfold pairOK at this
      rw [h1] at this
      simp [hu, hquiet] at this
  · unfold guardSlot at hr
    split at hr
    · rename_i j b hg
      have hgo := (drawOK_row hok hk).guard
      unfold guardOK at hgo
      rw [hg] at hgo
      dsimp only at hgo
      cases hj : ops.toList[j]? with
      | none => rw [hj] at hr; cases hr
      | some oj =>
        rw [hj] at hr
        have hj' : ops[j]? = some oj := by simpa using hj
        by_cases e : j = q
        · subst e; rw [hnp] at hgo; cases hgo
        · exact dst_apart hok hj' hq e hr h1
    · cases hr
/-- what was reckoned of a quiet operation holds still -/
def Valid (C : Ctx) (F : Facts) (h : Heap) (ops : Array Oper) (tm : PT AV) (_ : Nat) (o : Oper) : Prop :=
  ∃ tm0 v, quietA C F h tm0 ops o = .ok v ∧ (∀ t, reads ops o t → tm0.get t = tm.get t) ∧ ∀ d, o.dst = some d → tm.get d = some v
theorem AV_beq {a b : AV} (h : AV.beq a b = true) : a = b := AV.beq_eq h
theorem recheck_ok {ops : Array Oper} {tm : PT AV} : ∀ {pend : List Nat} {u : Unit}, recheck C F h ops tm pend = .ok u → ∀ k ∈ pend, ∀ o, ops[k]? = some o → Valid C F h ops tm k o
  | i :: r, u, hr, k, hk, o, ho => by
    simp only [recheck] at hr
    split at hr
    · rename_i oi hoi
      replace hr := Ev.bind_ok hr; obtain ⟨v, hv, hr⟩ := hr
      replace hr := bif_ok hr; obtain ⟨hone, hr⟩ := hr
      rcases List.mem_cons.1 hk with rfl | hk
      · have : oi = o := by
          have h1 : ops[k]? = some oi := by simpa using hoi
          rw [ho] at h1; cases h1; rfl
        subst this
        refine ⟨tm, v, hv, fun _ _ => rfl, fun d hd => ?_⟩
        unfold recheckOne at hone
        rw [hd] at hone
        dsimp only at hone
        split at hone
        · rename_i x hx; rw [hx, AV_beq hone]
        · cases hone
      · exact recheck_ok hr k hk o ho
    · cases hr
structure SatR (C : Ctx) (F : Facts) (h : Heap) (ops : Array Oper) (n : Nat) (s : Sat) : Prop where
  low : ∀ i, bitAt s.mask i = true → i < ops.size
  pd : ∀ i ∈ s.pend, ∃ o, ops[i]? = some o ∧ isE o = false ∧ bitAt s.mask i = true ∧ hasAll s.mask ((preds ops).getD i 0) = true ∧ dstLt n o.dst = true ∧ Valid C F h ops s.tm i o
structure SatD (ops : Array Oper) (s s' : Sat) : Prop where
  mono : ∀ k, bitAt s.mask k = true → bitAt s'.mask k = true
  eff : ∀ k o, ops[k]? = some o → isE o = true → bitAt s'.mask k = bitAt s.mask k
  tm : ∀ t a, s'.tm.get t = some a → (∃ i o, bitAt s.mask i = false ∧ bitAt s'.mask i = true ∧ ops[i]? = some o ∧ o.dst = some t) ∨ s.tm.get t = some a
  pend : ∀ i ∈ s.pend, i ∈ s'.pend
  new : ∀ i, bitAt s.mask i = false → bitAt s'.mask i = true → i ∈ s'.pend
theorem hasAll_mono {a b p : Nat} (h : ∀ k, bitAt a k = true → bitAt b k = true) (hp : hasAll a p = true) : hasAll b p = true := hasAll_of fun i hi => h i (hasAll_bit hp hi)
theorem satOne_ok {ops : Array Oper} (hok : drawOK ops = true) {n i : Nat} {o : Oper} {s s' : Sat} (ho : ops[i]? = some o) (hq : isE o = false) (hb : bitAt s.mask i = false) (hp : hasAll s.mask ((preds ops).getD i 0) = true) (hs : SatR C F h ops n s)
    (hv : satOne C F h ops n i o s = .ok s') : SatR C F h ops n s' ∧ SatD ops s s' ∧ s'.mask = withBit s.mask i := by
  unfold satOne at hv
  replace hv := Ev.bind_ok hv; obtain ⟨v, hqv, hv⟩ := hv
  replace hv := bif_ok hv; obtain ⟨hlt, hv⟩ := hv
  cases hv
  have hset : ∀ d, o.dst = some d → setDst n s.tm o.dst v = s.tm.set d v := by
    intro d hd
    unfold dstLt at hlt
    rw [hd] at hlt ⊢
    dsimp only at hlt
    simp only [setDst]
    rw [hlt]; rfl
  have hnone : o.dst = none → setDst n s.tm o.dst v = s.tm := by intro hd; rw [hd]; rfl
  have hget : ∀ t, o.dst ≠ some t → (setDst n s.tm o.dst v).get t = s.tm.get t := by
    intro t ht
    cases hd : o.dst with
    | none => rw [← hd, hnone hd]
    | some d =>
      rw [← hd, hset d hd, PT.get_set, if_neg]
      intro e; subst e; exact ht hd
  have hown : ∀ d, o.dst = some d → (setDst n s.tm o.dst v).get d = some v := by
    intro d hd
    rw [hset d hd, PT.get_set, if_pos rfl]
  have hmono : ∀ k, bitAt s.mask k = true → bitAt (withBit s.mask i) k = true := fun k hk => by rw [bit_with, hk]; rfl
  have hnself : bitAt ((preds ops).getD i 0) i = false := by
    cases hbi : bitAt ((preds ops).getD i 0) i
    · rfl
    · exact absurd (preds_lt hok i ho i hbi) (Nat.lt_irrefl _)
  refine ⟨⟨fun k hk => ?_, fun k hk => ?_⟩, ⟨hmono, fun k ok hk he => ?_, fun t a ha => ?_, fun k hk => List.mem_cons_of_mem _ hk, fun k h1 h2 => ?_⟩, rfl⟩
  · rw [bit_with] at hk
    simp only [Bool.or_eq_true, decide_eq_true_eq] at hk
    rcases hk with hk | rfl
    · exact hs.low k hk
    · exact size_of ho
  · rcases List.mem_cons.1 hk with rfl | hk
    · refine ⟨o, ho, hq, by rw [bit_with]; simp, hasAll_mono hmono hp, hlt, s.tm, v, hqv, fun t ht => ?_, hown⟩
      refine (hget t fun hd => ?_).symm
      exact reads_apart hok ho ho hq hnself hd ht
    · obtain ⟨ok, h1, h2, h3, h4, h8, tm0, v0, h5, h6, h7⟩ := hs.pd k hk
      have hne : i ≠ k := fun e => by subst e; rw [hb] at h3; cases h3
      have hnp : bitAt ((preds ops).getD k 0) i = false := by
        cases hbi : bitAt ((preds ops).getD k 0) i
        · rfl
        · have := hasAll_bit h4 hbi; rw [hb] at this; cases this
      refine ⟨ok, h1, h2, hmono k h3, hasAll_mono hmono h4, h8, tm0, v0, h5, fun t ht => ?_, fun d hd => ?_⟩
      · rw [h6 t ht, hget t fun hd => reads_apart hok ho h1 hq hnp hd ht]
      · rw [hget d fun hd' => dst_apart hok ho h1 hne hd' hd]; exact h7 d hd
  · show bitAt (withBit s.mask i) k = _
    rw [bit_with]
    have : k ≠ i := fun e => by subst e; rw [ho] at hk; cases hk; rw [hq] at he; cases he
    simp [this]
  · have ha : (setDst n s.tm o.dst v).get t = some a := ha
    by_cases hd : o.dst = some t
    · exact .inl ⟨i, o, hb, by show bitAt (withBit s.mask i) i = true; rw [bit_with]; simp, ho, hd⟩
    · rw [hget t hd] at ha; exact .inr ha
  · have h2 : bitAt (withBit s.mask i) k = true := h2
    rw [bit_with, h1] at h2
    simp at h2
    subst h2; exact List.mem_cons_self
theorem SatD.trans {ops : Array Oper} {a b c : Sat} (x : SatD ops a b) (y : SatD ops b c) : SatD ops a c := by
  refine ⟨fun k hk => y.mono k (x.mono k hk), fun k o hk he => (y.eff k o hk he).trans (x.eff k o hk he), fun t v hv => ?_, fun i hi => y.pend i (x.pend i hi), fun i h1 h2 => ?_⟩
  · rcases y.tm t v hv with ⟨i, o, h1, h2, h3, h4⟩ | h
    · refine .inl ⟨i, o, ?_, h2, h3, h4⟩
      cases hb : bitAt a.mask i
      · rfl
      · rw [x.mono i hb] at h1; cases h1
    · rcases x.tm t v h with ⟨i, o, h1, h2, h3, h4⟩ | h
      · exact .inl ⟨i, o, h1, y.mono i h2, h3, h4⟩
      · exact .inr h
  · cases hb : bitAt b.mask i
    · exact y.new i hb h2
    · exact y.pend i (x.new i h1 hb)
theorem SatD.refl (ops : Array Oper) (s : Sat) : SatD ops s s := ⟨fun _ h => h, fun _ _ _ _ => rfl, fun _ _ h => .inr h, fun _ h => h, fun i h1 h2 => by rw [h1] at h2; cases h2⟩
/-- all that is ready and quiet is reckoned -/
def Full (ops : Array Oper) (mask : Nat) : Prop := ∀ k o, ops[k]? = some o → isE o = false → hasAll mask ((preds ops).getD k 0) = true → bitAt mask k = true
theorem saturate_ok {ops : Array Oper} (hok : drawOK ops = true) {n : Nat} : ∀ (L : List Oper) (i : Nat) (s s' : Sat), L = ops.toList.drop i → SatR C F h ops n s → saturate C F h ops (preds ops) n L i s = .ok s' →
    SatR C F h ops n s' ∧ SatD ops s s' ∧ (∀ k, k < i → bitAt s'.mask k = bitAt s.mask k) ∧ ∀ k o, i ≤ k → ops[k]? = some o → isE o = false → hasAll s'.mask ((preds ops).getD k 0) = true → bitAt s'.mask k = true
  | [], i, s, s', hL, hs, hv => by
    simp only [saturate] at hv; cases hv
    refine ⟨hs, SatD.refl _ _, fun _ _ => rfl, fun k o hk ho => ?_⟩
    have := congrArg List.length hL
    simp at this
    have := size_of ho
    omega
  | o :: L, i, s, s', hL, hs, hv => by
    have hoi : ops[i]? = some o := by
      have : (ops.toList.drop i)[0]? = some o := by rw [← hL]; rfl
      rw [List.getElem?_drop] at this; simpa using this
    have hL' : L = ops.toList.drop (Nat.succ i) := by
      have : (ops.toList.drop i).drop 1 = L := by rw [← hL]; rfl
      rw [List.drop_drop] at this; rw [← this]
    simp only [saturate] at hv
    cases hc : (isE o || bitAt s.mask i || !hasAll s.mask ((preds ops).getD i 0))
    · rw [hc] at hv
      simp only [cond_false] at hv
      simp only [Bool.or_eq_false_iff, Bool.not_eq_false'] at hc
      obtain ⟨⟨hq, hb⟩, hp⟩ := hc
      replace hv := Ev.bind_ok hv; obtain ⟨s1, h1, hv⟩ := hv
      obtain ⟨a1, a2, a3⟩ := satOne_ok hok hoi hq hb hp hs h1
      obtain ⟨b1, b2, b3, b4⟩ := saturate_ok hok L (Nat.succ i) s1 s' hL' a1 hv
      refine ⟨b1, a2.trans b2, fun k hk => ?_, fun k o' hk ho' he hp' => ?_⟩
      · rw [b3 k (by omega), a3, bit_with]
        have : k ≠ i := by omega
        simp [this]
      · by_cases e : k = i
        · subst e
          rw [b3 k (Nat.lt_succ_self k), a3, bit_with]; simp
        · exact b4 k o' (by omega) ho' he hp'
    · rw [hc] at hv
      simp only [_root_.cond_true] at hv
      obtain ⟨b1, b2, b3, b4⟩ := saturate_ok hok L (Nat.succ i) s s' hL' hs hv
      refine ⟨b1, b2, fun k hk => b3 k (by omega), fun k o' hk ho' he hp' => ?_⟩
      by_cases e : k = i
      · subst e
        rw [hoi] at ho'; cases ho'
        rw [he] at hc
        simp only [Bool.false_or, Bool.or_eq_true, Bool.not_eq_true'] at hc
        rw [b3 k (Nat.lt_succ_self k)]
        rcases hc with hc | hc
        · exact hc
        · exfalso
          have : hasAll s.mask ((preds ops).getD k 0) = true := hasAll_of fun j hj => by
            rw [← b3 j (Nat.lt_succ_of_lt (preds_lt hok k hoi j hj))]
            exact hasAll_bit hp' hj
          rw [this] at hc; cases hc
      · exact b4 k o' (by omega) ho' he hp'
theorem allBehind_ok {ps : List Nat} {mask i : Nat} : ∀ (L : List Oper) (j0 : Nat), allBehind ps mask i L j0 = true → ∀ k o, L[k]? = some o → isE o = true → bitAt mask (j0 + k) = true ∨ bitAt (ps.getD (j0 + k) 0) i = true
  | [], _, _, k, o, hk, _ => by simp at hk
  | o :: L, j0, h, k, o', hk, he => by
    simp only [allBehind, Bool.and_eq_true, Bool.or_eq_true, Bool.not_eq_true'] at h
    cases k with
    | zero =>
      simp at hk; subst hk
      rw [Nat.add_zero]
      rcases h.1 with (h1 | h1) | h1
      · rw [he] at h1; cases h1
      · exact .inl h1
      · exact .inr h1
    | succ k =>
      simp at hk
      have := allBehind_ok L (Nat.succ j0) h.2 k o' hk he
      rwa [show Nat.succ j0 + k = j0 + (k + 1) by omega] at this
theorem nextE_none {ps : List Nat} {mask : Nat} : ∀ (L : List Oper) (j0 : Nat), nextE ps mask L j0 = some none → ∀ k o, L[k]? = some o → isE o = true → bitAt mask (j0 + k) = true
  | [], _, _, k, o, hk, _ => by simp at hk
  | o :: L, j0, h, k, o', hk, he => by
    simp only [nextE] at h
    cases hc : (!isE o || bitAt mask j0)
    · rw [hc] at h
      simp only [cond_false] at h
      cases hd : (hasAll mask (ps.getD j0 0) && allBehind ps mask j0 L (Nat.succ j0)) <;> rw [hd] at h <;> cases h
    · rw [hc] at h
      simp only [_root_.cond_true] at h
      cases k with
      | zero =>
        simp at hk; subst hk
        rw [he] at hc; simpa using hc
      | succ k =>
        simp at hk
        have := nextE_none L (Nat.succ j0) h k o' hk he
        rwa [show Nat.succ j0 + k = j0 + (k + 1) by omega] at this
theorem nextE_some {ps : List Nat} {mask i : Nat} {o : Oper} : ∀ (L : List Oper) (j0 : Nat), nextE ps mask L j0 = some (some (i, o)) → ∃ n, i = j0 + n ∧ L[n]? = some o ∧ isE o = true ∧ bitAt mask i = false ∧ hasAll mask (ps.getD i 0) = true ∧
    ∀ k o', L[k]? = some o' → isE o' = true → bitAt mask (j0 + k) = false → j0 + k ≠ i → bitAt (ps.getD (j0 + k) 0) i = true
  | [], _, h => by simp [nextE] at h
  | o' :: L, j0, h => by
    simp only [nextE] at h
    cases hc : (!isE o' || bitAt mask j0)
    · rw [hc] at h
      simp only [cond_false] at h
      cases hd : (hasAll mask (ps.getD j0 0) && allBehind ps mask j0 L (Nat.succ j0))
      · rw [hd] at h; cases h
      · rw [hd] at h
        simp only [_root_.cond_true, Option.some.injEq, Prod.mk.injEq] at h
        obtain ⟨rfl, rfl⟩ := h
        simp only [Bool.or_eq_false_iff, Bool.not_eq_false'] at hc
        simp only [Bool.and_eq_true] at hd
        refine ⟨0, rfl, rfl, hc.1, hc.2, hd.1, fun k ok hk he hb hne => ?_⟩
        cases k with
        | zero => exact absurd rfl hne
        | succ k =>
          simp at hk
          have := allBehind_ok L (Nat.succ j0) hd.2 k ok hk he
          rw [show Nat.succ j0 + k = j0 + (k + 1) by omega] at this
          rcases this with h1 | h1
          · rw [hb] at h1; cases h1
          · exact h1
    · rw [hc] at h
      simp only [_root_.cond_true] at h
      obtain ⟨n, h1, h2, h3, h4, h5, h6⟩ := nextE_some L (Nat.succ j0) h
      refine ⟨n + 1, by omega, by simpa using h2, h3, h4, h5, fun k ok hk he hb hne => ?_⟩
      cases k with
      | zero =>
        simp at hk; subst hk
        rw [he] at hc
        rw [Nat.add_zero] at hb
        simp [hb] at hc
      | succ k =>
        simp at hk
        have := h6 k ok hk he (by rwa [show Nat.succ j0 + k = j0 + (k + 1) by omega]) (by omega)
        rwa [show Nat.succ j0 + k = j0 + (k + 1) by omega] at this
end
end Go.Sx
namespace Go.Sx
/-! one step of the lone machine, of a frame that runs -/
section
variable {P : Program} {c : Frame} {cs : List Frame} {w w' : World} {k : List Item}
theorem stepG_oper {ops : Array Oper} {i : Nat} {rest : List Nat} {o : Oper} (hm : c.mode = .run) (ht : c.todo = .inRegion ops (i :: rest) :: k) (ho : ops[i]? = some o) (hw : Region.wanted o (yielded ops c.tmps) = true)
    (hd : ∀ cl, o.op = .defer cl → c.roundOf = none) :
    stepG P true { frame := c, callers := cs, status := .running, dying := none } w = stepG.apply P true c cs none (execOp c.eval o) w := by
  obtain ⟨fn, tmps, todo, defers, mode, kind, round⟩ := c
  simp only at hm ht hw hd
  subst hm ht
  have hop : (stepG.oper P true { fn, tmps, todo := .inRegion ops (i :: rest) :: k, defers, mode := .run, kind, roundOf := round } cs none w) = stepG.apply P true { fn, tmps, todo := .inRegion ops (i :: rest) :: k, defers, mode := .run, kind, roundOf := round } cs none (execOp (Frame.eval { fn, tmps, todo := .inRegion ops (i :: rest) :: k, defers, mode := .run, kind, roundOf := round }) o) w := by
    simp only [stepG.oper, Frame.oper?, ho]
    cases round with
    | none => rfl
    | some l =>
      split
      · rename_i h1 h2; exact absurd (hd _ h2) (by simp)
      · rfl
  simp only [stepG, stepG.exec, ho, Option.map_some, Option.getD_some, hw, if_true]
  exact hop
/-- a slot is laid -/
def setC (x : Array Value) (d : Option Nat) (z : Value) : Array Value := match d with | some d => x.setIfInBounds d z | none => x
theorem setC_size (x : Array Value) (d : Option Nat) (z : Value) : (setC x d z).size = x.size := by cases d <;> simp [setC]
theorem setC_get {x : Array Value} {d : Option Nat} {z : Value} {t : Nat} : (setC x d z)[t]? = if d = some t ∧ t < x.size then some z else x[t]? := by
  cases d with
  | none => simp [setC]
  | some d =>
    by_cases e : d = t
    · subst e
      by_cases hlt : d < x.size
      · simp [setC, hlt]
      · simp [setC, hlt, Array.setIfInBounds]
    · simp [setC, Array.getElem?_setIfInBounds_ne e, e]
theorem finish_reg {ops : Array Oper} {i : Nat} {rest : List Nat} {o : Oper} (ht : c.todo = .inRegion ops (i :: rest) :: k) (ho : ops[i]? = some o) (v : Value) :
    c.finish v = { c with tmps := setC c.tmps o.dst v, todo := .inRegion ops rest :: k } := by
  simp only [Frame.finish, ht, ho, Option.bind_some]
  cases o.dst <;> rfl
theorem step_value {ops : Array Oper} {i : Nat} {rest : List Nat} {o : Oper} (hm : c.mode = .run) (ht : c.todo = .inRegion ops (i :: rest) :: k) (ho : ops[i]? = some o) (hw : Region.wanted o (yielded ops c.tmps) = true)
    (hd : ∀ cl, o.op = .defer cl → c.roundOf = none) {n : Next} {z : Value} (hr : (execOp c.eval o).run P w = .ok n w') (hn : n = .value z ∨ (n = .skip ∧ z = undef)) :
    step P (lone c cs w) = .next (lone (c.finish z) cs w') := by
  have hg := stepG_oper (P := P) (cs := cs) (w := w) hm ht ho hw hd
  refine step_lone_go ?_
  rw [hg]
  rcases hn with rfl | ⟨rfl, rfl⟩ <;> simp [stepG.apply, hr]
theorem step_unwanted {ops : Array Oper} {i : Nat} {rest : List Nat} {o : Oper} (hm : c.mode = .run) (ht : c.todo = .inRegion ops (i :: rest) :: k) (ho : ops[i]? = some o) (hw : Region.wanted o (yielded ops c.tmps) = false) :
    step P (lone c cs w) = .next (lone (c.finish undef) cs w) := by
  refine step_lone_go ?_
  obtain ⟨fn, tmps, todo, defers, mode, kind, round⟩ := c
  simp only at hm ht hw
  subst hm ht
  simp [stepG, stepG.exec, ho, hw]
theorem step_enter {ops : Array Oper} {i : Nat} {rest : List Nat} {o : Oper} (hm : c.mode = .run) (ht : c.todo = .inRegion ops (i :: rest) :: k) (ho : ops[i]? = some o) (hw : Region.wanted o (yielded ops c.tmps) = true)
    (hd : ∀ cl, o.op = .defer cl → c.roundOf = none) {f : FuncId} {args : Array Value} (hr : (execOp c.eval o).run P w = .ok (.enter f args) w') :
    step P (lone c cs w) = .next (lone (Frame.enter P f args .normal) (c :: cs) w') := by
  have hg := stepG_oper (P := P) (cs := cs) (w := w) hm ht ho hw hd
  refine step_lone_go ?_
  rw [hg]
  simp [stepG.apply, hr, ht]
theorem step_round {ops : Array Oper} {i : Nat} {rest : List Nat} {o : Oper} (hm : c.mode = .run) (ht : c.todo = .inRegion ops (i :: rest) :: k) (ho : ops[i]? = some o) (hw : Region.wanted o (yielded ops c.tmps) = true)
    (hd : ∀ cl, o.op = .defer cl → c.roundOf = none) {l : Nat} {f : FuncId} {tmps : Array Value} {a b : Code} (hr : (execOp c.eval o).run P w = .ok (.round l f tmps a b) w') :
    step P (lone c cs w) = .next (lone (Frame.round l f tmps a b .normal) (c :: cs) w') := by
  have hg := stepG_oper (P := P) (cs := cs) (w := w) hm ht ho hw hd
  refine step_lone_go ?_
  rw [hg]
  simp [stepG.apply, hr]
theorem step_defer {ops : Array Oper} {i : Nat} {rest : List Nat} {o : Oper} (hm : c.mode = .run) (ht : c.todo = .inRegion ops (i :: rest) :: k) (ho : ops[i]? = some o) (hw : Region.wanted o (yielded ops c.tmps) = true)
    (hd : c.roundOf = none) {d : Deferred} (hr : (execOp c.eval o).run P w = .ok (.defer d) w') :
    step P (lone c cs w) = .next (lone (({ c with defers := d :: c.defers } : Frame).finish undef) cs w') := by
  have hg := stepG_oper (P := P) (cs := cs) (w := w) hm ht ho hw (fun _ _ => hd)
  refine step_lone_go ?_
  rw [hg]
  simp [stepG.apply, hr]
theorem step_panic {ops : Array Oper} {i : Nat} {rest : List Nat} {o : Oper} (hm : c.mode = .run) (ht : c.todo = .inRegion ops (i :: rest) :: k) (ho : ops[i]? = some o) (hw : Region.wanted o (yielded ops c.tmps) = true)
    (hd : ∀ cl, o.op = .defer cl → c.roundOf = none) {v : Value} (hr : (execOp c.eval o).run P w = .halt (.panic v) w') :
    step P (lone c cs w) = .next (lone (c.raise [{ v, recovered := false }]) cs w') := by
  have hg := stepG_oper (P := P) (cs := cs) (w := w) hm ht ho hw hd
  refine step_lone_go ?_
  rw [hg]
  simp [stepG.apply, hr]
theorem step_recover {ops : Array Oper} {i : Nat} {rest : List Nat} {o : Oper} (hm : c.mode = .run) (ht : c.todo = .inRegion ops (i :: rest) :: k) (ho : ops[i]? = some o) (hw : Region.wanted o (yielded ops c.tmps) = true)
    (hd : ∀ cl, o.op = .defer cl → c.roundOf = none) (hro : c.roundOf = none) (hr : (execOp c.eval o).run P w = .ok .recover w') :
    step P (lone c cs w) = .next (match tryRecover c cs with | some (v, cs') => lone (c.finish v) cs' w' | none => lone (c.finish .nilIface) cs w') := by
  have hg := stepG_oper (P := P) (cs := cs) (w := w) hm ht ho hw hd
  cases hrec : tryRecover c cs with
  | none =>
    refine step_lone_go ?_
    rw [hg]
    simp [stepG.apply, hr, hro, hrec]
  | some x =>
    obtain ⟨v, cs'⟩ := x
    refine step_lone_go ?_
    rw [hg]
    simp [stepG.apply, hr, hro, hrec]
end
section
variable {C : Ctx} {P : Program} {ρ : Env} (hC : CtxOK C P ρ) {φ : Pl} {F : Facts} (hF : F.ok ρ) {h : Heap} {w : World} (hw : WR ρ φ h w)
include hF in
theorem wantedA_ok {ops : Array Oper} {o : Oper} {tm : PT AV} {x : Array Value} {b : Bool} (hr : ∀ t a, guardSlot ops o = some t → tm.get t = some a → ∃ y, x[t]? = some y ∧ VR ρ φ a y) (hv : wantedA F ops tm o = .ok b) :
    Region.wanted o (yielded ops x) = b := by
  unfold wantedA at hv
  unfold Region.wanted
  split at hv
  · rename_i hg; cases hv; rw [hg]
  · rename_i j want hg
    replace hv := Ev.bind_ok hv; obtain ⟨y, hy, hv⟩ := hv
    have hgs : guardSlot ops o = (ops.toList[j]?).bind (·.dst) := by unfold guardSlot; rw [hg]
    have hyx : yielded ops x j = match (ops.toList[j]?).bind (·.dst) with | some d => (match x[d]? with | some (.bool b) => some b | _ => none) | none => none := by
      unfold yielded
      rw [Array.getElem?_toList]
      cases (ops[j]?).bind (·.dst) <;> rfl
    rw [hg]
    dsimp only
    rw [hyx]
    unfold yieldedA at hy
    split at hy
    · rename_i d hd
      rw [hd] at hgs
      split at hy
      · rename_i s hs
        cases hy
        dsimp only at hv
        replace hv := Ev.bind_ok hv; obtain ⟨t, ht, hv⟩ := hv
        cases hv
        have htest := test_ok hF ht
        obtain ⟨z, h1, h2⟩ := hr d _ hgs hs
        simp only [VR] at h2; subst h2
        simp only [hd, h1, htest]
        cases t <;> cases want <;> rfl
      · rename_i a ha hnb
        cases hy
        cases hv
        obtain ⟨z, h1, h2⟩ := hr d _ hgs hnb
        simp only [hd, h1]
        cases z with
        | bool b =>
          obtain ⟨s, rfl, _⟩ := VR_bool h2
          exact absurd rfl (ha s)
        | _ => cases want <;> rfl
      · cases hy
    · rename_i hd
      cases hy
      cases hv
      simp only [hd]
      cases want <;> rfl
include hC hF hw in
theorem quietA_ok {ops : Array Oper} {o : Oper} {tm : PT AV} {c : Frame} {v : AV} (hG : Glob φ) (hq : isE o = false) (hr : ∀ t a, reads ops o t → tm.get t = some a → ∃ y, c.tmps[t]? = some y ∧ VR ρ φ a y) (hv : quietA C F h tm ops o = .ok v) :
    (∃ z, Region.wanted o (yielded ops c.tmps) = true ∧ (execOp c.eval o).run P w = .ok (.value z) w ∧ VR ρ φ v z) ∨ (Region.wanted o (yielded ops c.tmps) = false ∧ v = .undef) := by
  unfold quietA at hv
  replace hv := Ev.bind_ok hv; obtain ⟨b, hb, hv⟩ := hv
  have hwant := wantedA_ok hF (fun t a ht ha => hr t a (.inr ht) ha) hb
  cases b
  · cases hv; exact .inr ⟨hwant, rfl⟩
  · simp only [_root_.cond_true] at hv
    replace hv := Ev.bind_ok hv; obtain ⟨r, hrr, hv⟩ := hv
    obtain ⟨v', z, h1, h2, h3⟩ := quietA_op (P := P) hC hF hw hq (evR_of hG (fun t a ht ha => hr t a (.inl ht) ha)) hrr
    subst h1
    cases hv
    exact .inl ⟨z, hwant, h2, h3⟩

theorem linX_pre {ops : Array Oper} {done : List Nat} {i : Nat} {l : List Nat} (hx : LinX ops (done ++ i :: l)) {j : Nat} (hj : bitAt ((preds ops).getD i 0) j = true) : j ∈ done := hx.ord done i l rfl j hj
theorem linX_notin {ops : Array Oper} {done : List Nat} {i : Nat} {l : List Nat} (hx : LinX ops (done ++ i :: l)) : i ∉ done ∧ i ∉ l := by
  have := hx.nodup
  rw [List.nodup_append] at this
  simp only [List.nodup_cons, List.mem_cons] at this
  exact ⟨fun h => this.2.2 i h i (.inl rfl) rfl, this.2.1.1⟩
/-- frames that differ in their slots and in what is to do alone -/
def Same (c c' : Frame) : Prop := c' = { c with tmps := c'.tmps, todo := c'.todo } ∧ c'.tmps.size = c.tmps.size
theorem Same.trans {a b c : Frame} (x : Same a b) (y : Same b c) : Same a c := by
  refine ⟨?_, y.2.trans x.2⟩
  rw [y.1, x.1]
include hC hF hw in
/-- the quiet operations ahead of the next one that acts are carried out -/
theorem catch_up {ops : Array Oper} {s : Sat} {n : Nat} (hs : SatR C F h ops n s) (hfull : Full ops s.mask) (hG : Glob φ) {k' : List Item} {cs : List Frame} : ∀ (q rest : List Nat) (c : Frame), c.mode = .run → c.todo = .inRegion ops (q ++ rest) :: k' →
    (∀ i ∈ q, ∀ o, ops[i]? = some o → isE o = false) → DrawR ρ φ ops s.mask s.pend s.tm c.tmps (q ++ rest) →
    ∃ c', Steps P (lone c cs w) (lone c' cs w) ∧ c'.todo = .inRegion ops rest :: k' ∧ DrawR ρ φ ops s.mask s.pend s.tm c'.tmps rest ∧ Same c c'
  | [], rest, c, hm, ht, hq, hd => ⟨c, Steps.refl _ _, ht, hd, rfl, rfl⟩
  | i :: q, rest, c, hm, ht, hq, hd => by
    obtain ⟨done, hx, heff, hdn⟩ := hd.ext
    have hok := hd.ok
    have hi : i < ops.size := (hx.mem i).1 (by simp)
    have ho : ops[i]? = some ops[i] := Array.getElem?_eq_getElem hi
    generalize ops[i] = o at ho
    have hqi := hq i List.mem_cons_self o ho
    have hpm : hasAll s.mask ((preds ops).getD i 0) = true := hasAll_of fun j hj => hdn j (linX_pre hx hj)
    have hbit := hfull i o ho hqi hpm
    have hin := hd.pn i (by simp) hbit
    obtain ⟨o', ho', _, _, _, _, tm0, v, hv, hrd, hdst⟩ := hs.pd i hin
    rw [ho] at ho'; cases ho'
    have hnot := linX_notin hx
    -- what it reads is there
    have hreads : ∀ t a, reads ops o t → tm0.get t = some a → ∃ y, c.tmps[t]? = some y ∧ VR ρ φ a y := by
      intro t a htr ha
      rw [hrd t htr] at ha
      rcases hd.tm t a ha with ⟨j, oj, hj, hjb, hoj, hjd⟩ | h
      · exfalso
        have hjq : isE oj = false := by
          obtain ⟨oj', h1, h2, _⟩ := hd.pd j (hd.pn j hj hjb)
          rw [hoj] at h1; cases h1; exact h2
        have hnp : bitAt ((preds ops).getD i 0) j = false := by
          cases hb : bitAt ((preds ops).getD i 0) j
          · rfl
          · have h1 := linX_pre hx hb
            have hnd := hx.nodup
            rw [List.nodup_append] at hnd
            exact absurd rfl (hnd.2.2 j h1 j hj)
        exact reads_apart hok hoj ho hjq hnp hjd htr
      · exact h
    have hstep : ∃ z, step P (lone c cs w) = .next (lone (c.finish z) cs w) ∧ VR ρ φ v z := by
      rcases quietA_ok (P := P) hC hF hw hG hqi hreads hv with ⟨z, h1, h2, h3⟩ | ⟨h1, h2⟩
      · exact ⟨z, step_value hm ht ho h1 (fun cl hcl => by rw [isE, hcl] at hqi; cases hqi) h2 (.inl rfl), h3⟩
      · exact ⟨undef, step_unwanted hm ht ho h1, by rw [h2]; simp only [AV.undef, VR]; exact ⟨[], rfl, VRs.nil⟩⟩
    obtain ⟨z, hst, hz⟩ := hstep
    have hfin := finish_reg (k := k') (rest := q ++ rest) ht ho z
    have htm : ∀ t, (c.finish z).tmps[t]? = if o.dst = some t ∧ t < c.tmps.size then some z else c.tmps[t]? := by
      intro t
      rw [hfin]; exact setC_get
    have hsz : (c.finish z).tmps.size = c.tmps.size := by rw [hfin]; exact setC_size _ _ _
    have hd' : DrawR ρ φ ops s.mask s.pend s.tm (c.finish z).tmps (q ++ rest) := by
      refine ⟨hok, ⟨done ++ [i], by simpa using hx, fun j oj hoj he => ?_, fun j hj => ?_⟩, hd.low, fun t a ha => ?_, fun j hj hb => hd.pn j (by simp at hj ⊢; rcases hj with hj | hj <;> simp [hj]) hb, by rw [hsz]; exact hd.pd⟩
      · rw [heff j oj hoj he]
        constructor
        · intro h; simp [h]
        · intro h
          rcases List.mem_append.1 h with h | h
          · exact h
          · have : j = i := by simpa using h
            subst this
            rw [ho] at hoj; cases hoj; rw [hqi] at he; cases he
      · rcases List.mem_append.1 hj with hj | hj
        · exact hdn j hj
        · have : j = i := by simpa using hj
          subst this; exact hbit
      · rcases hd.tm t a ha with ⟨j, oj, hj, hjb, hoj, hjd⟩ | ⟨y, hy, hyv⟩
        · rcases List.mem_cons.1 (show j ∈ i :: (q ++ rest) from hj) with rfl | hj
          · rw [ho] at hoj; cases hoj
            right
            obtain ⟨o2, ho2, _, _, _, hlt⟩ := hd.pd j hin
            rw [ho] at ho2; cases ho2
            unfold dstLt at hlt
            rw [hjd] at hlt
            have hlt : t < c.tmps.size := by simpa using hlt
            have hsome := hdst t hjd
            rw [ha] at hsome; cases hsome
            exact ⟨z, by rw [htm t, if_pos ⟨hjd, hlt⟩], hz⟩
          · exact .inl ⟨j, oj, hj, hjb, hoj, hjd⟩
        · right
          rw [htm t]
          by_cases e : o.dst = some t
          · have hsome := hdst t e
            rw [ha] at hsome; cases hsome
            have hlt : t < c.tmps.size := by
              rcases Nat.lt_or_ge t c.tmps.size with h | h
              · exact h
              · rw [Array.getElem?_eq_none h] at hy; cases hy
            exact ⟨z, by rw [if_pos ⟨e, hlt⟩], hz⟩
          · exact ⟨y, by rw [if_neg (fun h => e h.1)]; exact hy, hyv⟩
    obtain ⟨c', h1, h2, h3, h4⟩ := catch_up hs hfull hG q rest (c.finish z) (by rw [hfin]; exact hm) (by rw [hfin]) (fun j hj => hq j (List.mem_cons_of_mem _ hj)) hd'
    refine ⟨c', Steps.head hst h1, h2, h3, Same.trans ?_ h4⟩
    refine ⟨?_, ?_⟩
    · rw [hfin]
    · exact hsz
end
end Go.Sx
namespace Go.Sx
section
variable {C : Ctx} {P : Program} {ρ : Env} (hC : CtxOK C P ρ) {φ : Pl} {F : Facts} (hF : F.ok ρ) {h : Heap} {w : World} (hw : WR ρ φ h w)
theorem next_head {ops : Array Oper} {mask : Nat} {pend : List Nat} {tm : PT AV} {x : Array Value} {l : List Nat} (hd : DrawR ρ φ ops mask pend tm x l) {i : Nat} {o : Oper} (hn : nextE (preds ops) mask ops.toList 0 = some (some (i, o))) :
    ops[i]? = some o ∧ isE o = true ∧ bitAt mask i = false ∧ ∃ q rest, l = q ++ i :: rest ∧ ∀ j ∈ q, ∀ oj, ops[j]? = some oj → isE oj = false := by
  obtain ⟨n, h1, h2, h3, h4, h5, h6⟩ := nextE_some ops.toList 0 hn
  rw [Nat.zero_add] at h1; subst h1
  have ho : ops[i]? = some o := by simpa using h2
  obtain ⟨done, hx, heff, hdn⟩ := hd.ext
  have hil : i ∈ l := by
    have : i ∈ done ++ l := (hx.mem i).2 (size_of ho)
    rcases List.mem_append.1 this with h | h
    · have := hdn i h; rw [h4] at this; cases this
    · exact h
  refine ⟨ho, h3, h4, ?_⟩
  obtain ⟨q, rest, rfl⟩ := split_mem hil
  refine ⟨q, rest, rfl, fun j hj oj hoj => ?_⟩
  cases he : isE oj
  · rfl
  · exfalso
    have hnd := hx.nodup
    rw [List.nodup_append] at hnd
    have hjn : j ∉ done := fun hjd => hnd.2.2 j hjd j (by simp [hj]) rfl
    have hjb : bitAt mask j = false := by
      cases hb : bitAt mask j
      · rfl
      · exact absurd ((heff j oj hoj he).1 hb) hjn
    have hnd2 := hnd.2.1
    rw [List.nodup_append] at hnd2
    have hji : j ≠ i := fun e => hnd2.2.2 j hj i (by simp) e
    have hp := h6 j oj (by simpa using hoj) he (by simpa using hjb) (by simpa using hji)
    rw [Nat.zero_add] at hp
    obtain ⟨q1, q2, rfl⟩ := split_mem hj
    have hin := hx.ord (done ++ q1) j (q2 ++ i :: rest) (by simp) i hp
    rcases List.mem_append.1 hin with h | h
    · exact hnd.2.2 i h i (by simp) rfl
    · exact hnd2.2.2 i (by simp [h]) i (by simp) rfl

/-! a value is laid where it was asked for -/
theorem put_tm {fr : AFr} {d : Option Nat} {v : AV} {todo : List AItem} : (fr.put d v todo).tmps = setDst fr.n fr.tmps d v := by
  obtain ⟨fn, n, tm, td, ds, md, df, rd⟩ := fr
  cases d with
  | none => rfl
  | some d => simp only [AFr.put, setDst]; cases Nat.blt d n <;> rfl
theorem put_rest (fr : AFr) (d : Option Nat) (v : AV) (todo : List AItem) : (fr.put d v todo).fn = fr.fn ∧ (fr.put d v todo).n = fr.n ∧ (fr.put d v todo).todo = todo ∧ (fr.put d v todo).defers = fr.defers ∧ (fr.put d v todo).mode = fr.mode ∧ (fr.put d v todo).deferred = fr.deferred ∧ (fr.put d v todo).round = fr.round := by
  obtain ⟨fn, n, tm, td, ds, md, df, rd⟩ := fr
  cases d with
  | none => exact ⟨rfl, rfl, rfl, rfl, rfl, rfl, rfl⟩
  | some d => simp only [AFr.put]; cases Nat.blt d n <;> exact ⟨rfl, rfl, rfl, rfl, rfl, rfl, rfl⟩
theorem putTm_get {tm : PT AV} {n : Nat} {d : Option Nat} {v : AV} {t : Nat} {a : AV} (h : (setDst n tm d v).get t = some a) : (d = some t ∧ t < n ∧ a = v) ∨ ((d = some t → ¬ t < n) ∧ tm.get t = some a) := by
  cases d with
  | none => exact .inr ⟨(fun h => by cases h), h⟩
  | some d =>
    simp only [setDst] at h
    cases hb : Nat.blt d n
    · rw [hb] at h
      refine .inr ⟨fun e hlt => ?_, h⟩
      cases e
      have : Nat.blt t n = true := by simpa using hlt
      rw [hb] at this; cases this
    · rw [hb] at h
      simp only [_root_.cond_true, PT.get_set] at h
      by_cases e : t = d
      · subst e
        rw [if_pos rfl] at h; cases h
        exact .inl ⟨rfl, by simpa using hb, rfl⟩
      · rw [if_neg e] at h
        exact .inr ⟨(fun e' => by cases e'; exact absurd rfl e), h⟩
theorem tmR_put {tm : PT AV} {x : Array Value} (ht : TmR ρ φ tm x) {d : Option Nat} {v : AV} {z : Value} (hz : VR ρ φ v z) :
    TmR ρ φ (setDst x.size tm d v) (setC x d z) := by
  intro t a ha
  rcases putTm_get ha with ⟨h1, h2, rfl⟩ | ⟨h1, h2⟩
  · exact ⟨z, by rw [setC_get, if_pos ⟨h1, h2⟩], hz⟩
  · obtain ⟨y, h3, h4⟩ := ht t a h2
    exact ⟨y, by rw [setC_get, if_neg (fun h => h1 h.1 h.2)]; exact h3, h4⟩
theorem drawR_put {ops : Array Oper} {mask : Nat} {pend : List Nat} {tm : PT AV} {x : Array Value} {i : Nat} {rest : List Nat} (hd : DrawR ρ φ ops mask pend tm x (i :: rest)) {o : Oper} (ho : ops[i]? = some o) (he : isE o = true) {v : AV} {z : Value} (hz : VR ρ φ v z) :
    DrawR ρ φ ops (withBit mask i) (unsealed (preds ops) i pend) (setDst x.size tm o.dst v) (setC x o.dst z) rest := by
  obtain ⟨done, hx, heff, hdn⟩ := hd.ext
  have hnot := linX_notin hx
  have hmono : ∀ k, bitAt mask k = true → bitAt (withBit mask i) k = true := fun k hk => by rw [bit_with, hk]; rfl
  have hsz := setC_size x o.dst z
  refine ⟨hd.ok, ⟨done ++ [i], by simpa using hx, fun k ok hk hek => ?_, fun k hk => ?_⟩, fun k hk => ?_, fun t a ha => ?_, fun k hk hb => ?_, fun k hk => ?_⟩
  · rw [bit_with]
    simp only [Bool.or_eq_true, decide_eq_true_eq, List.mem_append, List.mem_singleton, heff k ok hk hek]
  · rw [bit_with]
    rcases List.mem_append.1 hk with h | h
    · rw [hdn k h]; rfl
    · simp at h; simp [h]
  · rw [bit_with] at hk
    simp only [Bool.or_eq_true, decide_eq_true_eq] at hk
    rcases hk with hk | rfl
    · exact hd.low k hk
    · exact size_of ho
  · rcases putTm_get ha with ⟨h1, h2, rfl⟩ | ⟨h1, h2⟩
    · exact .inr ⟨z, by rw [setC_get, if_pos ⟨h1, h2⟩], hz⟩
    · rcases hd.tm t a h2 with ⟨j, oj, hj, hjb, hoj, hjd⟩ | ⟨y, h3, h4⟩
      · rcases List.mem_cons.1 hj with rfl | hj
        · exfalso
          rw [ho] at hoj; cases hoj
          have := (heff j o ho he).1 hjb
          exact hnot.1 this
        · exact .inl ⟨j, oj, hj, hmono j hjb, hoj, hjd⟩
      · exact .inr ⟨y, by rw [setC_get, if_neg (fun h => h1 h.1 h.2)]; exact h3, h4⟩
  · rw [bit_with] at hb
    simp only [Bool.or_eq_true, decide_eq_true_eq] at hb
    rcases hb with hb | rfl
    · have := hd.pn k (List.mem_cons_of_mem _ hk) hb
      unfold unsealed
      rw [List.mem_filter]
      refine ⟨this, ?_⟩
      cases hp : bitAt ((preds ops).getD i 0) k
      · rfl
      · have h1 := linX_pre hx hp
        have hnd := hx.nodup
        rw [List.nodup_append] at hnd
        exact absurd rfl (hnd.2.2 k h1 k (List.mem_cons_of_mem _ hk))
    · exact absurd hk hnot.2
  · unfold unsealed at hk
    obtain ⟨ok, h1, h2, h3, h4, h5⟩ := hd.pd k (List.mem_filter.1 hk).1
    exact ⟨ok, h1, h2, hmono k h3, hasAll_mono hmono h4, by rw [hsz]; exact h5⟩
theorem reg_head {ops : Array Oper} {i : Nat} {o : Oper} {rest : List Oper} (h : o :: rest = ops.toList.drop i) : ops[i]? = some o ∧ i < ops.size ∧ rest = ops.toList.drop (Nat.succ i) ∧ List.range' i (ops.size - i) = i :: List.range' (i + 1) (ops.size - (i + 1)) := by
  have h1 : ops[i]? = some o := by
    have : (ops.toList.drop i)[0]? = some o := by rw [← h]; rfl
    rw [List.getElem?_drop] at this; simpa using this
  have h2 := size_of h1
  refine ⟨h1, h2, ?_, ?_⟩
  · have : (ops.toList.drop i).drop 1 = rest := by rw [← h]; rfl
    rw [List.drop_drop] at this; rw [← this]
  · rw [show ops.size - i = (ops.size - (i + 1)) + 1 by omega, List.range'_succ]
theorem frR_put {fr : AFr} {c : Frame} (hfr : FrR ρ φ fr c) (hrun : fr.mode.isRun = true) {d : Option Nat} {v : AV} {z : Value} {todo : List AItem} {todo' : List Item}
    (hb : BodyR ρ φ (setDst fr.n fr.tmps d v) todo (setC c.tmps d z) todo') :
    FrR ρ φ (fr.put d v todo) { c with tmps := (setC c.tmps d z), todo := todo' } := by
  obtain ⟨p1, p2, p3, p4, p5, p6, p7⟩ := put_rest fr d v todo
  refine ⟨by rw [p1]; exact hfr.fn, ?_, by rw [p6]; exact hfr.kind, by rw [p7]; exact hfr.round, by rw [p5]; exact hfr.mode, by rw [p4]; exact hfr.defers, fun _ => ?_, fun e => ?_⟩
  · rw [p2, ← hfr.size]; exact setC_size _ _ _
  · rw [p3, put_tm]; exact hb
  · rw [p5, hrun] at e; cases e
/-- the value arrives -/
theorem finish_ok {fr fr' : AFr} {c : Frame} {v : AV} {z : Value} (hrun : fr.mode.isRun = true) (hfr : FrR ρ φ fr c) (hwt : WaitR fr c) (hz : VR ρ φ v z) (hv : finish fr v = some fr') : FrR ρ φ fr' (c.finish z) := by
  unfold finish at hv
  have hb := hfr.body hrun
  replace hwt := hwt hrun
  split at hv
  · rename_i it k htodo
    rw [htodo] at hb hwt
    split at hv
    · rename_i ops i rest
      split at hv
      · rename_i o rest
        cases hv
        unfold BodyR at hb
        dsimp only at hb
        obtain ⟨hit, htm⟩ := hb
        cases htd : c.todo with
        | nil => rw [htd] at hit; exact hit.elim
        | cons it' k' =>
          rw [htd] at hit
          obtain ⟨⟨h1, h2, h3⟩, h4⟩ := hit
          obtain ⟨g1, g2, g3, g4⟩ := reg_head h1
          rw [g4] at h3
          subst h3
          rw [finish_reg htd g1]
          refine frR_put hfr hrun ?_
          refine ⟨⟨⟨g3, g2, rfl⟩, h4⟩, ?_⟩
          rw [← hfr.size]
          exact tmR_put htm hz
      · cases hv
    · rename_i ops mask pend
      split at hv
      · rename_i i o hn
        cases hv
        obtain ⟨i', o', l, k', hn', htd⟩ := hwt
        rw [hn] at hn'; cases hn'
        unfold BodyR at hb
        dsimp only at hb
        obtain ⟨l2, k2, htd2, hits, hd⟩ := hb
        rw [htd] at htd2
        simp only [List.cons.injEq, Item.inRegion.injEq, true_and] at htd2
        obtain ⟨rfl, rfl⟩ := htd2
        obtain ⟨n1, n2, n3, _⟩ := next_head hd hn
        rw [finish_reg htd n1]
        refine frR_put hfr hrun ?_
        refine ⟨_, _, rfl, hits, ?_⟩
        rw [← hfr.size]
        exact drawR_put hd n1 n2 hz
      · cases hv
    · rename_i l
      cases hv
      unfold BodyR at hb
      dsimp only at hb
      obtain ⟨hit, htm⟩ := hb
      cases htd : c.todo with
      | nil => rw [htd] at hit; exact hit.elim
      | cons it' k' =>
        rw [htd] at hit
        obtain ⟨⟨L, hL, h3⟩, h4⟩ := hit
        subst h3
        have hfin : c.finish z = { c with todo := .endRangeFunc L.blk :: k' } := by simp [Frame.finish, htd]
        rw [hfin]
        obtain ⟨fn, n, tm, td, ds, md, df, rd⟩ := fr
        exact ⟨hfr.fn, hfr.size, hfr.kind, hfr.round, hfr.mode, hfr.defers, fun _ => ⟨⟨⟨L, hL, rfl⟩, h4⟩, htm⟩, fun _ => htm⟩
    · cases hv
  · cases hv
/-- a frame is entered -/
theorem argTmps_get : ∀ (args : List AV) (i : Nat) (t : PT AV) (k : Nat) (a : AV), (argTmps args i t).get k = some a → (i ≤ k ∧ args[k - i]? = some a) ∨ t.get k = some a
  | [], i, t, k, a, h => .inr h
  | b :: l, i, t, k, a, h => by
    simp only [argTmps] at h
    rcases argTmps_get l (Nat.succ i) _ k a h with ⟨h1, h2⟩ | h1
    · left
      refine ⟨by omega, ?_⟩
      rw [show k - i = (k - Nat.succ i) + 1 by omega]; simpa using h2
    · rw [PT.get_set] at h1
      by_cases e : k = i
      · subst e; rw [if_pos rfl] at h1; cases h1
        exact .inl ⟨Nat.le_refl _, by simp⟩
      · rw [if_neg e] at h1; exact .inr h1
include hC in
theorem enter_ok {f : Nat} {args : List AV} {xs : List Value} {b : Bool} {g : AFr} (ha : VRs ρ φ args xs) (hg : enterFr C f args b = some g) :
    FrR ρ φ g (Frame.enter P f ⟨xs⟩ (if b then .deferred else .normal)) := by
  unfold enterFr at hg
  split at hg
  · rename_i fn hfn
    have hP := hC.fn _ _ hfn
    split at hg
    · rename_i c hc
      cases hle : Nat.ble args.length fn.ntmps
      · rw [hle] at hg; cases hg
      · rw [hle] at hg
        cases hg
        rw [Nat.ble_eq] at hle
        have hl := VRs.length ha
        refine ⟨rfl, ?_, rfl, rfl, rfl, trivial, fun _ => ⟨⟨?_, trivial⟩, ?_⟩, fun e => by cases e⟩
        · simp [Frame.enter, hP]; omega
        · show Item.code _ = _
          simp [hP, hc]
        · intro t a hta
          rcases argTmps_get args 0 .nil t a hta with ⟨_, h2⟩ | h2
          · obtain ⟨y, h3, h4⟩ := VRs.get ha _ _ h2
            rw [Nat.sub_zero] at h3
            refine ⟨y, ?_, h4⟩
            simp only [Frame.enter]
            rw [Array.getElem?_append_left]
            · simpa using h3
            · rcases Nat.lt_or_ge t xs.length with h | h
              · simpa using h
              · rw [List.getElem?_eq_none h] at h3; cases h3
          · cases h2
    · cases hg
  · cases hg
end
end Go.Sx
