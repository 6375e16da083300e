import Derived.Test.YtanpkoghglnphaaGreatDoorArgB
namespace Go.Sx
open Go.Proofs
set_option maxRecDepth 100000
def wst (s : List (List UInt8) × Bool × List UInt8) (p : Int × List UInt8) : List (List UInt8) × Bool × List UInt8 :=
  if p.1 = 3 then (if s.2.1 = true then s.1 ++ [s.2.2] else s.1, false, [])
  else if p.1 = 4 then (s.1, true, s.2.2) else if p.2 = [] then s else (s.1, true, s.2.2 ++ quoteL p.2)
def wT (A : List (List UInt8)) : List (Int × List UInt8) := (4, []) :: ark A
def wS (T : List (Int × List UInt8)) (i : Nat) : List (List UInt8) × Bool × List UInt8 := (T.take i).foldl wst ([], false, [])
def wg (T : List (Int × List UInt8)) (i : Nat) : Int × List UInt8 := T.getD i (1, [])
theorem wS_succ {T : List (Int × List UInt8)} {i : Nat} (h : i < T.length) : wS T (i + 1) = wst (wS T i) (wg T i) := by
  unfold wS wg
  rw [List.take_succ_eq_append_getElem h, List.foldl_append]
  simp [List.getD, List.getElem?_eq_getElem h]
theorem fold_len3 : ∀ (l : List (Int × List UInt8)) (s), (l.foldl wst s).1.length ≤ s.1.length + l.countP (fun p => p.1 == 3)
  | [], s => by simp
  | p :: l, s => by
    have ih := fold_len3 l (wst s p)
    rw [List.foldl_cons, List.countP_cons]
    unfold wst at ih ⊢
    by_cases h3 : p.1 = 3
    · simp only [h3, if_pos, beq_self_eq_true] at ih ⊢
      cases hb : s.2.1 <;> simp [hb] at ih ⊢ <;> omega
    · rw [if_neg h3] at ih ⊢
      by_cases h4 : p.1 = 4
      · rw [if_pos h4] at ih ⊢; simp at ih ⊢; omega
      · rw [if_neg h4] at ih ⊢
        by_cases h5 : p.2 = []
        · rw [if_pos h5] at ih ⊢; omega
        · rw [if_neg h5] at ih ⊢; simp at ih ⊢; omega
def wsum (l : List (Int × List UInt8)) : Nat := (l.map fun p => p.2.length).sum
theorem fold_cur : ∀ (l : List (Int × List UInt8)) (s), (l.foldl wst s).2.2.length ≤ s.2.2.length + 2 * wsum l
  | [], s => by simp [wsum]
  | p :: l, s => by
    have ih := fold_cur l (wst s p)
    have hq := quoteL_len p.2
    rw [List.foldl_cons]
    have e : wsum (p :: l) = p.2.length + wsum l := by simp [wsum]
    rw [e]
    unfold wst at ih ⊢
    by_cases h3 : p.1 = 3
    · rw [if_pos h3] at ih ⊢; simp at ih ⊢; omega
    · rw [if_neg h3] at ih ⊢
      by_cases h4 : p.1 = 4
      · rw [if_pos h4] at ih ⊢; simp at ih ⊢; omega
      · rw [if_neg h4] at ih ⊢
        by_cases h5 : p.2 = []
        · rw [if_pos h5] at ih ⊢; omega
        · rw [if_neg h5] at ih ⊢; simp at ih ⊢; omega
theorem wsum_take (l : List (Int × List UInt8)) (i : Nat) : wsum (l.take i) + (wg l i).2.length ≤ wsum l := by
  induction l generalizing i with
  | nil => simp [wsum, wg]
  | cons p l ih =>
    cases i with
    | zero => simp [wsum, wg]
    | succ i =>
      have := ih i
      simp only [wsum, wg, List.take_succ_cons, List.map_cons, List.sum_cons, List.getD_cons_succ] at this ⊢
      omega
theorem wsum_app (a b : List (Int × List UInt8)) : wsum (a ++ b) = wsum a + wsum b := by simp [wsum]
theorem snoc_ind {α : Type} {P : List α → Prop} (h0 : ∀ a, P [a]) (h1 : ∀ l b, l ≠ [] → P l → P (l ++ [b])) : ∀ l, l ≠ [] → P l := by
  intro l
  rw [← List.reverse_reverse l]
  induction l.reverse with
  | nil => intro h; exact absurd rfl h
  | cons b m ih =>
    intro _
    rw [List.reverse_cons]
    by_cases hm : m.reverse = []
    · rw [hm]; exact h0 b
    · exact h1 _ _ hm (ih hm)
theorem wT_all {A : List (List UInt8)} (h : A ≠ []) : wsum (wT A) = A.flatten.length ∧ (wT A).countP (fun p => p.1 == 3) + 1 = A.length ∧ (∀ p ∈ wT A, p.1 = 1 ∨ p.1 = 3 ∨ p.1 = 4) ∧
    (∀ p ∈ wT A, p.1 ≠ 1 → p.2 = []) ∧ ∃ F c, (wT A).foldl wst ([], false, []) = (F, true, c) ∧ F ++ [c] = A.map quoteL := by
  refine snoc_ind (P := fun A => wsum (wT A) = A.flatten.length ∧ (wT A).countP (fun p => p.1 == 3) + 1 = A.length ∧ (∀ p ∈ wT A, p.1 = 1 ∨ p.1 = 3 ∨ p.1 = 4) ∧
    (∀ p ∈ wT A, p.1 ≠ 1 → p.2 = []) ∧ ∃ F c, (wT A).foldl wst ([], false, []) = (F, true, c) ∧ F ++ [c] = A.map quoteL) ?_ ?_ A h
  · intro a
    refine ⟨by simp [wT, ark, wsum], by simp [wT, ark], by simp [wT, ark], by simp [wT, ark], [], quoteL a, ?_, by simp⟩
    by_cases ha : a = []
    · simp [wT, ark, wst, ha, quoteL]
    · simp [wT, ark, wst, ha]
  · intro l b hl ⟨a1, a2, a3, a4, F, c, a5, a6⟩
    have e : wT (l ++ [b]) = wT l ++ [(3, []), (4, []), (1, b)] := by simp [wT, ark_snoc hl]
    rw [e]
    refine ⟨?_, ?_, ?_, ?_, F ++ [c], quoteL b, ?_, ?_⟩
    · rw [wsum_app, a1]; simp [wsum]
    · rw [List.countP_append, List.length_append, ← a2]; simp
    · intro p hp
      rcases List.mem_append.1 hp with hp | hp
      · exact a3 p hp
      · simp at hp; rcases hp with rfl | rfl | rfl <;> simp
    · intro p hp
      rcases List.mem_append.1 hp with hp | hp
      · exact a4 p hp
      · simp at hp; rcases hp with rfl | rfl | rfl <;> simp
    · rw [List.foldl_append, a5]
      by_cases hb : b = []
      · simp [wst, hb, quoteL]
      · simp [wst, hb]
    · rw [a6]; simp
theorem wT_len {A : List (List UInt8)} (h : A ≠ []) : (wT A).length = 3 * A.length := by
  have := ark_len A h
  simp only [wT, List.length_cons]; omega
def wxE (T : List (Int × List UInt8)) (ρ : Env) (i : Nat) : Env :=
  ((((((ρ.setI 0 i).setR 23 (T.map prow)).setS 30 (wg T i).2).setI 31 (wg T i).1).setS 32 (quoteL (wg T i).2)).setR 40 (rows1 (wS T i).1)).setS 31 (wS T i).2.2
def wsh : Nat → List (List UInt8) × Bool × List UInt8 → Prop
  | 1, s => s.1 = [] ∧ s.2.1 = true ∧ s.2.2 = []
  | 2, s => s.1 = [] ∧ s.2.1 = true ∧ s.2.2 ≠ []
  | 3, s => s.1 ≠ [] ∧ s.2.1 = false ∧ s.2.2 = []
  | 4, s => s.1 ≠ [] ∧ s.2.1 = true ∧ s.2.2 = []
  | 5, s => s.1 ≠ [] ∧ s.2.1 = true ∧ s.2.2 ≠ []
  | _, _ => False
def wxI (T : List (Int × List UInt8)) (ρ0 : Env) : Nat → Env → Prop
  | 0, ρ => ρ = ρ0
  | k, ρ => ∃ i : Nat, 1 ≤ i ∧ i ≤ T.length ∧ wsh k (wS T i) ∧ ρ = wxE T ρ0 i
def wxμ (T : List (Int × List UInt8)) : Nat → Env → Nat
  | 0, _ => T.length + 2
  | _, ρ => T.length + 1 - (ρ.int 0).toNat
section
variable {T : List (Int × List UInt8)} {ρ : Env} {i : Nat}
theorem wx_t (h : SB.den (wxE T ρ i) (.cmp .lss (.var 0) (.rlen 23)) = true) : i < T.length := by
  simp [SB.den, SI.den, intCmp, ltInt_iff, wxE, setS_int, setR_int, setI_int, setS_rows, setR_rows, setI_rows] at h
  omega
theorem wx_f (h : SB.den (wxE T ρ i) (.cmp .lss (.var 0) (.rlen 23)) = false) : T.length ≤ i := by
  simp [SB.den, SI.den, intCmp, ltInt_iff, wxE, setS_int, setR_int, setI_int, setS_rows, setR_rows, setI_rows] at h
  omega
theorem wk_t {k : Int} (h : SB.den (wxE T ρ i) (.cmp .eql (.var 31) (.lit k)) = true) : (wg T i).1 = k := by
  simpa [SB.den, SI.den, intCmp, eqInt_iff, wxE, setS_int, setR_int, setI_int] using h
theorem wk_f {k : Int} (h : SB.den (wxE T ρ i) (.cmp .eql (.var 31) (.lit k)) = false) : (wg T i).1 ≠ k := by
  simpa [SB.den, SI.den, intCmp, eqInt_iff, wxE, setS_int, setR_int, setI_int] using h
theorem we_t (h : SB.den (wxE T ρ i) (.cmp .eql (.slen 30) (.lit 0)) = true) : (wg T i).2 = [] := by
  simpa [SB.den, SI.den, intCmp, eqInt_iff, wxE, setS_str, setR_str, setI_str] using h
theorem we_f (h : SB.den (wxE T ρ i) (.cmp .eql (.slen 30) (.lit 0)) = false) : (wg T i).2 ≠ [] := by
  simpa [SB.den, SI.den, intCmp, eqInt_iff, wxE, setS_str, setR_str, setI_str] using h
theorem quoteL_ne {s : List UInt8} (h : s ≠ []) : quoteL s ≠ [] := by
  intro c
  have := quoteL_len s
  rw [c] at this
  exact h (List.eq_nil_of_length_eq_zero (by simpa using this.1))
theorem peek_prow : ∀ (xs : List Value) (x : Int) (y : List UInt8), T[i]? = some (x, y) → prow (x, y) = xs → xs = [vstr (wg T i).2, .int .i64 (wg T i).1] := by
  intro xs x y h1 h2
  rw [← h2]; simp [wg, List.getD, h1, prow, qrow]
theorem row_prow {xs : List Value} (h : (T.map prow)[i]? = some xs) : xs = [vstr (wg T i).2, .int .i64 (wg T i).1] := by
  simp only [List.getElem?_map] at h
  cases ha : T[i]? with
  | none => rw [ha] at h; cases h
  | some a => rw [ha] at h; cases h; simp [wg, List.getD, ha, prow, qrow]
end
noncomputable def o_wa : Orc := { facts := [], f := 28, args := [.ptr 77 0, .ptr 82 0], pre := [(64, .cells true (some (.v 10, 1)) [] 9), (73, .cells false none [.str [.lit [73, 70, 83]], .str [.var 6], .bool (.lit false), .bool (.lit false)] 61), (76, .cells false none [.str [.lit [34, 36, 64, 34]]] 9), (77, .cells false none [.slice 76 0 (.lit 1) (.known 1)] 22), (81, .cells false none [.slice 73 0 (.lit 1) (.rest 4), .slice 64 0 (.rlen 10) (.rest 1), .str [], .int .i64 (.lit 0), .int .i64 (.lit 0), .int .i64 (.lit 0), .str [], .nilSlice, .nilSlice, .int .i64 (.lit 0)] 64), (82, .cells false none [.ptr 81 0] 62)], next := 86, v := .slice 86 0 (.rlen 22) .full, post := [(73, .cells false none [.str [.lit [73, 70, 83]], .str [.var 6], .bool (.lit false), .bool (.lit false)] 61), (81, .cells false none [.slice 73 0 (.lit 1) (.rest 4), .slice 64 0 (.rlen 10) (.rest 1), .str [], .int .i64 (.lit 0), .int .i64 (.lit 0), .int .i64 (.lit 0), .str [], .nilSlice, .nilSlice, .int .i64 (.lit 0)] 64), (86, .rowv false 22 1 (.lit 0) [.str [.var 41]] 9)], next' := 87 }
theorem rows1_snoc (F : List (List UInt8)) (c : List UInt8) : rows1 (F ++ [c]) = rows1 F ++ [[vstr c]] := by simp [rows1]
theorem rows1_ok2 (F : List (List UInt8)) (c : List UInt8) : ∀ q, (q ∈ rows1 F ∨ q = [vstr c]) → q.length = 1 ∧ ∀ v ∈ q, v.oneCell' = true := by
  intro q h
  have := rows1_ok (F ++ [c]) q
  rw [rows1_snoc] at this
  exact this (by simpa using h)
theorem wa_ok {A : List (List UInt8)} {ρ : Env} (L : LR A ρ) (hw : ρ.rows 22 = rows1 (A.map quoteL)) (h41 : ρ.str 41 = (A.map quoteL).getD 0 []) (hq : ρ.str 32 = quoteL (ρ.str 30)) (hq2 : (ρ.str 30).length ≤ 100000) : OrcOK Tryz.prog ρ o_wa := by
  obtain ⟨b1, b2, b3, b4, F, c, b5, b6⟩ := wT_all L.ne
  have b7 := wT_len L.ne
  have l0 := L.len
  have l1 := L.sum
  obtain ⟨T, hT⟩ : ∃ T, T = wT A := ⟨_, rfl⟩
  rw [← hT] at b1 b2 b3 b4 b5 b7
  have hA0 : 1 ≤ A.length := List.length_pos_iff.2 L.ne
  have ctx : ∀ ρ', ρ'.rows 10 = ρ.rows 10 → ρ'.str 40 = ρ.str 40 → ρ'.rows 21 = ρ.rows 21 → ρ'.int 21 = ρ.int 21 → ρ'.str 32 = quoteL (ρ'.str 30) → (ρ'.str 30).length ≤ 100000 → CtxOK waC Tryz.prog ρ' := by
    intro ρ' h1 h2 h3 h4 h6 h7
    exact ctx18 (orcs_cons (aa_ok ⟨L.ne, L.len, L.sum, by rw [h1, L.rows], by rw [h2, L.first], by rw [h3, L.runs], by rw [h4, L.runn]⟩) orcs_nil) (pors_cons (por_quo h6 h7) pors_nil)
  have gin : ∀ i, i < T.length → wg T i ∈ T := by
    intro i hi
    simp only [wg, List.getD, List.getElem?_eq_getElem hi, Option.getD_some]; exact List.getElem_mem hi
  have gk : ∀ i, (wg T i).1 = 1 ∨ (wg T i).1 = 3 ∨ (wg T i).1 = 4 := by
    intro i
    rcases Nat.lt_or_ge i T.length with hi | hi
    · exact b3 _ (gin i hi)
    · simp [wg, List.getD, List.getElem?_eq_none hi]
  have gl : ∀ i, (wg T i).2.length ≤ 3000 := by
    intro i
    have := wsum_take T i
    omega
  have ql := fun i => quoteL_len (wg T i).2
  have sl : ∀ i, (wS T i).1.length + 1 ≤ A.length ∧ (wS T i).2.2.length ≤ 6000 := by
    intro i
    have h1 := fold_len3 (T.take i) ([], false, [])
    have h2 := fold_cur (T.take i) ([], false, [])
    have h3 := wsum_take T i
    have h4 : (T.take i).countP (fun p => p.1 == 3) ≤ T.countP (fun p => p.1 == 3) := List.Sublist.countP_le (List.take_sublist i T)
    simp only [List.length_nil] at h1 h2
    unfold wS
    omega
  have fin : ∀ i, T.length ≤ i → wS T i = (F, true, c) := by
    intro i hi
    unfold wS
    rw [List.take_of_length_le hi, b5]
  refine orc_of_graph (G := waG) (C := waC) (I := wxI T ρ) (μ := wxμ T) (l0 := o_wa.pre) ?_ ?_ ?_ ?_ rfl wast rfl rfl rfl rfl (by decide) (by kernel_rfl) (RefL.refl ρ _)
  · intro k ρ' hi
    match k, hi with
    | 0, hi =>
      replace hi : ρ' = ρ := hi
      subst hi; exact ctx _ rfl rfl rfl rfl hq hq2
    | k + 1, hi => obtain ⟨i, _, _, _, rfl⟩ := hi; exact ctx _ rfl rfl rfl rfl rfl (Nat.le_trans (gl i) (by omega))
  · intro k ρ' hi
    match k, hi with
    | 0, hi =>
      replace hi : ρ' = ρ := hi
      subst hi
      rw [waf0]
      have e := arR_len A L.ne
      intro p hp
      simp only [List.mem_cons, List.not_mem_nil, or_false] at hp
      rcases hp with rfl | rfl | rfl | rfl | rfl | rfl <;> simp [-List.length_flatten, SB.den, SI.den, intCmp, ltInt_iff, L.rows, L.runs, L.runn, rows1] <;> omega
    | 1, hi =>
      obtain ⟨i, h1, h2, ⟨s1, s2, s3⟩, rfl⟩ := hi
      rw [waf1]
      have e1 := gk i
      have e2 := gl i
      have e3 := ql i
      have e4 := sl i
      intro p hp
      simp only [List.mem_cons, List.not_mem_nil, or_false] at hp
      rcases hp with rfl | rfl | rfl | rfl | rfl | rfl | rfl | rfl | rfl <;> simp [SB.den, SI.den, intCmp, ltInt_iff, eqInt_iff, wxE, setI_int, setI_rows, setI_str, setR_int, setR_rows, setR_str, setS_int, setS_rows, setS_str, rows1] <;> omega
    | 2, hi =>
      obtain ⟨i, h1, h2, ⟨s1, s2, s3⟩, rfl⟩ := hi
      rw [waf2]
      have e1 := gk i
      have e2 := gl i
      have e3 := ql i
      have e4 := sl i
      have e6 := List.length_pos_iff.2 s3
      intro p hp
      simp only [List.mem_cons, List.not_mem_nil, or_false] at hp
      rcases hp with rfl | rfl | rfl | rfl | rfl | rfl | rfl | rfl | rfl | rfl | rfl <;> simp [SB.den, SI.den, intCmp, ltInt_iff, eqInt_iff, wxE, setI_int, setI_rows, setI_str, setR_int, setR_rows, setR_str, setS_int, setS_rows, setS_str, rows1] <;> omega
    | 3, hi =>
      obtain ⟨i, h1, h2, ⟨s1, s2, s3⟩, rfl⟩ := hi
      rw [waf3]
      have e1 := gk i
      have e2 := gl i
      have e3 := ql i
      have e4 := sl i
      have e5 := List.length_pos_iff.2 s1
      intro p hp
      simp only [List.mem_cons, List.not_mem_nil, or_false] at hp
      rcases hp with rfl | rfl | rfl | rfl | rfl | rfl | rfl | rfl | rfl | rfl | rfl <;> simp [SB.den, SI.den, intCmp, ltInt_iff, eqInt_iff, wxE, setI_int, setI_rows, setI_str, setR_int, setR_rows, setR_str, setS_int, setS_rows, setS_str, rows1] <;> omega
    | 4, hi =>
      obtain ⟨i, h1, h2, ⟨s1, s2, s3⟩, rfl⟩ := hi
      rw [waf4]
      have e1 := gk i
      have e2 := gl i
      have e3 := ql i
      have e4 := sl i
      have e5 := List.length_pos_iff.2 s1
      intro p hp
      simp only [List.mem_cons, List.not_mem_nil, or_false] at hp
      rcases hp with rfl | rfl | rfl | rfl | rfl | rfl | rfl | rfl | rfl | rfl | rfl <;> simp [SB.den, SI.den, intCmp, ltInt_iff, eqInt_iff, wxE, setI_int, setI_rows, setI_str, setR_int, setR_rows, setR_str, setS_int, setS_rows, setS_str, rows1] <;> omega
    | 5, hi =>
      obtain ⟨i, h1, h2, ⟨s1, s2, s3⟩, rfl⟩ := hi
      rw [waf5]
      have e1 := gk i
      have e2 := gl i
      have e3 := ql i
      have e4 := sl i
      have e5 := List.length_pos_iff.2 s1
      have e6 := List.length_pos_iff.2 s3
      intro p hp
      simp only [List.mem_cons, List.not_mem_nil, or_false] at hp
      rcases hp with rfl | rfl | rfl | rfl | rfl | rfl | rfl | rfl | rfl | rfl | rfl | rfl | rfl <;> simp [SB.den, SI.den, intCmp, ltInt_iff, eqInt_iff, wxE, setI_int, setI_rows, setI_str, setR_int, setR_rows, setR_str, setS_int, setS_rows, setS_str, rows1] <;> omega
    | k + 6, hi => obtain ⟨i, _, _, h, _⟩ := hi; exact h.elim
  · intro k ρ' hi
    match k, hi with
    | 0, _ => exact waat0
    | 1, _ => exact waat1
    | 2, _ => exact waat2
    | 3, _ => exact waat3
    | 4, _ => exact waat4
    | 5, _ => exact waat5
    | k + 6, hi => obtain ⟨i, _, _, h, _⟩ := hi; exact h.elim
  · intro k ρ' hi
    match k, hi with
    | 0, hi =>
      replace hi : ρ' = ρ := hi
      subst hi
      show OTok _ _ _ 0 ρ' wao0
      simp only [wao0, OTok]
      have h0 : wS T 1 = ([], true, []) := by rw [hT]; simp [wS, wT, wst]
      refine ⟨wxE T ρ' 1, ?_, ⟨1, by omega, by omega, by rw [h0]; exact ⟨rfl, rfl, rfl⟩, rfl⟩, by simp [wxμ, wxE, setS_int, setR_int, setI_int]⟩
      have hr : T.map prow = qrow 4 [] :: arR A := by rw [hT]; simp [wT, arR, prow]
      have hr2 := prow_ok T
      have hl : (T.map prow).length = 1 + (arR A).length := by rw [hr]; simp; omega
      simp only [List.length_map] at hl
      simp [Eqns, Eqn.ok, wxE, SI.den, SS.den, SP.den, setI_int, setI_rows, setI_str, setR_int, setR_rows, setR_str, setS_int, setS_rows, setS_str, preCells, RX.flat, RX.ok, AV.val, L.runs]
      repeat' apply And.intro
      all_goals first | omega | (rw [hr]; simp [qrow, vstr]; done) | exact peek_prow | (simpa using hr2)
    | 1, hi =>
      obtain ⟨i, h1, h2, ⟨s1, s2, s3⟩, rfl⟩ := hi
      show OTok _ _ _ 1 _ wao1
      simp only [wao1, OTok]
      have hr2 := prow_ok T
      refine ⟨fun h => ⟨fun g3 => ?_, fun g3 => ⟨fun g4 => ?_, fun g4 => ⟨fun ge => ?_, fun ge => ⟨fun g1 => ?_, fun g1 => ?_⟩⟩⟩⟩, fun h => ?_⟩
      ·
        have hlt := wx_t h
        have g3 := wk_t g3
        have hs : wS T (i + 1) = ((wS T i).1 ++ [(wS T i).2.2], false, []) := by rw [wS_succ hlt]; simp [wst, g3, s2]
        refine ⟨wxE T ρ (i + 1), ?_, ⟨i + 1, by omega, by omega, by rw [hs]; exact ⟨by simp, rfl, rfl⟩, rfl⟩, by simp [wxμ, wxE, setS_int, setR_int, setI_int]; omega⟩
        simp [Eqns, Eqn.ok, wxE, SI.den, SS.den, SP.den, setI_int, setI_rows, setI_str, setR_int, setR_rows, setR_str, setS_int, setS_rows, setS_str, preCells, RX.flat, RX.ok, AV.val, hs, s1, s3]
        repeat' apply And.intro
        all_goals first | omega | exact peek_prow | (simpa using hr2) | exact rows1_ok _ | (simp [rows1, vstr]; done) | (simpa [vstr] using rows1_ok2 _ _)
      ·
        have hlt := wx_t h
        have g3 := wk_f g3
        have g4 := wk_t g4
        have hs : wS T (i + 1) = ((wS T i).1, true, (wS T i).2.2) := by rw [wS_succ hlt]; simp [wst, g4]
        refine ⟨wxE T ρ (i + 1), ?_, ⟨i + 1, by omega, by omega, by rw [hs]; exact ⟨s1, rfl, s3⟩, rfl⟩, by simp [wxμ, wxE, setS_int, setR_int, setI_int]; omega⟩
        simp [Eqns, Eqn.ok, wxE, SI.den, SS.den, SP.den, setI_int, setI_rows, setI_str, setR_int, setR_rows, setR_str, setS_int, setS_rows, setS_str, preCells, RX.flat, RX.ok, AV.val, hs, s1, s3]
        repeat' apply And.intro
        all_goals first | omega | exact peek_prow | (simpa using hr2) | exact rows1_ok _ | (simp [rows1, vstr]; done) | (simpa [vstr] using rows1_ok2 _ _)
      ·
        have hlt := wx_t h
        have g3 := wk_f g3
        have g4 := wk_f g4
        have ge := we_t ge
        have hs : wS T (i + 1) = wS T i := by rw [wS_succ hlt]; simp [wst, g3, g4, ge]
        refine ⟨wxE T ρ (i + 1), ?_, ⟨i + 1, by omega, by omega, by rw [hs]; exact ⟨s1, s2, s3⟩, rfl⟩, by simp [wxμ, wxE, setS_int, setR_int, setI_int]; omega⟩
        simp [Eqns, Eqn.ok, wxE, SI.den, SS.den, SP.den, setI_int, setI_rows, setI_str, setR_int, setR_rows, setR_str, setS_int, setS_rows, setS_str, preCells, RX.flat, RX.ok, AV.val, hs, s1, s3]
        repeat' apply And.intro
        all_goals first | omega | exact peek_prow | (simpa using hr2) | exact rows1_ok _ | (simp [rows1, vstr]; done) | (simpa [vstr] using rows1_ok2 _ _)
      ·
        have hlt := wx_t h
        have g3 := wk_f g3
        have g4 := wk_f g4
        have ge := we_f ge
        have hs : wS T (i + 1) = ((wS T i).1, true, (wS T i).2.2 ++ quoteL (wg T i).2) := by rw [wS_succ hlt]; simp [wst, g3, g4, ge]
        refine ⟨wxE T ρ (i + 1), ?_, ⟨i + 1, by omega, by omega, by rw [hs]; exact ⟨s1, rfl, by simp [quoteL_ne ge]⟩, rfl⟩, by simp [wxμ, wxE, setS_int, setR_int, setI_int]; omega⟩
        simp [Eqns, Eqn.ok, wxE, SI.den, SS.den, SP.den, setI_int, setI_rows, setI_str, setR_int, setR_rows, setR_str, setS_int, setS_rows, setS_str, preCells, RX.flat, RX.ok, AV.val, hs, s1, s3]
        repeat' apply And.intro
        all_goals first | omega | exact peek_prow | (simpa using hr2) | exact rows1_ok _ | (simp [rows1, vstr]; done) | (simpa [vstr] using rows1_ok2 _ _)
      · have e1 := gk i
        have := wk_f g3
        have := wk_f g4
        have := wk_f g1
        omega
      · have hf := fin i (wx_f h)
        have hw2 : rows1 (A.map quoteL) = rows1 (wS T i).1 ++ [[vstr (wS T i).2.2]] := by rw [hf, ← b6]; exact rows1_snoc F c
        have hok := rows1_ok (A.map quoteL)
        rw [hw2] at hok
        have hp : ∀ xs, (rows1 (A.map quoteL))[0]? = some xs → xs = [vstr ((A.map quoteL).getD 0 [])] := fun xs hx => rows1_get hx
        rw [hw2] at hp
        refine ⟨ρ, ?_, rfl⟩
        simp [Eqns, Eqn.ok, wxE, SI.den, SS.den, SP.den, setI_int, setI_rows, setI_str, setR_int, setR_rows, setR_str, setS_int, setS_rows, setS_str, preCells, RX.flat, RX.ok, AV.val, hw, hw2, h41, s1, s3]
        repeat' apply And.intro
        all_goals first | omega | (simp [rows1, vstr]; done) | (simpa [vstr, s1, s3] using hok) | (simpa [vstr, rows1, s1, s3] using hp)
    | 2, hi =>
      obtain ⟨i, h1, h2, ⟨s1, s2, s3⟩, rfl⟩ := hi
      show OTok _ _ _ 2 _ wao2
      simp only [wao2, OTok]
      have hr2 := prow_ok T
      refine ⟨fun h => ⟨fun g3 => ?_, fun g3 => ⟨fun g4 => ?_, fun g4 => ⟨fun ge => ?_, fun ge => ⟨fun g1 => ?_, fun g1 => ?_⟩⟩⟩⟩, fun h => ?_⟩
      ·
        have hlt := wx_t h
        have g3 := wk_t g3
        have hs : wS T (i + 1) = ((wS T i).1 ++ [(wS T i).2.2], false, []) := by rw [wS_succ hlt]; simp [wst, g3, s2]
        refine ⟨wxE T ρ (i + 1), ?_, ⟨i + 1, by omega, by omega, by rw [hs]; exact ⟨by simp, rfl, rfl⟩, rfl⟩, by simp [wxμ, wxE, setS_int, setR_int, setI_int]; omega⟩
        simp [Eqns, Eqn.ok, wxE, SI.den, SS.den, SP.den, setI_int, setI_rows, setI_str, setR_int, setR_rows, setR_str, setS_int, setS_rows, setS_str, preCells, RX.flat, RX.ok, AV.val, hs, s1]
        repeat' apply And.intro
        all_goals first | omega | exact peek_prow | (simpa using hr2) | exact rows1_ok _ | (simp [rows1, vstr]; done) | (simpa [vstr] using rows1_ok2 _ _)
      ·
        have hlt := wx_t h
        have g3 := wk_f g3
        have g4 := wk_t g4
        have hs : wS T (i + 1) = ((wS T i).1, true, (wS T i).2.2) := by rw [wS_succ hlt]; simp [wst, g4]
        refine ⟨wxE T ρ (i + 1), ?_, ⟨i + 1, by omega, by omega, by rw [hs]; exact ⟨s1, rfl, s3⟩, rfl⟩, by simp [wxμ, wxE, setS_int, setR_int, setI_int]; omega⟩
        simp [Eqns, Eqn.ok, wxE, SI.den, SS.den, SP.den, setI_int, setI_rows, setI_str, setR_int, setR_rows, setR_str, setS_int, setS_rows, setS_str, preCells, RX.flat, RX.ok, AV.val, hs, s1]
        repeat' apply And.intro
        all_goals first | omega | exact peek_prow | (simpa using hr2) | exact rows1_ok _ | (simp [rows1, vstr]; done) | (simpa [vstr] using rows1_ok2 _ _)
      ·
        have hlt := wx_t h
        have g3 := wk_f g3
        have g4 := wk_f g4
        have ge := we_t ge
        have hs : wS T (i + 1) = wS T i := by rw [wS_succ hlt]; simp [wst, g3, g4, ge]
        refine ⟨wxE T ρ (i + 1), ?_, ⟨i + 1, by omega, by omega, by rw [hs]; exact ⟨s1, s2, s3⟩, rfl⟩, by simp [wxμ, wxE, setS_int, setR_int, setI_int]; omega⟩
        simp [Eqns, Eqn.ok, wxE, SI.den, SS.den, SP.den, setI_int, setI_rows, setI_str, setR_int, setR_rows, setR_str, setS_int, setS_rows, setS_str, preCells, RX.flat, RX.ok, AV.val, hs, s1]
        repeat' apply And.intro
        all_goals first | omega | exact peek_prow | (simpa using hr2) | exact rows1_ok _ | (simp [rows1, vstr]; done) | (simpa [vstr] using rows1_ok2 _ _)
      ·
        have hlt := wx_t h
        have g3 := wk_f g3
        have g4 := wk_f g4
        have ge := we_f ge
        have hs : wS T (i + 1) = ((wS T i).1, true, (wS T i).2.2 ++ quoteL (wg T i).2) := by rw [wS_succ hlt]; simp [wst, g3, g4, ge]
        refine ⟨wxE T ρ (i + 1), ?_, ⟨i + 1, by omega, by omega, by rw [hs]; exact ⟨s1, rfl, by simp [quoteL_ne ge]⟩, rfl⟩, by simp [wxμ, wxE, setS_int, setR_int, setI_int]; omega⟩
        simp [Eqns, Eqn.ok, wxE, SI.den, SS.den, SP.den, setI_int, setI_rows, setI_str, setR_int, setR_rows, setR_str, setS_int, setS_rows, setS_str, preCells, RX.flat, RX.ok, AV.val, hs, s1]
        repeat' apply And.intro
        all_goals first | omega | exact peek_prow | (simpa using hr2) | exact rows1_ok _ | (simp [rows1, vstr]; done) | (simpa [vstr] using rows1_ok2 _ _)
      · have e1 := gk i
        have := wk_f g3
        have := wk_f g4
        have := wk_f g1
        omega
      · have hf := fin i (wx_f h)
        have hw2 : rows1 (A.map quoteL) = rows1 (wS T i).1 ++ [[vstr (wS T i).2.2]] := by rw [hf, ← b6]; exact rows1_snoc F c
        have hok := rows1_ok (A.map quoteL)
        rw [hw2] at hok
        have hp : ∀ xs, (rows1 (A.map quoteL))[0]? = some xs → xs = [vstr ((A.map quoteL).getD 0 [])] := fun xs hx => rows1_get hx
        rw [hw2] at hp
        refine ⟨ρ, ?_, rfl⟩
        simp [Eqns, Eqn.ok, wxE, SI.den, SS.den, SP.den, setI_int, setI_rows, setI_str, setR_int, setR_rows, setR_str, setS_int, setS_rows, setS_str, preCells, RX.flat, RX.ok, AV.val, hw, hw2, h41, s1]
        repeat' apply And.intro
        all_goals first | omega | (simp [rows1, vstr]; done) | (simpa [vstr, s1] using hok) | (simpa [vstr, rows1, s1] using hp)
    | 3, hi =>
      obtain ⟨i, h1, h2, ⟨s1, s2, s3⟩, rfl⟩ := hi
      show OTok _ _ _ 3 _ wao3
      simp only [wao3, OTok]
      have hr2 := prow_ok T
      refine ⟨fun h => ⟨fun g3 => ?_, fun g3 => ⟨fun g4 => ?_, fun g4 => ⟨fun ge => ?_, fun ge => ⟨fun g1 => ?_, fun g1 => ?_⟩⟩⟩⟩, fun h => ?_⟩
      ·
        have hlt := wx_t h
        have g3 := wk_t g3
        have hs : wS T (i + 1) = ((wS T i).1, false, []) := by rw [wS_succ hlt]; simp [wst, g3, s2]
        refine ⟨wxE T ρ (i + 1), ?_, ⟨i + 1, by omega, by omega, by rw [hs]; exact ⟨s1, rfl, rfl⟩, rfl⟩, by simp [wxμ, wxE, setS_int, setR_int, setI_int]; omega⟩
        simp [Eqns, Eqn.ok, wxE, SI.den, SS.den, SP.den, setI_int, setI_rows, setI_str, setR_int, setR_rows, setR_str, setS_int, setS_rows, setS_str, preCells, RX.flat, RX.ok, AV.val, hs, s3]
        repeat' apply And.intro
        all_goals first | omega | exact peek_prow | (simpa using hr2) | exact rows1_ok _ | (simp [rows1, vstr]; done) | (simpa [vstr] using rows1_ok2 _ _)
      ·
        have hlt := wx_t h
        have g3 := wk_f g3
        have g4 := wk_t g4
        have hs : wS T (i + 1) = ((wS T i).1, true, (wS T i).2.2) := by rw [wS_succ hlt]; simp [wst, g4]
        refine ⟨wxE T ρ (i + 1), ?_, ⟨i + 1, by omega, by omega, by rw [hs]; exact ⟨s1, rfl, s3⟩, rfl⟩, by simp [wxμ, wxE, setS_int, setR_int, setI_int]; omega⟩
        simp [Eqns, Eqn.ok, wxE, SI.den, SS.den, SP.den, setI_int, setI_rows, setI_str, setR_int, setR_rows, setR_str, setS_int, setS_rows, setS_str, preCells, RX.flat, RX.ok, AV.val, hs, s3]
        repeat' apply And.intro
        all_goals first | omega | exact peek_prow | (simpa using hr2) | exact rows1_ok _ | (simp [rows1, vstr]; done) | (simpa [vstr] using rows1_ok2 _ _)
      ·
        have hlt := wx_t h
        have g3 := wk_f g3
        have g4 := wk_f g4
        have ge := we_t ge
        have hs : wS T (i + 1) = wS T i := by rw [wS_succ hlt]; simp [wst, g3, g4, ge]
        refine ⟨wxE T ρ (i + 1), ?_, ⟨i + 1, by omega, by omega, by rw [hs]; exact ⟨s1, s2, s3⟩, rfl⟩, by simp [wxμ, wxE, setS_int, setR_int, setI_int]; omega⟩
        simp [Eqns, Eqn.ok, wxE, SI.den, SS.den, SP.den, setI_int, setI_rows, setI_str, setR_int, setR_rows, setR_str, setS_int, setS_rows, setS_str, preCells, RX.flat, RX.ok, AV.val, hs, s3]
        repeat' apply And.intro
        all_goals first | omega | exact peek_prow | (simpa using hr2) | exact rows1_ok _ | (simp [rows1, vstr]; done) | (simpa [vstr] using rows1_ok2 _ _)
      ·
        have hlt := wx_t h
        have g3 := wk_f g3
        have g4 := wk_f g4
        have ge := we_f ge
        have hs : wS T (i + 1) = ((wS T i).1, true, (wS T i).2.2 ++ quoteL (wg T i).2) := by rw [wS_succ hlt]; simp [wst, g3, g4, ge]
        refine ⟨wxE T ρ (i + 1), ?_, ⟨i + 1, by omega, by omega, by rw [hs]; exact ⟨s1, rfl, by simp [quoteL_ne ge]⟩, rfl⟩, by simp [wxμ, wxE, setS_int, setR_int, setI_int]; omega⟩
        simp [Eqns, Eqn.ok, wxE, SI.den, SS.den, SP.den, setI_int, setI_rows, setI_str, setR_int, setR_rows, setR_str, setS_int, setS_rows, setS_str, preCells, RX.flat, RX.ok, AV.val, hs, s3]
        repeat' apply And.intro
        all_goals first | omega | exact peek_prow | (simpa using hr2) | exact rows1_ok _ | (simp [rows1, vstr]; done) | (simpa [vstr] using rows1_ok2 _ _)
      · have e1 := gk i
        have := wk_f g3
        have := wk_f g4
        have := wk_f g1
        omega
      · have hf := fin i (wx_f h)
        rw [hf] at s2; cases s2
    | 4, hi =>
      obtain ⟨i, h1, h2, ⟨s1, s2, s3⟩, rfl⟩ := hi
      show OTok _ _ _ 4 _ wao4
      simp only [wao4, OTok]
      have hr2 := prow_ok T
      refine ⟨fun h => ⟨fun g3 => ?_, fun g3 => ⟨fun g4 => ?_, fun g4 => ⟨fun ge => ?_, fun ge => ⟨fun g1 => ?_, fun g1 => ?_⟩⟩⟩⟩, fun h => ?_⟩
      ·
        have hlt := wx_t h
        have g3 := wk_t g3
        have hs : wS T (i + 1) = ((wS T i).1 ++ [(wS T i).2.2], false, []) := by rw [wS_succ hlt]; simp [wst, g3, s2]
        refine ⟨wxE T ρ (i + 1), ?_, ⟨i + 1, by omega, by omega, by rw [hs]; exact ⟨by simp, rfl, rfl⟩, rfl⟩, by simp [wxμ, wxE, setS_int, setR_int, setI_int]; omega⟩
        simp [Eqns, Eqn.ok, wxE, SI.den, SS.den, SP.den, setI_int, setI_rows, setI_str, setR_int, setR_rows, setR_str, setS_int, setS_rows, setS_str, preCells, RX.flat, RX.ok, AV.val, hs, s3]
        repeat' apply And.intro
        all_goals first | omega | exact peek_prow | (simpa using hr2) | exact rows1_ok _ | (simp [rows1, vstr]; done) | (simpa [vstr] using rows1_ok2 _ _)
      ·
        have hlt := wx_t h
        have g3 := wk_f g3
        have g4 := wk_t g4
        have hs : wS T (i + 1) = ((wS T i).1, true, (wS T i).2.2) := by rw [wS_succ hlt]; simp [wst, g4]
        refine ⟨wxE T ρ (i + 1), ?_, ⟨i + 1, by omega, by omega, by rw [hs]; exact ⟨s1, rfl, s3⟩, rfl⟩, by simp [wxμ, wxE, setS_int, setR_int, setI_int]; omega⟩
        simp [Eqns, Eqn.ok, wxE, SI.den, SS.den, SP.den, setI_int, setI_rows, setI_str, setR_int, setR_rows, setR_str, setS_int, setS_rows, setS_str, preCells, RX.flat, RX.ok, AV.val, hs, s3]
        repeat' apply And.intro
        all_goals first | omega | exact peek_prow | (simpa using hr2) | exact rows1_ok _ | (simp [rows1, vstr]; done) | (simpa [vstr] using rows1_ok2 _ _)
      ·
        have hlt := wx_t h
        have g3 := wk_f g3
        have g4 := wk_f g4
        have ge := we_t ge
        have hs : wS T (i + 1) = wS T i := by rw [wS_succ hlt]; simp [wst, g3, g4, ge]
        refine ⟨wxE T ρ (i + 1), ?_, ⟨i + 1, by omega, by omega, by rw [hs]; exact ⟨s1, s2, s3⟩, rfl⟩, by simp [wxμ, wxE, setS_int, setR_int, setI_int]; omega⟩
        simp [Eqns, Eqn.ok, wxE, SI.den, SS.den, SP.den, setI_int, setI_rows, setI_str, setR_int, setR_rows, setR_str, setS_int, setS_rows, setS_str, preCells, RX.flat, RX.ok, AV.val, hs, s3]
        repeat' apply And.intro
        all_goals first | omega | exact peek_prow | (simpa using hr2) | exact rows1_ok _ | (simp [rows1, vstr]; done) | (simpa [vstr] using rows1_ok2 _ _)
      ·
        have hlt := wx_t h
        have g3 := wk_f g3
        have g4 := wk_f g4
        have ge := we_f ge
        have hs : wS T (i + 1) = ((wS T i).1, true, (wS T i).2.2 ++ quoteL (wg T i).2) := by rw [wS_succ hlt]; simp [wst, g3, g4, ge]
        refine ⟨wxE T ρ (i + 1), ?_, ⟨i + 1, by omega, by omega, by rw [hs]; exact ⟨s1, rfl, by simp [quoteL_ne ge]⟩, rfl⟩, by simp [wxμ, wxE, setS_int, setR_int, setI_int]; omega⟩
        simp [Eqns, Eqn.ok, wxE, SI.den, SS.den, SP.den, setI_int, setI_rows, setI_str, setR_int, setR_rows, setR_str, setS_int, setS_rows, setS_str, preCells, RX.flat, RX.ok, AV.val, hs, s3]
        repeat' apply And.intro
        all_goals first | omega | exact peek_prow | (simpa using hr2) | exact rows1_ok _ | (simp [rows1, vstr]; done) | (simpa [vstr] using rows1_ok2 _ _)
      · have e1 := gk i
        have := wk_f g3
        have := wk_f g4
        have := wk_f g1
        omega
      · have hf := fin i (wx_f h)
        have hw2 : rows1 (A.map quoteL) = rows1 (wS T i).1 ++ [[vstr (wS T i).2.2]] := by rw [hf, ← b6]; exact rows1_snoc F c
        have hok := rows1_ok (A.map quoteL)
        rw [hw2] at hok
        have hp : ∀ xs, (rows1 (A.map quoteL))[0]? = some xs → xs = [vstr ((A.map quoteL).getD 0 [])] := fun xs hx => rows1_get hx
        rw [hw2] at hp
        refine ⟨ρ, ?_, rfl⟩
        simp [Eqns, Eqn.ok, wxE, SI.den, SS.den, SP.den, setI_int, setI_rows, setI_str, setR_int, setR_rows, setR_str, setS_int, setS_rows, setS_str, preCells, RX.flat, RX.ok, AV.val, hw, hw2, h41, s3]
        repeat' apply And.intro
        all_goals first | omega | (simp [rows1, vstr]; done) | (simpa [vstr, s3] using hok) | (simpa [vstr, rows1, s3] using hp)
    | 5, hi =>
      obtain ⟨i, h1, h2, ⟨s1, s2, s3⟩, rfl⟩ := hi
      show OTok _ _ _ 5 _ wao5
      simp only [wao5, OTok]
      have hr2 := prow_ok T
      refine ⟨fun h => ⟨fun g3 => ?_, fun g3 => ⟨fun g4 => ?_, fun g4 => ⟨fun ge => ?_, fun ge => ⟨fun g1 => ?_, fun g1 => ?_⟩⟩⟩⟩, fun h => ?_⟩
      ·
        have hlt := wx_t h
        have g3 := wk_t g3
        have hs : wS T (i + 1) = ((wS T i).1 ++ [(wS T i).2.2], false, []) := by rw [wS_succ hlt]; simp [wst, g3, s2]
        refine ⟨wxE T ρ (i + 1), ?_, ⟨i + 1, by omega, by omega, by rw [hs]; exact ⟨by simp, rfl, rfl⟩, rfl⟩, by simp [wxμ, wxE, setS_int, setR_int, setI_int]; omega⟩
        simp [Eqns, Eqn.ok, wxE, SI.den, SS.den, SP.den, setI_int, setI_rows, setI_str, setR_int, setR_rows, setR_str, setS_int, setS_rows, setS_str, preCells, RX.flat, RX.ok, AV.val, hs]
        repeat' apply And.intro
        all_goals first | omega | exact peek_prow | (simpa using hr2) | exact rows1_ok _ | (simp [rows1, vstr]; done) | (simpa [vstr] using rows1_ok2 _ _)
      ·
        have hlt := wx_t h
        have g3 := wk_f g3
        have g4 := wk_t g4
        have hs : wS T (i + 1) = ((wS T i).1, true, (wS T i).2.2) := by rw [wS_succ hlt]; simp [wst, g4]
        refine ⟨wxE T ρ (i + 1), ?_, ⟨i + 1, by omega, by omega, by rw [hs]; exact ⟨s1, rfl, s3⟩, rfl⟩, by simp [wxμ, wxE, setS_int, setR_int, setI_int]; omega⟩
        simp [Eqns, Eqn.ok, wxE, SI.den, SS.den, SP.den, setI_int, setI_rows, setI_str, setR_int, setR_rows, setR_str, setS_int, setS_rows, setS_str, preCells, RX.flat, RX.ok, AV.val, hs]
        repeat' apply And.intro
        all_goals first | omega | exact peek_prow | (simpa using hr2) | exact rows1_ok _ | (simp [rows1, vstr]; done) | (simpa [vstr] using rows1_ok2 _ _)
      ·
        have hlt := wx_t h
        have g3 := wk_f g3
        have g4 := wk_f g4
        have ge := we_t ge
        have hs : wS T (i + 1) = wS T i := by rw [wS_succ hlt]; simp [wst, g3, g4, ge]
        refine ⟨wxE T ρ (i + 1), ?_, ⟨i + 1, by omega, by omega, by rw [hs]; exact ⟨s1, s2, s3⟩, rfl⟩, by simp [wxμ, wxE, setS_int, setR_int, setI_int]; omega⟩
        simp [Eqns, Eqn.ok, wxE, SI.den, SS.den, SP.den, setI_int, setI_rows, setI_str, setR_int, setR_rows, setR_str, setS_int, setS_rows, setS_str, preCells, RX.flat, RX.ok, AV.val, hs]
        repeat' apply And.intro
        all_goals first | omega | exact peek_prow | (simpa using hr2) | exact rows1_ok _ | (simp [rows1, vstr]; done) | (simpa [vstr] using rows1_ok2 _ _)
      ·
        have hlt := wx_t h
        have g3 := wk_f g3
        have g4 := wk_f g4
        have ge := we_f ge
        have hs : wS T (i + 1) = ((wS T i).1, true, (wS T i).2.2 ++ quoteL (wg T i).2) := by rw [wS_succ hlt]; simp [wst, g3, g4, ge]
        refine ⟨wxE T ρ (i + 1), ?_, ⟨i + 1, by omega, by omega, by rw [hs]; exact ⟨s1, rfl, by simp [quoteL_ne ge]⟩, rfl⟩, by simp [wxμ, wxE, setS_int, setR_int, setI_int]; omega⟩
        simp [Eqns, Eqn.ok, wxE, SI.den, SS.den, SP.den, setI_int, setI_rows, setI_str, setR_int, setR_rows, setR_str, setS_int, setS_rows, setS_str, preCells, RX.flat, RX.ok, AV.val, hs]
        repeat' apply And.intro
        all_goals first | omega | exact peek_prow | (simpa using hr2) | exact rows1_ok _ | (simp [rows1, vstr]; done) | (simpa [vstr] using rows1_ok2 _ _)
      · have e1 := gk i
        have := wk_f g3
        have := wk_f g4
        have := wk_f g1
        omega
      · have hf := fin i (wx_f h)
        have hw2 : rows1 (A.map quoteL) = rows1 (wS T i).1 ++ [[vstr (wS T i).2.2]] := by rw [hf, ← b6]; exact rows1_snoc F c
        have hok := rows1_ok (A.map quoteL)
        rw [hw2] at hok
        have hp : ∀ xs, (rows1 (A.map quoteL))[0]? = some xs → xs = [vstr ((A.map quoteL).getD 0 [])] := fun xs hx => rows1_get hx
        rw [hw2] at hp
        refine ⟨ρ, ?_, rfl⟩
        simp [Eqns, Eqn.ok, wxE, SI.den, SS.den, SP.den, setI_int, setI_rows, setI_str, setR_int, setR_rows, setR_str, setS_int, setS_rows, setS_str, preCells, RX.flat, RX.ok, AV.val, hw, hw2, h41]
        repeat' apply And.intro
        all_goals first | omega | (simp [rows1, vstr]; done) | (simpa [vstr] using hok) | (simpa [vstr, rows1] using hp)
    | k + 6, hi => obtain ⟨i, _, _, h, _⟩ := hi; exact h.elim
end Go.Sx
