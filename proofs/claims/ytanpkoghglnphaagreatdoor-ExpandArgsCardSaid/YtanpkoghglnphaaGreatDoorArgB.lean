import Derived.Test.YtanpkoghglnphaaGreatDoorSxH
import Derived.Test.YtanpkoghglnphaaGreatDoorCtx
import Derived.Test.YtanpkoghglnphaaGreatDoorEnv
namespace Go.Sx
open Go.Proofs
set_option maxRecDepth 1000000

noncomputable def aaC : Ctx := ctxOf Tryz.prog lies18 exts18 [] []
noncomputable def aatg : List AM := [st aaC 109 [.ptr 81 0, .ptr 94 0, .str [.lit [64]], .bool (.lit true)] (hpOf [(64, .rowv true 10 1 (.lit 0) [.str [.var 40]] 9), (73, .cells false none [.str [.lit [73, 70, 83]], .str [.var 6], .bool (.lit false), .bool (.lit false)] 61), (81, .cells false none [.slice 73 0 (.lit 1) (.rest 4), .slice 64 0 (.rlen 10) (.rest 1), .str [], .int .i64 (.lit 0), .int .i64 (.lit 0), .int .i64 (.lit 0), .str [], .nilSlice, .nilSlice, .int .i64 (.lit 0)] 64), (94, .cells false none [.nilSlice, .int .i64 (.lit 0)] 77)] 98) [(.cmp .geq (.rlen 10) (.lit 1), true), (.cmp .leq (.rlen 10) (.lit 63), true), (.cmp .leq (.slen 40) (.lit 3000), true)],
    nd aaC 109 1 [(1, .ptr 94 0), (3, .bool (.lit true)), (64, .slice 64 0 (.rlen 10) (.rest 1)), (65, .int .i64 (.rlen 10)), (66, .int .i64 (.var 0))]
      [(64, .rowv true 10 1 (.var 0) [.str [.var 9]] 9), (73, .cells false none [.str [.lit [73, 70, 83]], .str [.var 6], .bool (.lit false), .bool (.lit false)] 61), (81, .cells false none [.slice 73 0 (.lit 1) (.rest 4), .slice 64 0 (.rlen 10) (.rest 1), .str [], .int .i64 (.lit 0), .int .i64 (.lit 0), .int .i64 (.lit 0), .str [], .nilSlice, .nilSlice, .int .i64 (.lit 0)] 64), (94, .cells false none [.slice 98 0 (.rlen 11) (.rest 2), .int .i64 (.var 1)] 77), (98, .cells false (some (.v 11, 2)) [] 79)] 99
      [(.cmp .geq (.rlen 10) (.lit 1), true), (.cmp .leq (.rlen 10) (.lit 63), true), (.cmp .geq (.var 0) (.lit 1), true), (.cmp .leq (.var 0) (.rlen 10), true), (.cmp .leq (.slen 9) (.lit 3000), true), (.cmp .leq (.add (.var 1) (.slen 9)) (.lit 3000), true), (.cmp .geq (.var 1) (.lit 0), true), (.cmp .leq (.var 1) (.lit 3000), true), (.cmp .leq (.rlen 11) (.lit 1000), true), (.cmp .geq (.rlen 11) (.lit 1), true)]]
noncomputable def aao0 : OT := (.to 1 ⟨98, 99, [(98, 101)]⟩ [.int (.rlen 10) (.rlen 10), .int (.rlen 10) (.rlen 10), .int (.var 0) (.lit 1), .int (.rlen 10) (.rlen 10), .str [.var 6] [.var 6], .row 10 1 (some ((.v 10), 1)) [], .peek 10 (.var 0) [.str [.var 9]], .row 11 2 none [.str [], .int .i64 (.lit 4), .str [.var 40], .int .i64 (.lit 1)], .int (.rlen 11) (.lit 2), .int (.var 1) (.slen 40)])
noncomputable def aao1 : OT := (.fork (.cmp .lss (.var 0) (.rlen 10)) (.to 1 ⟨98, 99, [(98, 104)]⟩ [.int (.rlen 10) (.rlen 10), .int (.rlen 10) (.rlen 10), .int (.var 0) (.add (.var 0) (.lit 1)), .int (.rlen 10) (.rlen 10), .str [.var 6] [.var 6], .row 10 1 (some ((.v 10), 1)) [], .peek 10 (.var 0) [.str [.var 9]], .row 11 2 (some ((.v 11), 2)) [.str [], .int .i64 (.lit 3), .str [], .int .i64 (.lit 4), .str [.var 9], .int .i64 (.lit 1)], .int (.rlen 11) (.add (.add (.rlen 11) (.lit 2)) (.lit 1)), .int (.var 1) (.add (.var 1) (.slen 9))]) (.fin ⟨98, 99, [(98, 98)]⟩ [.int (.rlen 10) (.rlen 10), .str [.var 6] [.var 6], .row 21 2 (some ((.v 11), 2)) [], .int (.rlen 21) (.rlen 11), .int (.var 21) (.var 1)]))
noncomputable def aaG : Graph := { tg := pick aatg, stop := (stopAny [(109, (0, 2))]), n := (fun _ => 1200), pl := fun k => ([aao0, aao1].getD k .no).plan, o := fun k => [aao0, aao1].getD k .no, v := .tup [], h := (hpOf [(73, .cells false none [.str [.lit [73, 70, 83]], .str [.var 6], .bool (.lit false), .bool (.lit false)] 61), (81, .cells false none [.slice 73 0 (.lit 1) (.rest 4), .slice 64 0 (.rlen 10) (.rest 1), .str [], .int .i64 (.lit 0), .int .i64 (.lit 0), .int .i64 (.lit 0), .str [], .nilSlice, .nilSlice, .int .i64 (.lit 0)] 64), (94, .cells false none [.slice 98 0 (.rlen 21) (.rest 2), .int .i64 (.var 21)] 77), (98, .cells false (some (.v 21, 2)) [] 79)] 99), f := 109, N := 98 }
theorem aaat0 : aaG.At aaC 0 := ⟨by kernel_rfl, by kernel_rfl, by kernel_rfl⟩
theorem aaat1 : aaG.At aaC 1 := ⟨by kernel_rfl, by kernel_rfl, by kernel_rfl⟩
theorem aaf0 : (aaG.tg 0).facts = [(.cmp .geq (.rlen 10) (.lit 1), true), (.cmp .leq (.rlen 10) (.lit 63), true), (.cmp .leq (.slen 40) (.lit 3000), true)] := by kernel_rfl
theorem aaf1 : (aaG.tg 1).facts = [(.cmp .geq (.rlen 10) (.lit 1), true), (.cmp .leq (.rlen 10) (.lit 63), true), (.cmp .geq (.var 0) (.lit 1), true), (.cmp .leq (.var 0) (.rlen 10), true), (.cmp .leq (.slen 9) (.lit 3000), true), (.cmp .leq (.add (.var 1) (.slen 9)) (.lit 3000), true), (.cmp .geq (.var 1) (.lit 0), true), (.cmp .leq (.var 1) (.lit 3000), true), (.cmp .leq (.rlen 11) (.lit 1000), true), (.cmp .geq (.rlen 11) (.lit 1), true)] := by kernel_rfl
theorem aast : startF aaC [(.cmp .geq (.rlen 10) (.lit 1), true), (.cmp .leq (.rlen 10) (.lit 63), true), (.cmp .leq (.slen 40) (.lit 3000), true)] 109 [.ptr 81 0, .ptr 94 0, .str [.lit [64]], .bool (.lit true)] (hpOf [(64, .rowv true 10 1 (.lit 0) [.str [.var 40]] 9), (73, .cells false none [.str [.lit [73, 70, 83]], .str [.var 6], .bool (.lit false), .bool (.lit false)] 61), (81, .cells false none [.slice 73 0 (.lit 1) (.rest 4), .slice 64 0 (.rlen 10) (.rest 1), .str [], .int .i64 (.lit 0), .int .i64 (.lit 0), .int .i64 (.lit 0), .str [], .nilSlice, .nilSlice, .int .i64 (.lit 0)] 64), (94, .cells false none [.nilSlice, .int .i64 (.lit 0)] 77)] 98) = some (aaG.tg 0) := by kernel_rfl
end Go.Sx
namespace Go.Sx
open Go.Proofs
set_option maxRecDepth 100000
def ark : List (List UInt8) → List (Int × List UInt8)
  | [] => []
  | a :: l => (4, []) :: (1, a) :: l.flatMap fun b => [(3, []), (4, []), (1, b)]
def prow (p : Int × List UInt8) : List Value := qrow p.1 p.2
def arR (A : List (List UInt8)) : List (List Value) := (ark A).map prow
theorem ark_snoc {l : List (List UInt8)} (h : l ≠ []) (b : List UInt8) : ark (l ++ [b]) = ark l ++ [(3, []), (4, []), (1, b)] := by
  cases l with
  | nil => exact absurd rfl h
  | cons a l => simp [ark]
theorem arR_snoc {l : List (List UInt8)} (h : l ≠ []) (b : List UInt8) : arR (l ++ [b]) = arR l ++ [qrow 3 [], qrow 4 [], qrow 1 b] := by
  simp [arR, ark_snoc h, prow]
theorem ark_len : ∀ l : List (List UInt8), l ≠ [] → (ark l).length + 1 = 3 * l.length
  | [], h => absurd rfl h
  | a :: l, _ => by
    have key : ∀ l : List (List UInt8), (l.flatMap fun b => [((3 : Int), ([] : List UInt8)), (4, []), (1, b)]).length = 3 * l.length := by
      intro l
      induction l with
      | nil => rfl
      | cons b l ih =>
        rw [List.flatMap_cons, List.length_append, ih]
        simp only [List.length_cons, List.length_nil]; omega
    have := key l
    simp only [ark, List.length_cons, this]; omega
theorem arR_len (l : List (List UInt8)) (h : l ≠ []) : (arR l).length + 1 = 3 * l.length := by rw [arR, List.length_map]; exact ark_len l h
theorem prow_ok (L : List (Int × List UInt8)) : ∀ q ∈ L.map prow, q.length = 2 ∧ ∀ v ∈ q, v.oneCell' = true := by
  intro q h
  obtain ⟨p, _, rfl⟩ := List.mem_map.1 h
  exact ⟨rfl, fun v hv => by simp [prow, qrow] at hv; rcases hv with rfl | rfl <;> rfl⟩
theorem arR_ok (A : List (List UInt8)) : ∀ q ∈ arR A, q.length = 2 ∧ ∀ v ∈ q, v.oneCell' = true := prow_ok _
/-- what the letters of the law stand for -/
structure LR (A : List (List UInt8)) (ρ : Env) : Prop where
  ne : A ≠ []
  len : A.length ≤ 63
  sum : A.flatten.length ≤ 3000
  rows : ρ.rows 10 = rows1 A
  first : ρ.str 40 = A.getD 0 []
  runs : ρ.rows 21 = arR A
  runn : ρ.int 21 = A.flatten.length
theorem aget_le : ∀ (A : List (List UInt8)) (i : Nat), (A.take i).flatten.length + (A.getD i []).length ≤ A.flatten.length
  | [], i => by simp
  | a :: A, 0 => by simp
  | a :: A, i + 1 => by
    have := aget_le A i
    simp only [List.take_succ_cons, List.flatten_cons, List.length_append, List.getD_cons_succ]; omega
theorem atake_ne {α : Type} {A : List α} {i : Nat} (hA : A ≠ []) (h : 1 ≤ i) : A.take i ≠ [] := by
  intro c
  rw [List.take_eq_nil_iff] at c
  rcases c with c | c
  · omega
  · exact hA c
theorem atake_getD {A : List (List UInt8)} {i : Nat} (h : i < A.length) : A.take (i + 1) = A.take i ++ [A.getD i []] := by
  rw [List.take_succ_eq_append_getElem h]
  simp [List.getD, List.getElem?_eq_getElem h]
def arE (A : List (List UInt8)) (ρ : Env) (i : Nat) : Env :=
  (((ρ.setI 0 i).setI 1 ((A.take i).flatten.length)).setR 11 (arR (A.take i))).setS 9 (A.getD i [])
def arI (A : List (List UInt8)) (ρ0 : Env) : Nat → Env → Prop
  | 0, ρ => ρ = ρ0
  | 1, ρ => ∃ i : Nat, 1 ≤ i ∧ i ≤ A.length ∧ ρ = arE A ρ0 i
  | _, _ => False
def arμ (A : List (List UInt8)) : Nat → Env → Nat
  | 0, _ => A.length + 2
  | _, ρ => A.length + 1 - (ρ.int 0).toNat
noncomputable def o_aa : Orc := { facts := [], f := 109, args := [.ptr 81 0, .ptr 94 0, .str [.lit [64]], .bool (.lit true)], pre := [(64, .cells true (some (.v 10, 1)) [] 9), (73, .cells false none [.str [.lit [73, 70, 83]], .str [.var 6], .bool (.lit false), .bool (.lit false)] 61), (81, .cells false none [.slice 73 0 (.lit 1) (.rest 4), .slice 64 0 (.rlen 10) (.rest 1), .str [], .int .i64 (.lit 0), .int .i64 (.lit 0), .int .i64 (.lit 0), .str [], .nilSlice, .nilSlice, .int .i64 (.lit 0)] 64), (94, .cells false none [.nilSlice, .int .i64 (.lit 0)] 77)], next := 98, v := .tup [], post := [(73, .cells false none [.str [.lit [73, 70, 83]], .str [.var 6], .bool (.lit false), .bool (.lit false)] 61), (81, .cells false none [.slice 73 0 (.lit 1) (.rest 4), .slice 64 0 (.rlen 10) (.rest 1), .str [], .int .i64 (.lit 0), .int .i64 (.lit 0), .int .i64 (.lit 0), .str [], .nilSlice, .nilSlice, .int .i64 (.lit 0)] 64), (94, .cells false none [.slice 98 0 (.rlen 21) (.rest 2), .int .i64 (.var 21)] 77), (98, .cells false (some (.v 21, 2)) [] 79)], next' := 99 }
theorem aaC_ok {ρ : Env} : CtxOK aaC Tryz.prog ρ := ctx18 orcs_nil pors_nil
theorem aa_ok {A : List (List UInt8)} {ρ : Env} (L : LR A ρ) : OrcOK Tryz.prog ρ o_aa := by
  have hA0 : 1 ≤ A.length := by
    cases h : A with
    | nil => exact absurd h L.ne
    | cons a l => simp
  have l0 := L.len
  have l1 := L.sum
  have ht1 : A.take 1 = [A.getD 0 []] := by
    cases h : A with
    | nil => exact absurd h L.ne
    | cons a l => rfl
  refine orc_of_graph (G := aaG) (C := aaC) (I := arI A ρ) (μ := arμ A) (l0 := [(64, .rowv true 10 1 (.lit 0) [.str [.var 40]] 9), (73, .cells false none [.str [.lit [73, 70, 83]], .str [.var 6], .bool (.lit false), .bool (.lit false)] 61), (81, .cells false none [.slice 73 0 (.lit 1) (.rest 4), .slice 64 0 (.rlen 10) (.rest 1), .str [], .int .i64 (.lit 0), .int .i64 (.lit 0), .int .i64 (.lit 0), .str [], .nilSlice, .nilSlice, .int .i64 (.lit 0)] 64), (94, .cells false none [.nilSlice, .int .i64 (.lit 0)] 77)])
    (fun _ _ _ => aaC_ok) ?_ ?_ ?_ rfl aast rfl rfl rfl rfl (by decide) (by kernel_rfl) ?_
  · intro k ρ' hi
    match k, hi with
    | 0, hi =>
      replace hi : ρ' = ρ := hi
      subst hi
      rw [aaf0]
      have a0 := aget_le A 0
      rw [← L.first] at a0
      intro p hp
      simp only [List.mem_cons, List.not_mem_nil, or_false] at hp
      rcases hp with rfl | rfl | rfl <;> simp [-List.length_flatten, SB.den, SI.den, intCmp, ltInt_iff, L.rows, rows1] <;> omega
    | 1, hi =>
      obtain ⟨i, h1, h2, rfl⟩ := hi
      rw [aaf1]
      have e1 := aget_le A i
      have e7 : (A.take i).length = i := by rw [List.length_take]; omega
      have e2 := arR_len (A.take i) (atake_ne L.ne h1)
      rw [e7] at e2
      obtain ⟨x, hx⟩ : ∃ x, x = A.getD i [] := ⟨_, rfl⟩
      rw [← hx] at e1
      intro p hp
      simp only [List.mem_cons, List.not_mem_nil, or_false] at hp
      rcases hp with rfl | rfl | rfl | rfl | rfl | rfl | rfl | rfl | rfl | rfl <;> simp [-List.length_flatten, -List.getD_eq_getElem?_getD, SB.den, SI.den, intCmp, ltInt_iff, arE, setI_int, setI_rows, setI_str, setR_int, setR_rows, setR_str, setS_int, setS_rows, setS_str, L.rows, rows1, ← hx] <;> omega
  · intro k ρ' hi
    match k, hi with
    | 0, _ => exact aaat0
    | 1, _ => exact aaat1
  · intro k ρ' hi
    match k, hi with
    | 0, hi =>
      replace hi : ρ' = ρ := hi
      subst hi
      show OTok _ _ _ 0 ρ' aao0
      simp only [aao0, OTok]
      refine ⟨arE A ρ' 1, ?_, ⟨1, by omega, hA0, rfl⟩, by simp [arμ, arE, setS_int, setR_int, setI_int]⟩
      simp [-List.length_flatten, Eqns, Eqn.ok, arE, SI.den, SS.den, SP.den, setI_int, setI_rows, setI_str, setR_int, setR_rows, setR_str, setS_int, setS_rows, setS_str, preCells, RX.flat, RX.ok, AV.val, L.rows, L.first, ht1, arR, ark, prow, qrow, vstr]
      repeat' apply And.intro
      all_goals first | exact rows1_ok A | rfl | omega | (intro xs hx; simpa [vstr, List.getD] using rows1_get hx)
    | 1, hi =>
      obtain ⟨i, h1, h2, rfl⟩ := hi
      show OTok _ _ _ 1 _ aao1
      simp only [aao1, OTok]
      refine ⟨fun h => ?_, fun h => ?_⟩
      · have hlt : i < A.length := by
          simp [SB.den, SI.den, intCmp, ltInt_iff, arE, setS_int, setR_int, setI_int, setS_rows, setR_rows, setI_rows, L.rows, rows1] at h
          omega
        have hne := atake_ne L.ne h1
        have ht := atake_getD hlt
        have hst := arR_ok (A.take (i + 1))
        rw [ht, arR_snoc hne] at hst
        refine ⟨arE A ρ (i + 1), ?_, ⟨i + 1, by omega, by omega, rfl⟩, by simp [arμ, arE, setS_int, setR_int, setI_int]; omega⟩
        have hfl : (A.take (i + 1)).flatten.length = (A.take i).flatten.length + (A.getD i []).length := by rw [ht]; simp
        simp [-List.length_flatten, Eqns, Eqn.ok, arE, SI.den, SS.den, SP.den, setI_int, setI_rows, setI_str, setR_int, setR_rows, setR_str, setS_int, setS_rows, setS_str, preCells, RX.flat, RX.ok, AV.val, L.rows, L.first, L.runs, L.runn, hfl, ht, arR_snoc hne]
        repeat' apply And.intro
        all_goals first | exact rows1_ok A | rfl | omega | (intro xs hx; simpa [vstr, List.getD] using rows1_get hx) | simpa using hst
      · have hlt : i = A.length := by
          simp [SB.den, SI.den, intCmp, ltInt_iff, arE, setS_int, setR_int, setI_int, setS_rows, setR_rows, setI_rows, L.rows, rows1] at h
          omega
        refine ⟨ρ, ?_, rfl⟩
        subst hlt
        simp [-List.length_flatten, Eqns, Eqn.ok, arE, SI.den, SS.den, SP.den, setI_int, setI_rows, setI_str, setR_int, setR_rows, setR_str, setS_int, setS_rows, setS_str, preCells, RX.flat, RX.ok, AV.val, L.rows, L.first, L.runs, L.runn]
        exact arR_ok A
  · refine ⟨rfl, .inr ⟨_, _, _, _, _, _, rfl, rfl, rfl, by simp [SI.den], ?_⟩, RefL.refl ρ _⟩
    intro xs hx
    simp only [SI.den, L.rows] at hx
    rw [rows1_get hx]
    simp [AV.val, SS.den, SP.den, L.first, vstr]
end Go.Sx
namespace Go.Sx
open Go.Proofs
set_option maxRecDepth 1000000

noncomputable def waC : Ctx := ctxOf Tryz.prog lies18 exts18 [o_aa] [p_qr]
noncomputable def watg : List AM := [st waC 28 [.ptr 77 0, .ptr 82 0] (hpOf [(64, .cells true (some (.v 10, 1)) [] 9), (73, .cells false none [.str [.lit [73, 70, 83]], .str [.var 6], .bool (.lit false), .bool (.lit false)] 61), (76, .cells false none [.str [.lit [34, 36, 64, 34]]] 9), (77, .cells false none [.slice 76 0 (.lit 1) (.known 1)] 22), (81, .cells false none [.slice 73 0 (.lit 1) (.rest 4), .slice 64 0 (.rlen 10) (.rest 1), .str [], .int .i64 (.lit 0), .int .i64 (.lit 0), .int .i64 (.lit 0), .str [], .nilSlice, .nilSlice, .int .i64 (.lit 0)] 64), (82, .cells false none [.ptr 81 0] 62)] 86) [(.cmp .geq (.rlen 10) (.lit 1), true), (.cmp .leq (.rlen 10) (.lit 63), true), (.cmp .leq (.var 21) (.lit 3000), true), (.cmp .geq (.var 21) (.lit 0), true), (.cmp .leq (.rlen 21) (.lit 200), true), (.cmp .geq (.rlen 21) (.lit 1), true)],
    nd waC 28 1 [(2, .nilSlice), (3, .ptr 86 0), (7, .str [.var 6]), (13, .slice 76 0 (.lit 1) (.known 1)), (14, .int .i64 (.lit 1)), (15, .int .i64 (.lit 0)), (35, .slice 87 0 (.rlen 23) (.rest 2)), (36, .int .i64 (.rlen 23)), (37, .int .i64 (.var 0))]
      [(73, .cells false none [.str [.lit [73, 70, 83]], .str [.var 6], .bool (.lit false), .bool (.lit false)] 61), (81, .cells false none [.slice 73 0 (.lit 1) (.rest 4), .slice 64 0 (.rlen 10) (.rest 1), .str [], .int .i64 (.lit 0), .int .i64 (.lit 0), .int .i64 (.lit 0), .str [], .nilSlice, .nilSlice, .int .i64 (.lit 0)] 64), (86, .cells false none [.nilSlice, .nilPtr, .nilSlice, .bool (.lit true), .bool (.lit false), .bool (.lit false), .bool (.lit false)] 72), (87, .rowv false 23 2 (.var 0) [.str [.var 30], .int .i64 (.var 31)] 79)] 88
      [(.cmp .geq (.var 0) (.lit 1), true), (.cmp .leq (.var 0) (.rlen 23), true), (.cmp .leq (.rlen 23) (.lit 300), true), (.cmp .leq (.slen 30) (.lit 3000), true), (.cmp .leq (.slen 32) (.lit 6000), true), (.cmp .geq (.slen 32) (.slen 30), true), (.cmp .geq (.var 31) (.lit 1), true), (.cmp .leq (.var 31) (.lit 4), true), (.cmp .eql (.var 31) (.lit 2), false)],
    nd waC 28 1 [(2, .nilSlice), (3, .ptr 86 0), (7, .str [.var 6]), (13, .slice 76 0 (.lit 1) (.known 1)), (14, .int .i64 (.lit 1)), (15, .int .i64 (.lit 0)), (35, .slice 87 0 (.rlen 23) (.rest 2)), (36, .int .i64 (.rlen 23)), (37, .int .i64 (.var 0))]
      [(73, .cells false none [.str [.lit [73, 70, 83]], .str [.var 6], .bool (.lit false), .bool (.lit false)] 61), (81, .cells false none [.slice 73 0 (.lit 1) (.rest 4), .slice 64 0 (.rlen 10) (.rest 1), .str [], .int .i64 (.lit 0), .int .i64 (.lit 0), .int .i64 (.lit 0), .str [], .nilSlice, .nilSlice, .int .i64 (.lit 0)] 64), (86, .cells false none [.nilSlice, .ptr 86 1, .slice 88 0 (.slen 31) (.rest 1), .bool (.lit true), .bool (.lit true), .bool (.lit false), .bool (.lit false)] 72), (87, .rowv false 23 2 (.var 0) [.str [.var 30], .int .i64 (.var 31)] 79), (88, .bytes [.var 31] 5 false)] 89
      [(.cmp .geq (.var 0) (.lit 1), true), (.cmp .leq (.var 0) (.rlen 23), true), (.cmp .leq (.rlen 23) (.lit 300), true), (.cmp .leq (.slen 30) (.lit 3000), true), (.cmp .leq (.slen 32) (.lit 6000), true), (.cmp .geq (.slen 32) (.slen 30), true), (.cmp .geq (.var 31) (.lit 1), true), (.cmp .leq (.var 31) (.lit 4), true), (.cmp .eql (.var 31) (.lit 2), false), (.cmp .geq (.slen 31) (.lit 1), true), (.cmp .leq (.slen 31) (.lit 9000), true)],
    nd waC 28 1 [(2, .nilSlice), (3, .ptr 86 0), (7, .str [.var 6]), (13, .slice 76 0 (.lit 1) (.known 1)), (14, .int .i64 (.lit 1)), (15, .int .i64 (.lit 0)), (35, .slice 87 0 (.rlen 23) (.rest 2)), (36, .int .i64 (.rlen 23)), (37, .int .i64 (.var 0))]
      [(73, .cells false none [.str [.lit [73, 70, 83]], .str [.var 6], .bool (.lit false), .bool (.lit false)] 61), (81, .cells false none [.slice 73 0 (.lit 1) (.rest 4), .slice 64 0 (.rlen 10) (.rest 1), .str [], .int .i64 (.lit 0), .int .i64 (.lit 0), .int .i64 (.lit 0), .str [], .nilSlice, .nilSlice, .int .i64 (.lit 0)] 64), (86, .cells false none [.slice 88 0 (.rlen 40) (.rest 1), .nilPtr, .nilSlice, .bool (.lit false), .bool (.lit false), .bool (.lit false), .bool (.lit false)] 72), (87, .rowv false 23 2 (.var 0) [.str [.var 30], .int .i64 (.var 31)] 79), (88, .cells false (some (.v 40, 1)) [] 9)] 89
      [(.cmp .geq (.var 0) (.lit 1), true), (.cmp .leq (.var 0) (.rlen 23), true), (.cmp .leq (.rlen 23) (.lit 300), true), (.cmp .leq (.slen 30) (.lit 3000), true), (.cmp .leq (.slen 32) (.lit 6000), true), (.cmp .geq (.slen 32) (.slen 30), true), (.cmp .geq (.var 31) (.lit 1), true), (.cmp .leq (.var 31) (.lit 4), true), (.cmp .eql (.var 31) (.lit 2), false), (.cmp .geq (.rlen 40) (.lit 1), true), (.cmp .leq (.rlen 40) (.lit 63), true)],
    nd waC 28 1 [(2, .nilSlice), (3, .ptr 86 0), (7, .str [.var 6]), (13, .slice 76 0 (.lit 1) (.known 1)), (14, .int .i64 (.lit 1)), (15, .int .i64 (.lit 0)), (35, .slice 87 0 (.rlen 23) (.rest 2)), (36, .int .i64 (.rlen 23)), (37, .int .i64 (.var 0))]
      [(73, .cells false none [.str [.lit [73, 70, 83]], .str [.var 6], .bool (.lit false), .bool (.lit false)] 61), (81, .cells false none [.slice 73 0 (.lit 1) (.rest 4), .slice 64 0 (.rlen 10) (.rest 1), .str [], .int .i64 (.lit 0), .int .i64 (.lit 0), .int .i64 (.lit 0), .str [], .nilSlice, .nilSlice, .int .i64 (.lit 0)] 64), (86, .cells false none [.slice 88 0 (.rlen 40) (.rest 1), .nilPtr, .nilSlice, .bool (.lit true), .bool (.lit false), .bool (.lit false), .bool (.lit false)] 72), (87, .rowv false 23 2 (.var 0) [.str [.var 30], .int .i64 (.var 31)] 79), (88, .cells false (some (.v 40, 1)) [] 9)] 89
      [(.cmp .geq (.var 0) (.lit 1), true), (.cmp .leq (.var 0) (.rlen 23), true), (.cmp .leq (.rlen 23) (.lit 300), true), (.cmp .leq (.slen 30) (.lit 3000), true), (.cmp .leq (.slen 32) (.lit 6000), true), (.cmp .geq (.slen 32) (.slen 30), true), (.cmp .geq (.var 31) (.lit 1), true), (.cmp .leq (.var 31) (.lit 4), true), (.cmp .eql (.var 31) (.lit 2), false), (.cmp .geq (.rlen 40) (.lit 1), true), (.cmp .leq (.rlen 40) (.lit 63), true)],
    nd waC 28 1 [(2, .nilSlice), (3, .ptr 86 0), (7, .str [.var 6]), (13, .slice 76 0 (.lit 1) (.known 1)), (14, .int .i64 (.lit 1)), (15, .int .i64 (.lit 0)), (35, .slice 87 0 (.rlen 23) (.rest 2)), (36, .int .i64 (.rlen 23)), (37, .int .i64 (.var 0))]
      [(73, .cells false none [.str [.lit [73, 70, 83]], .str [.var 6], .bool (.lit false), .bool (.lit false)] 61), (81, .cells false none [.slice 73 0 (.lit 1) (.rest 4), .slice 64 0 (.rlen 10) (.rest 1), .str [], .int .i64 (.lit 0), .int .i64 (.lit 0), .int .i64 (.lit 0), .str [], .nilSlice, .nilSlice, .int .i64 (.lit 0)] 64), (86, .cells false none [.slice 88 0 (.rlen 40) (.rest 1), .ptr 86 1, .slice 89 0 (.slen 31) (.rest 1), .bool (.lit true), .bool (.lit true), .bool (.lit false), .bool (.lit false)] 72), (87, .rowv false 23 2 (.var 0) [.str [.var 30], .int .i64 (.var 31)] 79), (88, .cells false (some (.v 40, 1)) [] 9), (89, .bytes [.var 31] 5 false)] 90
      [(.cmp .geq (.var 0) (.lit 1), true), (.cmp .leq (.var 0) (.rlen 23), true), (.cmp .leq (.rlen 23) (.lit 300), true), (.cmp .leq (.slen 30) (.lit 3000), true), (.cmp .leq (.slen 32) (.lit 6000), true), (.cmp .geq (.slen 32) (.slen 30), true), (.cmp .geq (.var 31) (.lit 1), true), (.cmp .leq (.var 31) (.lit 4), true), (.cmp .eql (.var 31) (.lit 2), false), (.cmp .geq (.rlen 40) (.lit 1), true), (.cmp .leq (.rlen 40) (.lit 63), true), (.cmp .geq (.slen 31) (.lit 1), true), (.cmp .leq (.slen 31) (.lit 9000), true)]]
noncomputable def wao0 : OT := (.to 1 ⟨86, 88, [(86, 86), (87, 100)]⟩ [.str [.var 6] [.var 6], .int (.rlen 23) (.add (.lit 1) (.rlen 21)), .int (.var 0) (.lit 1), .int (.rlen 23) (.add (.lit 1) (.rlen 21)), .row 23 2 (some ((.cs [.str [], .int .i64 (.lit 4)] (.v 21)), 2)) [], .peek 23 (.var 0) [.str [.var 30], .int .i64 (.var 31)], .int (.rlen 10) (.rlen 10), .str [.var 6] [.var 6]])
noncomputable def wao1 : OT := (.fork (.cmp .lss (.var 0) (.rlen 23)) (.fork (.cmp .eql (.var 31) (.lit 3)) (.to 3 ⟨86, 89, [(86, 86), (87, 87), (88, 91)]⟩ [.str [.var 6] [.var 6], .int (.rlen 23) (.rlen 23), .int (.var 0) (.add (.var 0) (.lit 1)), .int (.rlen 23) (.rlen 23), .row 23 2 (some ((.v 23), 2)) [], .peek 23 (.var 0) [.str [.var 30], .int .i64 (.var 31)], .int (.rlen 10) (.rlen 10), .str [.var 6] [.var 6], .row 40 1 none [.str []], .int (.rlen 40) (.lit 1)]) (.fork (.cmp .eql (.var 31) (.lit 4)) (.to 1 ⟨86, 88, [(86, 86), (87, 87)]⟩ [.str [.var 6] [.var 6], .int (.rlen 23) (.rlen 23), .int (.var 0) (.add (.var 0) (.lit 1)), .int (.rlen 23) (.rlen 23), .row 23 2 (some ((.v 23), 2)) [], .peek 23 (.var 0) [.str [.var 30], .int .i64 (.var 31)], .int (.rlen 10) (.rlen 10), .str [.var 6] [.var 6]]) (.fork (.cmp .eql (.slen 30) (.lit 0)) (.to 1 ⟨86, 88, [(86, 86), (87, 87)]⟩ [.str [.var 6] [.var 6], .int (.rlen 23) (.rlen 23), .int (.var 0) (.add (.var 0) (.lit 1)), .int (.rlen 23) (.rlen 23), .row 23 2 (some ((.v 23), 2)) [], .peek 23 (.var 0) [.str [.var 30], .int .i64 (.var 31)], .int (.rlen 10) (.rlen 10), .str [.var 6] [.var 6]]) (.fork (.cmp .eql (.var 31) (.lit 1)) (.to 2 ⟨86, 89, [(86, 86), (87, 87), (88, 90)]⟩ [.str [.var 6] [.var 6], .int (.rlen 23) (.rlen 23), .int (.var 0) (.add (.var 0) (.lit 1)), .int (.rlen 23) (.rlen 23), .row 23 2 (some ((.v 23), 2)) [], .peek 23 (.var 0) [.str [.var 30], .int .i64 (.var 31)], .int (.rlen 10) (.rlen 10), .str [.var 6] [.var 6], .str [.var 31] [.var 32], .int (.slen 31) (.slen 32)]) .no)))) (.fin ⟨86, 87, [(86, 90)]⟩ [.int (.rlen 22) (.lit 1), .int (.rlen 10) (.rlen 10), .str [.var 6] [.var 6], .row 22 1 none [.str []], .peek 22 (.lit 0) [.str [.var 41]]]))
noncomputable def wao2 : OT := (.fork (.cmp .lss (.var 0) (.rlen 23)) (.fork (.cmp .eql (.var 31) (.lit 3)) (.to 3 ⟨86, 89, [(86, 86), (87, 87), (88, 92)]⟩ [.str [.var 6] [.var 6], .int (.rlen 23) (.rlen 23), .int (.var 0) (.add (.var 0) (.lit 1)), .int (.rlen 23) (.rlen 23), .row 23 2 (some ((.v 23), 2)) [], .peek 23 (.var 0) [.str [.var 30], .int .i64 (.var 31)], .int (.rlen 10) (.rlen 10), .str [.var 6] [.var 6], .row 40 1 none [.str [.var 31]], .int (.rlen 40) (.lit 1)]) (.fork (.cmp .eql (.var 31) (.lit 4)) (.to 2 ⟨86, 89, [(86, 86), (87, 87), (88, 88)]⟩ [.str [.var 6] [.var 6], .int (.rlen 23) (.rlen 23), .int (.var 0) (.add (.var 0) (.lit 1)), .int (.rlen 23) (.rlen 23), .row 23 2 (some ((.v 23), 2)) [], .peek 23 (.var 0) [.str [.var 30], .int .i64 (.var 31)], .int (.rlen 10) (.rlen 10), .str [.var 6] [.var 6], .str [.var 31] [.var 31], .int (.slen 31) (.slen 31)]) (.fork (.cmp .eql (.slen 30) (.lit 0)) (.to 2 ⟨86, 89, [(86, 86), (87, 87), (88, 88)]⟩ [.str [.var 6] [.var 6], .int (.rlen 23) (.rlen 23), .int (.var 0) (.add (.var 0) (.lit 1)), .int (.rlen 23) (.rlen 23), .row 23 2 (some ((.v 23), 2)) [], .peek 23 (.var 0) [.str [.var 30], .int .i64 (.var 31)], .int (.rlen 10) (.rlen 10), .str [.var 6] [.var 6], .str [.var 31] [.var 31], .int (.slen 31) (.slen 31)]) (.fork (.cmp .eql (.var 31) (.lit 1)) (.to 2 ⟨86, 89, [(86, 86), (87, 87), (88, 91)]⟩ [.str [.var 6] [.var 6], .int (.rlen 23) (.rlen 23), .int (.var 0) (.add (.var 0) (.lit 1)), .int (.rlen 23) (.rlen 23), .row 23 2 (some ((.v 23), 2)) [], .peek 23 (.var 0) [.str [.var 30], .int .i64 (.var 31)], .int (.rlen 10) (.rlen 10), .str [.var 6] [.var 6], .str [.var 31] [.var 31, .var 32], .int (.slen 31) (.add (.slen 31) (.slen 32))]) .no)))) (.fin ⟨86, 87, [(86, 91)]⟩ [.int (.rlen 22) (.lit 1), .int (.rlen 10) (.rlen 10), .str [.var 6] [.var 6], .row 22 1 none [.str [.var 31]], .peek 22 (.lit 0) [.str [.var 41]]]))
noncomputable def wao3 : OT := (.fork (.cmp .lss (.var 0) (.rlen 23)) (.fork (.cmp .eql (.var 31) (.lit 3)) (.to 3 ⟨86, 89, [(86, 86), (87, 87), (88, 88)]⟩ [.str [.var 6] [.var 6], .int (.rlen 23) (.rlen 23), .int (.var 0) (.add (.var 0) (.lit 1)), .int (.rlen 23) (.rlen 23), .row 23 2 (some ((.v 23), 2)) [], .peek 23 (.var 0) [.str [.var 30], .int .i64 (.var 31)], .int (.rlen 10) (.rlen 10), .str [.var 6] [.var 6], .row 40 1 (some ((.v 40), 1)) [], .int (.rlen 40) (.rlen 40)]) (.fork (.cmp .eql (.var 31) (.lit 4)) (.to 4 ⟨86, 89, [(86, 86), (87, 87), (88, 88)]⟩ [.str [.var 6] [.var 6], .int (.rlen 23) (.rlen 23), .int (.var 0) (.add (.var 0) (.lit 1)), .int (.rlen 23) (.rlen 23), .row 23 2 (some ((.v 23), 2)) [], .peek 23 (.var 0) [.str [.var 30], .int .i64 (.var 31)], .int (.rlen 10) (.rlen 10), .str [.var 6] [.var 6], .row 40 1 (some ((.v 40), 1)) [], .int (.rlen 40) (.rlen 40)]) (.fork (.cmp .eql (.slen 30) (.lit 0)) (.to 3 ⟨86, 89, [(86, 86), (87, 87), (88, 88)]⟩ [.str [.var 6] [.var 6], .int (.rlen 23) (.rlen 23), .int (.var 0) (.add (.var 0) (.lit 1)), .int (.rlen 23) (.rlen 23), .row 23 2 (some ((.v 23), 2)) [], .peek 23 (.var 0) [.str [.var 30], .int .i64 (.var 31)], .int (.rlen 10) (.rlen 10), .str [.var 6] [.var 6], .row 40 1 (some ((.v 40), 1)) [], .int (.rlen 40) (.rlen 40)]) (.fork (.cmp .eql (.var 31) (.lit 1)) (.to 5 ⟨86, 90, [(86, 86), (87, 87), (88, 88), (89, 91)]⟩ [.str [.var 6] [.var 6], .int (.rlen 23) (.rlen 23), .int (.var 0) (.add (.var 0) (.lit 1)), .int (.rlen 23) (.rlen 23), .row 23 2 (some ((.v 23), 2)) [], .peek 23 (.var 0) [.str [.var 30], .int .i64 (.var 31)], .int (.rlen 10) (.rlen 10), .str [.var 6] [.var 6], .str [.var 31] [.var 32], .row 40 1 (some ((.v 40), 1)) [], .int (.rlen 40) (.rlen 40), .int (.slen 31) (.slen 32)]) .no)))) (.fin ⟨86, 87, [(86, 88)]⟩ [.int (.rlen 22) (.rlen 40), .int (.rlen 10) (.rlen 10), .str [.var 6] [.var 6], .row 22 1 (some ((.v 40), 1)) [], .peek 22 (.lit 0) [.str [.var 41]]]))
noncomputable def wao4 : OT := (.fork (.cmp .lss (.var 0) (.rlen 23)) (.fork (.cmp .eql (.var 31) (.lit 3)) (.to 3 ⟨86, 89, [(86, 86), (87, 87), (88, 92)]⟩ [.str [.var 6] [.var 6], .int (.rlen 23) (.rlen 23), .int (.var 0) (.add (.var 0) (.lit 1)), .int (.rlen 23) (.rlen 23), .row 23 2 (some ((.v 23), 2)) [], .peek 23 (.var 0) [.str [.var 30], .int .i64 (.var 31)], .int (.rlen 10) (.rlen 10), .str [.var 6] [.var 6], .row 40 1 (some ((.v 40), 1)) [.str []], .int (.rlen 40) (.add (.rlen 40) (.lit 1))]) (.fork (.cmp .eql (.var 31) (.lit 4)) (.to 4 ⟨86, 89, [(86, 86), (87, 87), (88, 88)]⟩ [.str [.var 6] [.var 6], .int (.rlen 23) (.rlen 23), .int (.var 0) (.add (.var 0) (.lit 1)), .int (.rlen 23) (.rlen 23), .row 23 2 (some ((.v 23), 2)) [], .peek 23 (.var 0) [.str [.var 30], .int .i64 (.var 31)], .int (.rlen 10) (.rlen 10), .str [.var 6] [.var 6], .row 40 1 (some ((.v 40), 1)) [], .int (.rlen 40) (.rlen 40)]) (.fork (.cmp .eql (.slen 30) (.lit 0)) (.to 4 ⟨86, 89, [(86, 86), (87, 87), (88, 88)]⟩ [.str [.var 6] [.var 6], .int (.rlen 23) (.rlen 23), .int (.var 0) (.add (.var 0) (.lit 1)), .int (.rlen 23) (.rlen 23), .row 23 2 (some ((.v 23), 2)) [], .peek 23 (.var 0) [.str [.var 30], .int .i64 (.var 31)], .int (.rlen 10) (.rlen 10), .str [.var 6] [.var 6], .row 40 1 (some ((.v 40), 1)) [], .int (.rlen 40) (.rlen 40)]) (.fork (.cmp .eql (.var 31) (.lit 1)) (.to 5 ⟨86, 90, [(86, 86), (87, 87), (88, 88), (89, 91)]⟩ [.str [.var 6] [.var 6], .int (.rlen 23) (.rlen 23), .int (.var 0) (.add (.var 0) (.lit 1)), .int (.rlen 23) (.rlen 23), .row 23 2 (some ((.v 23), 2)) [], .peek 23 (.var 0) [.str [.var 30], .int .i64 (.var 31)], .int (.rlen 10) (.rlen 10), .str [.var 6] [.var 6], .str [.var 31] [.var 32], .row 40 1 (some ((.v 40), 1)) [], .int (.rlen 40) (.rlen 40), .int (.slen 31) (.slen 32)]) .no)))) (.fin ⟨86, 87, [(86, 91)]⟩ [.int (.rlen 22) (.add (.rlen 40) (.lit 1)), .int (.rlen 10) (.rlen 10), .str [.var 6] [.var 6], .row 22 1 (some ((.v 40), 1)) [.str []], .peek 22 (.lit 0) [.str [.var 41]]]))
noncomputable def wao5 : OT := (.fork (.cmp .lss (.var 0) (.rlen 23)) (.fork (.cmp .eql (.var 31) (.lit 3)) (.to 3 ⟨86, 89, [(86, 86), (87, 87), (88, 93)]⟩ [.str [.var 6] [.var 6], .int (.rlen 23) (.rlen 23), .int (.var 0) (.add (.var 0) (.lit 1)), .int (.rlen 23) (.rlen 23), .row 23 2 (some ((.v 23), 2)) [], .peek 23 (.var 0) [.str [.var 30], .int .i64 (.var 31)], .int (.rlen 10) (.rlen 10), .str [.var 6] [.var 6], .row 40 1 (some ((.v 40), 1)) [.str [.var 31]], .int (.rlen 40) (.add (.rlen 40) (.lit 1))]) (.fork (.cmp .eql (.var 31) (.lit 4)) (.to 5 ⟨86, 90, [(86, 86), (87, 87), (88, 88), (89, 89)]⟩ [.str [.var 6] [.var 6], .int (.rlen 23) (.rlen 23), .int (.var 0) (.add (.var 0) (.lit 1)), .int (.rlen 23) (.rlen 23), .row 23 2 (some ((.v 23), 2)) [], .peek 23 (.var 0) [.str [.var 30], .int .i64 (.var 31)], .int (.rlen 10) (.rlen 10), .str [.var 6] [.var 6], .str [.var 31] [.var 31], .row 40 1 (some ((.v 40), 1)) [], .int (.rlen 40) (.rlen 40), .int (.slen 31) (.slen 31)]) (.fork (.cmp .eql (.slen 30) (.lit 0)) (.to 5 ⟨86, 90, [(86, 86), (87, 87), (88, 88), (89, 89)]⟩ [.str [.var 6] [.var 6], .int (.rlen 23) (.rlen 23), .int (.var 0) (.add (.var 0) (.lit 1)), .int (.rlen 23) (.rlen 23), .row 23 2 (some ((.v 23), 2)) [], .peek 23 (.var 0) [.str [.var 30], .int .i64 (.var 31)], .int (.rlen 10) (.rlen 10), .str [.var 6] [.var 6], .str [.var 31] [.var 31], .row 40 1 (some ((.v 40), 1)) [], .int (.rlen 40) (.rlen 40), .int (.slen 31) (.slen 31)]) (.fork (.cmp .eql (.var 31) (.lit 1)) (.to 5 ⟨86, 90, [(86, 86), (87, 87), (88, 88), (89, 92)]⟩ [.str [.var 6] [.var 6], .int (.rlen 23) (.rlen 23), .int (.var 0) (.add (.var 0) (.lit 1)), .int (.rlen 23) (.rlen 23), .row 23 2 (some ((.v 23), 2)) [], .peek 23 (.var 0) [.str [.var 30], .int .i64 (.var 31)], .int (.rlen 10) (.rlen 10), .str [.var 6] [.var 6], .str [.var 31] [.var 31, .var 32], .row 40 1 (some ((.v 40), 1)) [], .int (.rlen 40) (.rlen 40), .int (.slen 31) (.add (.slen 31) (.slen 32))]) .no)))) (.fin ⟨86, 87, [(86, 92)]⟩ [.int (.rlen 22) (.add (.rlen 40) (.lit 1)), .int (.rlen 10) (.rlen 10), .str [.var 6] [.var 6], .row 22 1 (some ((.v 40), 1)) [.str [.var 31]], .peek 22 (.lit 0) [.str [.var 41]]]))
noncomputable def waG : Graph := { tg := pick watg, stop := (stopAny [(28, (0, 8))]), n := (fun _ => 3000), pl := fun k => ([wao0, wao1, wao2, wao3, wao4, wao5].getD k .no).plan, o := fun k => [wao0, wao1, wao2, wao3, wao4, wao5].getD k .no, v := .slice 86 0 (.rlen 22) .full, h := (hpOf [(73, .cells false none [.str [.lit [73, 70, 83]], .str [.var 6], .bool (.lit false), .bool (.lit false)] 61), (81, .cells false none [.slice 73 0 (.lit 1) (.rest 4), .slice 64 0 (.rlen 10) (.rest 1), .str [], .int .i64 (.lit 0), .int .i64 (.lit 0), .int .i64 (.lit 0), .str [], .nilSlice, .nilSlice, .int .i64 (.lit 0)] 64), (86, .rowv false 22 1 (.lit 0) [.str [.var 41]] 9)] 87), f := 28, N := 86 }
theorem waat0 : waG.At waC 0 := ⟨by kernel_rfl, by kernel_rfl, by kernel_rfl⟩
theorem waat1 : waG.At waC 1 := ⟨by kernel_rfl, by kernel_rfl, by kernel_rfl⟩
theorem waat2 : waG.At waC 2 := ⟨by kernel_rfl, by kernel_rfl, by kernel_rfl⟩
theorem waat3 : waG.At waC 3 := ⟨by kernel_rfl, by kernel_rfl, by kernel_rfl⟩
theorem waat4 : waG.At waC 4 := ⟨by kernel_rfl, by kernel_rfl, by kernel_rfl⟩
theorem waat5 : waG.At waC 5 := ⟨by kernel_rfl, by kernel_rfl, by kernel_rfl⟩
theorem waf0 : (waG.tg 0).facts = [(.cmp .geq (.rlen 10) (.lit 1), true), (.cmp .leq (.rlen 10) (.lit 63), true), (.cmp .leq (.var 21) (.lit 3000), true), (.cmp .geq (.var 21) (.lit 0), true), (.cmp .leq (.rlen 21) (.lit 200), true), (.cmp .geq (.rlen 21) (.lit 1), true)] := by kernel_rfl
theorem waf1 : (waG.tg 1).facts = [(.cmp .geq (.var 0) (.lit 1), true), (.cmp .leq (.var 0) (.rlen 23), true), (.cmp .leq (.rlen 23) (.lit 300), true), (.cmp .leq (.slen 30) (.lit 3000), true), (.cmp .leq (.slen 32) (.lit 6000), true), (.cmp .geq (.slen 32) (.slen 30), true), (.cmp .geq (.var 31) (.lit 1), true), (.cmp .leq (.var 31) (.lit 4), true), (.cmp .eql (.var 31) (.lit 2), false)] := by kernel_rfl
theorem waf2 : (waG.tg 2).facts = [(.cmp .geq (.var 0) (.lit 1), true), (.cmp .leq (.var 0) (.rlen 23), true), (.cmp .leq (.rlen 23) (.lit 300), true), (.cmp .leq (.slen 30) (.lit 3000), true), (.cmp .leq (.slen 32) (.lit 6000), true), (.cmp .geq (.slen 32) (.slen 30), true), (.cmp .geq (.var 31) (.lit 1), true), (.cmp .leq (.var 31) (.lit 4), true), (.cmp .eql (.var 31) (.lit 2), false), (.cmp .geq (.slen 31) (.lit 1), true), (.cmp .leq (.slen 31) (.lit 9000), true)] := by kernel_rfl
theorem waf3 : (waG.tg 3).facts = [(.cmp .geq (.var 0) (.lit 1), true), (.cmp .leq (.var 0) (.rlen 23), true), (.cmp .leq (.rlen 23) (.lit 300), true), (.cmp .leq (.slen 30) (.lit 3000), true), (.cmp .leq (.slen 32) (.lit 6000), true), (.cmp .geq (.slen 32) (.slen 30), true), (.cmp .geq (.var 31) (.lit 1), true), (.cmp .leq (.var 31) (.lit 4), true), (.cmp .eql (.var 31) (.lit 2), false), (.cmp .geq (.rlen 40) (.lit 1), true), (.cmp .leq (.rlen 40) (.lit 63), true)] := by kernel_rfl
theorem waf4 : (waG.tg 4).facts = [(.cmp .geq (.var 0) (.lit 1), true), (.cmp .leq (.var 0) (.rlen 23), true), (.cmp .leq (.rlen 23) (.lit 300), true), (.cmp .leq (.slen 30) (.lit 3000), true), (.cmp .leq (.slen 32) (.lit 6000), true), (.cmp .geq (.slen 32) (.slen 30), true), (.cmp .geq (.var 31) (.lit 1), true), (.cmp .leq (.var 31) (.lit 4), true), (.cmp .eql (.var 31) (.lit 2), false), (.cmp .geq (.rlen 40) (.lit 1), true), (.cmp .leq (.rlen 40) (.lit 63), true)] := by kernel_rfl
theorem waf5 : (waG.tg 5).facts = [(.cmp .geq (.var 0) (.lit 1), true), (.cmp .leq (.var 0) (.rlen 23), true), (.cmp .leq (.rlen 23) (.lit 300), true), (.cmp .leq (.slen 30) (.lit 3000), true), (.cmp .leq (.slen 32) (.lit 6000), true), (.cmp .geq (.slen 32) (.slen 30), true), (.cmp .geq (.var 31) (.lit 1), true), (.cmp .leq (.var 31) (.lit 4), true), (.cmp .eql (.var 31) (.lit 2), false), (.cmp .geq (.rlen 40) (.lit 1), true), (.cmp .leq (.rlen 40) (.lit 63), true), (.cmp .geq (.slen 31) (.lit 1), true), (.cmp .leq (.slen 31) (.lit 9000), true)] := by kernel_rfl
theorem wast : startF waC [(.cmp .geq (.rlen 10) (.lit 1), true), (.cmp .leq (.rlen 10) (.lit 63), true), (.cmp .leq (.var 21) (.lit 3000), true), (.cmp .geq (.var 21) (.lit 0), true), (.cmp .leq (.rlen 21) (.lit 200), true), (.cmp .geq (.rlen 21) (.lit 1), true)] 28 [.ptr 77 0, .ptr 82 0] (hpOf [(64, .cells true (some (.v 10, 1)) [] 9), (73, .cells false none [.str [.lit [73, 70, 83]], .str [.var 6], .bool (.lit false), .bool (.lit false)] 61), (76, .cells false none [.str [.lit [34, 36, 64, 34]]] 9), (77, .cells false none [.slice 76 0 (.lit 1) (.known 1)] 22), (81, .cells false none [.slice 73 0 (.lit 1) (.rest 4), .slice 64 0 (.rlen 10) (.rest 1), .str [], .int .i64 (.lit 0), .int .i64 (.lit 0), .int .i64 (.lit 0), .str [], .nilSlice, .nilSlice, .int .i64 (.lit 0)] 64), (82, .cells false none [.ptr 81 0] 62)] 86) = some (waG.tg 0) := by kernel_rfl
end Go.Sx
