import Derived.Test.YtanpkoghglnphaaGreatDoorSxH
import Derived.Test.YtanpkoghglnphaaGreatDoorCtx
import Derived.Test.YtanpkoghglnphaaGreatDoorStarA
import Derived.Test.YtanpkoghglnphaaGreatDoorShown
namespace Go.Sx
open Go.Proofs
set_option maxRecDepth 1000000

noncomputable def ulC : Ctx := ctxOf Tryz.prog lies18 exts18 [] []
noncomputable def ultg : List AM := [st ulC 109 [.ptr 75 0, .ptr 87 0, .str [.lit [42]], .bool (.lit true)] (hpOf [(64, .rowv true 10 1 (.lit 0) [.str [.var 40]] 9), (75, .cells false none [.nilSlice, .slice 64 0 (.rlen 10) (.rest 1), .str [], .int .i64 (.lit 0), .int .i64 (.lit 0), .int .i64 (.lit 0), .str [], .nilSlice, .nilSlice, .int .i64 (.lit 0)] 64), (87, .cells false none [.nilSlice, .int .i64 (.lit 0)] 77)] 91) [(.cmp .geq (.rlen 10) (.lit 1), true), (.cmp .leq (.rlen 10) (.lit 20), true), (.cmp .leq (.slen 40) (.lit 100), true)],
    nd ulC 109 0 [(1, .ptr 87 0), (9, .str [.var 7]), (20, .slice 64 0 (.rlen 10) (.rest 1)), (40, .slice 64 0 (.rlen 10) (.rest 1)), (41, .int .i64 (.rlen 10)), (42, .int .i64 (.var 0))]
      [(64, .rowv true 10 1 (.var 0) [.str [.var 9]] 9), (75, .cells false none [.nilSlice, .slice 64 0 (.rlen 10) (.rest 1), .str [], .int .i64 (.lit 0), .int .i64 (.lit 0), .int .i64 (.lit 0), .str [], .nilSlice, .nilSlice, .int .i64 (.lit 0)] 64), (87, .cells false none [.slice 91 0 (.rlen 11) (.rest 2), .int .i64 (.var 1)] 77), (91, .cells false (some (.v 11, 2)) [] 79)] 92
      [(.cmp .geq (.var 0) (.lit 1), true), (.cmp .leq (.var 0) (.rlen 10), true), (.cmp .leq (.rlen 10) (.lit 20), true), (.cmp .leq (.slen 7) (.lit 1), true), (.cmp .leq (.slen 9) (.lit 100), true), (.cmp .geq (.var 1) (.lit 0), true), (.cmp .leq (.var 1) (.lit 3000), true), (.cmp .leq (.rlen 11) (.lit 1000), true), (.cmp .geq (.rlen 11) (.lit 1), true)]]
noncomputable def ulo0 : OT := (.to 1 ⟨91, 92, [(91, 94)]⟩ [.str [.var 7] [.lit [32]], .int (.rlen 10) (.rlen 10), .int (.rlen 10) (.rlen 10), .int (.rlen 10) (.rlen 10), .int (.var 0) (.lit 1), .int (.rlen 11) (.lit 1), .int (.var 1) (.slen 40), .int (.rlen 10) (.rlen 10), .row 11 2 none [.str [.var 40], .int .i64 (.lit 1)], .row 10 1 (some ((.v 10), 1)) [], .peek 10 (.var 0) [.str [.var 9]]])
noncomputable def ulo1 : OT := (.fork (.cmp .lss (.var 0) (.rlen 10)) (.to 1 ⟨91, 92, [(91, 95)]⟩ [.str [.var 7] [.var 7], .int (.rlen 10) (.rlen 10), .int (.rlen 10) (.rlen 10), .int (.rlen 10) (.rlen 10), .int (.var 0) (.add (.var 0) (.lit 1)), .int (.rlen 11) (.add (.add (.rlen 11) (.lit 1)) (.lit 1)), .int (.var 1) (.add (.add (.var 1) (.slen 7)) (.slen 9)), .int (.rlen 10) (.rlen 10), .row 11 2 (some ((.v 11), 2)) [.str [.var 7], .int .i64 (.lit 1), .str [.var 9], .int .i64 (.lit 1)], .row 10 1 (some ((.v 10), 1)) [], .peek 10 (.var 0) [.str [.var 9]]]) (.fin ⟨91, 92, [(91, 91)]⟩ [.int (.rlen 21) (.rlen 11), .int (.var 21) (.var 1), .int (.rlen 10) (.rlen 10), .row 21 2 (some ((.v 11), 2)) []]))
noncomputable def ulG : Graph := { tg := pick ultg, stop := stopAny [(109, (0, 4))], n := fun _ => 800, pl := fun k => ([ulo0, ulo1].getD k .no).plan, o := fun k => [ulo0, ulo1].getD k .no, v := .tup [], h := (hpOf [(75, .cells false none [.nilSlice, .slice 64 0 (.rlen 10) (.rest 1), .str [], .int .i64 (.lit 0), .int .i64 (.lit 0), .int .i64 (.lit 0), .str [], .nilSlice, .nilSlice, .int .i64 (.lit 0)] 64), (87, .cells false none [.slice 91 0 (.rlen 21) (.rest 2), .int .i64 (.var 21)] 77), (91, .cells false (some (.v 21, 2)) [] 79)] 92), f := 109, N := 91 }
theorem ulat0 : ulG.At ulC 0 := ⟨by kernel_rfl, by kernel_rfl, by kernel_rfl⟩
theorem ulat1 : ulG.At ulC 1 := ⟨by kernel_rfl, by kernel_rfl, by kernel_rfl⟩
theorem ulf0 : (ulG.tg 0).facts = [(.cmp .geq (.rlen 10) (.lit 1), true), (.cmp .leq (.rlen 10) (.lit 20), true), (.cmp .leq (.slen 40) (.lit 100), true)] := by kernel_rfl
theorem ulf1 : (ulG.tg 1).facts = [(.cmp .geq (.var 0) (.lit 1), true), (.cmp .leq (.var 0) (.rlen 10), true), (.cmp .leq (.rlen 10) (.lit 20), true), (.cmp .leq (.slen 7) (.lit 1), true), (.cmp .leq (.slen 9) (.lit 100), true), (.cmp .geq (.var 1) (.lit 0), true), (.cmp .leq (.var 1) (.lit 3000), true), (.cmp .leq (.rlen 11) (.lit 1000), true), (.cmp .geq (.rlen 11) (.lit 1), true)] := by kernel_rfl
theorem ulst : startF ulC [(.cmp .geq (.rlen 10) (.lit 1), true), (.cmp .leq (.rlen 10) (.lit 20), true), (.cmp .leq (.slen 40) (.lit 100), true)] 109 [.ptr 75 0, .ptr 87 0, .str [.lit [42]], .bool (.lit true)] (hpOf [(64, .rowv true 10 1 (.lit 0) [.str [.var 40]] 9), (75, .cells false none [.nilSlice, .slice 64 0 (.rlen 10) (.rest 1), .str [], .int .i64 (.lit 0), .int .i64 (.lit 0), .int .i64 (.lit 0), .str [], .nilSlice, .nilSlice, .int .i64 (.lit 0)] 64), (87, .cells false none [.nilSlice, .int .i64 (.lit 0)] 77)] 91) = some (ulG.tg 0) := by kernel_rfl
end Go.Sx
namespace Go.Sx
open Go.Proofs
set_option maxRecDepth 100000
noncomputable def o_ul : Orc := { facts := [], f := 109, args := [.ptr 75 0, .ptr 87 0, .str [.lit [42]], .bool (.lit true)], pre := [(64, .cells true (some (.v 10, 1)) [] 9), (75, .cells false none [.nilSlice, .slice 64 0 (.rlen 10) (.rest 1), .str [], .int .i64 (.lit 0), .int .i64 (.lit 0), .int .i64 (.lit 0), .str [], .nilSlice, .nilSlice, .int .i64 (.lit 0)] 64), (87, .cells false none [.nilSlice, .int .i64 (.lit 0)] 77)], next := 91, v := .tup [], post := [(75, .cells false none [.nilSlice, .slice 64 0 (.rlen 10) (.rest 1), .str [], .int .i64 (.lit 0), .int .i64 (.lit 0), .int .i64 (.lit 0), .str [], .nilSlice, .nilSlice, .int .i64 (.lit 0)] 64), (87, .cells false none [.slice 91 0 (.rlen 21) (.rest 2), .int .i64 (.var 21)] 77), (91, .cells false (some (.v 21, 2)) [] 79)], next' := 92 }
theorem ulC_ok {ρ : Env} : CtxOK ulC Tryz.prog ρ := ctx18 orcs_nil pors_nil
theorem ul_ok {A : List (List UInt8)} {ifs by' : List UInt8} {ρ : Env} (L : LC A ifs by' ρ) (hby : by' = [32]) : OrcOK Tryz.prog ρ o_ul := by
  have hA0 : 1 ≤ A.length := by
    cases h : A with
    | nil => exact absurd h L.ne
    | cons a l => simp
  refine orc_of_graph (G := ulG) (C := ulC) (I := aI A by' ρ) (μ := aμ A) (l0 := [(64, .rowv true 10 1 (.lit 0) [.str [.var 40]] 9), (75, .cells false none [.nilSlice, .slice 64 0 (.rlen 10) (.rest 1), .str [], .int .i64 (.lit 0), .int .i64 (.lit 0), .int .i64 (.lit 0), .str [], .nilSlice, .nilSlice, .int .i64 (.lit 0)] 64), (87, .cells false none [.nilSlice, .int .i64 (.lit 0)] 77)])
    (fun _ _ _ => ulC_ok) ?_ ?_ ?_ rfl ulst rfl rfl rfl rfl (by decide) (by kernel_rfl) ?_
  · intro k ρ' hi
    match k, hi with
    | 0, hi =>
      subst hi
      rw [ulf0]
      have := each_getD L.each 0
      intro p hp
      simp only [List.mem_cons, List.not_mem_nil, or_false] at hp
      rcases hp with rfl | rfl | rfl <;> simp [SB.den, SI.den, intCmp, ltInt_iff, L.rows, L.first, rows1] <;> (try simp [List.getD] at this) <;> (have := L.len; omega)
    | 1, hi =>
      obtain ⟨i, h1, h2, rfl⟩ := hi
      rw [ulf1]
      have e1 := each_getD L.each i
      have e2 := starR_len by' (A.take i)
      have e3 := starN_le by' L.by1 (A.take i) (fun a ha => L.each a (List.mem_of_mem_take ha))
      have e4 := e2.2 (take_ne L.ne h1)
      have e5 := L.len
      have e6 := L.by1
      have e7 : (A.take i).length = i := by rw [List.length_take]; omega
      rw [e7] at e2 e3
      intro p hp
      simp only [List.mem_cons, List.not_mem_nil, or_false] at hp
      rcases hp with rfl | rfl | rfl | rfl | rfl | rfl | rfl | rfl | rfl <;> simp only [SB.den, SI.den, intCmp, ltInt_iff, aE, setI_int, setI_rows, setI_str, setR_int, setR_rows, setR_str, setS_int, setS_rows, setS_str, L.rows, rows1, List.length_map, Option.getD_some, Bool.not_eq_true', decide_eq_false_iff_not] <;> simp <;> (try simp [List.getD] at e1) <;> omega
  · intro k ρ' hi
    match k, hi with
    | 0, _ => exact ulat0
    | 1, _ => exact ulat1
  · intro k ρ' hi
    match k, hi with
    | 0, hi =>
      subst hi
      show OTok _ _ _ 0 ρ' ulo0
      simp only [ulo0, OTok]
      have ht : A.take 1 = [A.getD 0 []] := by
        cases h : A with
        | nil => exact absurd h L.ne
        | cons a l => rfl
      refine ⟨aE A by' ρ' 1, ?_, ⟨1, by omega, hA0, rfl⟩, by simp [aμ, aE, setS_int, setR_int, setI_int]⟩
      simp [Eqns, Eqn.ok, aE, SI.den, SS.den, SP.den, setI_int, setI_rows, setR_int, setR_rows, setS_int, setS_rows, setS_str, preCells, RX.flat, RX.ok, AV.val, L.rows, L.first, ht, starR, starN, qrow, vstr, hby]
      repeat' apply And.intro
      all_goals first | exact rows1_ok A | rfl | (intro xs hx; simpa [vstr, List.getD] using rows1_get hx)
    | 1, hi =>
      obtain ⟨i, h1, h2, rfl⟩ := hi
      show OTok _ _ _ 1 _ ulo1
      simp only [ulo1, OTok]
      refine ⟨fun h => ?_, fun h => ?_⟩
      · 
        have hlt : i < A.length := by
          simp [SB.den, SI.den, intCmp, ltInt_iff, aE, setS_int, setR_int, setI_int, setS_rows, setR_rows, setI_rows, L.rows, rows1] at h
          omega
        have hne := take_ne L.ne h1
        have ht := take_getD hlt
        refine ⟨aE A by' ρ (i + 1), ?_, ⟨i + 1, by omega, by omega, rfl⟩, by simp [aμ, aE, setS_int, setR_int, setI_int]; omega⟩
        simp [Eqns, Eqn.ok, aE, SI.den, SS.den, SP.den, setI_int, setI_rows, setI_str, setR_int, setR_rows, setR_str, setS_int, setS_rows, setS_str, preCells, RX.flat, RX.ok, AV.val, L.rows, L.first, L.star, L.starn, ht, starR_snoc _ hne, starN_snoc _ hne]
        have hst := starR_ok by' (A.take (i + 1))
        rw [ht, starR_snoc _ hne] at hst
        repeat' apply And.intro
        all_goals first | exact rows1_ok A | rfl | omega | (intro xs hx; simpa [vstr, List.getD] using rows1_get hx) | simpa using hst
      · 
        have hlt : i = A.length := by
          simp [SB.den, SI.den, intCmp, ltInt_iff, aE, setS_int, setR_int, setI_int, setS_rows, setR_rows, setI_rows, L.rows, rows1] at h
          omega
        refine ⟨ρ, ?_, rfl⟩
        subst hlt
        simp [Eqns, Eqn.ok, aE, SI.den, SS.den, SP.den, setI_int, setI_rows, setI_str, setR_int, setR_rows, setR_str, setS_int, setS_rows, setS_str, preCells, RX.flat, RX.ok, AV.val, L.rows, L.first, L.star, L.starn]
        exact starR_ok by' A
  · 
    refine ⟨rfl, .inr ⟨_, _, _, _, _, _, rfl, rfl, rfl, by simp [SI.den], ?_⟩, RefL.refl ρ _⟩
    intro xs hx
    simp only [SI.den, L.rows] at hx
    rw [rows1_get hx]
    simp [AV.val, SS.den, SP.den, L.first, vstr]
end Go.Sx
namespace Go.Sx
open Go.Proofs
set_option maxRecDepth 1000000

noncomputable def unC : Ctx := ctxOf Tryz.prog lies18 exts18 [] []
noncomputable def untg : List AM := [st unC 109 [.ptr 107 0, .ptr 120 0, .str [.lit [42]], .bool (.lit true)] (hpOf [(64, .rowv true 10 1 (.lit 0) [.str [.var 40]] 9), (107, .cells false none [.nilSlice, .slice 64 0 (.rlen 10) (.rest 1), .str [], .int .i64 (.lit 0), .int .i64 (.lit 0), .int .i64 (.lit 0), .str [], .nilSlice, .nilSlice, .int .i64 (.lit 0)] 64), (120, .cells false none [.nilSlice, .int .i64 (.lit 0)] 77)] 124) [(.cmp .geq (.rlen 10) (.lit 1), true), (.cmp .leq (.rlen 10) (.lit 20), true), (.cmp .leq (.slen 40) (.lit 100), true)],
    nd unC 109 0 [(1, .ptr 120 0), (9, .str [.var 7]), (20, .slice 64 0 (.rlen 10) (.rest 1)), (40, .slice 64 0 (.rlen 10) (.rest 1)), (41, .int .i64 (.rlen 10)), (42, .int .i64 (.var 0))]
      [(64, .rowv true 10 1 (.var 0) [.str [.var 9]] 9), (107, .cells false none [.nilSlice, .slice 64 0 (.rlen 10) (.rest 1), .str [], .int .i64 (.lit 0), .int .i64 (.lit 0), .int .i64 (.lit 0), .str [], .nilSlice, .nilSlice, .int .i64 (.lit 0)] 64), (120, .cells false none [.slice 124 0 (.rlen 11) (.rest 2), .int .i64 (.var 1)] 77), (124, .cells false (some (.v 11, 2)) [] 79)] 125
      [(.cmp .geq (.var 0) (.lit 1), true), (.cmp .leq (.var 0) (.rlen 10), true), (.cmp .leq (.rlen 10) (.lit 20), true), (.cmp .leq (.slen 7) (.lit 1), true), (.cmp .leq (.slen 9) (.lit 100), true), (.cmp .geq (.var 1) (.lit 0), true), (.cmp .leq (.var 1) (.lit 3000), true), (.cmp .leq (.rlen 11) (.lit 1000), true), (.cmp .geq (.rlen 11) (.lit 1), true)]]
noncomputable def uno0 : OT := (.to 1 ⟨124, 125, [(124, 127)]⟩ [.str [.var 7] [.lit [32]], .int (.rlen 10) (.rlen 10), .int (.rlen 10) (.rlen 10), .int (.rlen 10) (.rlen 10), .int (.var 0) (.lit 1), .int (.rlen 10) (.rlen 10), .row 10 1 (some ((.v 10), 1)) [], .peek 10 (.var 0) [.str [.var 9]], .int (.rlen 11) (.lit 1), .int (.var 1) (.slen 40), .row 11 2 none [.str [.var 40], .int .i64 (.lit 1)]])
noncomputable def uno1 : OT := (.fork (.cmp .lss (.var 0) (.rlen 10)) (.to 1 ⟨124, 125, [(124, 128)]⟩ [.str [.var 7] [.var 7], .int (.rlen 10) (.rlen 10), .int (.rlen 10) (.rlen 10), .int (.rlen 10) (.rlen 10), .int (.var 0) (.add (.var 0) (.lit 1)), .int (.rlen 10) (.rlen 10), .row 10 1 (some ((.v 10), 1)) [], .peek 10 (.var 0) [.str [.var 9]], .int (.rlen 11) (.add (.add (.rlen 11) (.lit 1)) (.lit 1)), .int (.var 1) (.add (.add (.var 1) (.slen 7)) (.slen 9)), .row 11 2 (some ((.v 11), 2)) [.str [.var 7], .int .i64 (.lit 1), .str [.var 9], .int .i64 (.lit 1)]]) (.fin ⟨124, 125, [(124, 124)]⟩ [.int (.rlen 10) (.rlen 10), .int (.rlen 21) (.rlen 11), .int (.var 21) (.var 1), .row 21 2 (some ((.v 11), 2)) []]))
noncomputable def unG : Graph := { tg := pick untg, stop := stopAny [(109, (0, 4))], n := fun _ => 800, pl := fun k => ([uno0, uno1].getD k .no).plan, o := fun k => [uno0, uno1].getD k .no, v := .tup [], h := (hpOf [(107, .cells false none [.nilSlice, .slice 64 0 (.rlen 10) (.rest 1), .str [], .int .i64 (.lit 0), .int .i64 (.lit 0), .int .i64 (.lit 0), .str [], .nilSlice, .nilSlice, .int .i64 (.lit 0)] 64), (120, .cells false none [.slice 124 0 (.rlen 21) (.rest 2), .int .i64 (.var 21)] 77), (124, .cells false (some (.v 21, 2)) [] 79)] 125), f := 109, N := 124 }
theorem unat0 : unG.At unC 0 := ⟨by kernel_rfl, by kernel_rfl, by kernel_rfl⟩
theorem unat1 : unG.At unC 1 := ⟨by kernel_rfl, by kernel_rfl, by kernel_rfl⟩
theorem unf0 : (unG.tg 0).facts = [(.cmp .geq (.rlen 10) (.lit 1), true), (.cmp .leq (.rlen 10) (.lit 20), true), (.cmp .leq (.slen 40) (.lit 100), true)] := by kernel_rfl
theorem unf1 : (unG.tg 1).facts = [(.cmp .geq (.var 0) (.lit 1), true), (.cmp .leq (.var 0) (.rlen 10), true), (.cmp .leq (.rlen 10) (.lit 20), true), (.cmp .leq (.slen 7) (.lit 1), true), (.cmp .leq (.slen 9) (.lit 100), true), (.cmp .geq (.var 1) (.lit 0), true), (.cmp .leq (.var 1) (.lit 3000), true), (.cmp .leq (.rlen 11) (.lit 1000), true), (.cmp .geq (.rlen 11) (.lit 1), true)] := by kernel_rfl
theorem unst : startF unC [(.cmp .geq (.rlen 10) (.lit 1), true), (.cmp .leq (.rlen 10) (.lit 20), true), (.cmp .leq (.slen 40) (.lit 100), true)] 109 [.ptr 107 0, .ptr 120 0, .str [.lit [42]], .bool (.lit true)] (hpOf [(64, .rowv true 10 1 (.lit 0) [.str [.var 40]] 9), (107, .cells false none [.nilSlice, .slice 64 0 (.rlen 10) (.rest 1), .str [], .int .i64 (.lit 0), .int .i64 (.lit 0), .int .i64 (.lit 0), .str [], .nilSlice, .nilSlice, .int .i64 (.lit 0)] 64), (120, .cells false none [.nilSlice, .int .i64 (.lit 0)] 77)] 124) = some (unG.tg 0) := by kernel_rfl
end Go.Sx
namespace Go.Sx
open Go.Proofs
set_option maxRecDepth 100000
noncomputable def o_un : Orc := { facts := [], f := 109, args := [.ptr 107 0, .ptr 120 0, .str [.lit [42]], .bool (.lit true)], pre := [(64, .cells true (some (.v 10, 1)) [] 9), (107, .cells false none [.nilSlice, .slice 64 0 (.rlen 10) (.rest 1), .str [], .int .i64 (.lit 0), .int .i64 (.lit 0), .int .i64 (.lit 0), .str [], .nilSlice, .nilSlice, .int .i64 (.lit 0)] 64), (120, .cells false none [.nilSlice, .int .i64 (.lit 0)] 77)], next := 124, v := .tup [], post := [(107, .cells false none [.nilSlice, .slice 64 0 (.rlen 10) (.rest 1), .str [], .int .i64 (.lit 0), .int .i64 (.lit 0), .int .i64 (.lit 0), .str [], .nilSlice, .nilSlice, .int .i64 (.lit 0)] 64), (120, .cells false none [.slice 124 0 (.rlen 21) (.rest 2), .int .i64 (.var 21)] 77), (124, .cells false (some (.v 21, 2)) [] 79)], next' := 125 }
theorem unC_ok {ρ : Env} : CtxOK unC Tryz.prog ρ := ctx18 orcs_nil pors_nil
theorem un_ok {A : List (List UInt8)} {ifs by' : List UInt8} {ρ : Env} (L : LC A ifs by' ρ) (hby : by' = [32]) : OrcOK Tryz.prog ρ o_un := by
  have hA0 : 1 ≤ A.length := by
    cases h : A with
    | nil => exact absurd h L.ne
    | cons a l => simp
  refine orc_of_graph (G := unG) (C := unC) (I := aI A by' ρ) (μ := aμ A) (l0 := [(64, .rowv true 10 1 (.lit 0) [.str [.var 40]] 9), (107, .cells false none [.nilSlice, .slice 64 0 (.rlen 10) (.rest 1), .str [], .int .i64 (.lit 0), .int .i64 (.lit 0), .int .i64 (.lit 0), .str [], .nilSlice, .nilSlice, .int .i64 (.lit 0)] 64), (120, .cells false none [.nilSlice, .int .i64 (.lit 0)] 77)])
    (fun _ _ _ => unC_ok) ?_ ?_ ?_ rfl unst rfl rfl rfl rfl (by decide) (by kernel_rfl) ?_
  · intro k ρ' hi
    match k, hi with
    | 0, hi =>
      subst hi
      rw [unf0]
      have := each_getD L.each 0
      intro p hp
      simp only [List.mem_cons, List.not_mem_nil, or_false] at hp
      rcases hp with rfl | rfl | rfl <;> simp [SB.den, SI.den, intCmp, ltInt_iff, L.rows, L.first, rows1] <;> (try simp [List.getD] at this) <;> (have := L.len; omega)
    | 1, hi =>
      obtain ⟨i, h1, h2, rfl⟩ := hi
      rw [unf1]
      have e1 := each_getD L.each i
      have e2 := starR_len by' (A.take i)
      have e3 := starN_le by' L.by1 (A.take i) (fun a ha => L.each a (List.mem_of_mem_take ha))
      have e4 := e2.2 (take_ne L.ne h1)
      have e5 := L.len
      have e6 := L.by1
      have e7 : (A.take i).length = i := by rw [List.length_take]; omega
      rw [e7] at e2 e3
      intro p hp
      simp only [List.mem_cons, List.not_mem_nil, or_false] at hp
      rcases hp with rfl | rfl | rfl | rfl | rfl | rfl | rfl | rfl | rfl <;> simp only [SB.den, SI.den, intCmp, ltInt_iff, aE, setI_int, setI_rows, setI_str, setR_int, setR_rows, setR_str, setS_int, setS_rows, setS_str, L.rows, rows1, List.length_map, Option.getD_some, Bool.not_eq_true', decide_eq_false_iff_not] <;> simp <;> (try simp [List.getD] at e1) <;> omega
  · intro k ρ' hi
    match k, hi with
    | 0, _ => exact unat0
    | 1, _ => exact unat1
  · intro k ρ' hi
    match k, hi with
    | 0, hi =>
      subst hi
      show OTok _ _ _ 0 ρ' uno0
      simp only [uno0, OTok]
      have ht : A.take 1 = [A.getD 0 []] := by
        cases h : A with
        | nil => exact absurd h L.ne
        | cons a l => rfl
      refine ⟨aE A by' ρ' 1, ?_, ⟨1, by omega, hA0, rfl⟩, by simp [aμ, aE, setS_int, setR_int, setI_int]⟩
      simp [Eqns, Eqn.ok, aE, SI.den, SS.den, SP.den, setI_int, setI_rows, setR_int, setR_rows, setS_int, setS_rows, setS_str, preCells, RX.flat, RX.ok, AV.val, L.rows, L.first, ht, starR, starN, qrow, vstr, hby]
      repeat' apply And.intro
      all_goals first | exact rows1_ok A | rfl | (intro xs hx; simpa [vstr, List.getD] using rows1_get hx)
    | 1, hi =>
      obtain ⟨i, h1, h2, rfl⟩ := hi
      show OTok _ _ _ 1 _ uno1
      simp only [uno1, OTok]
      refine ⟨fun h => ?_, fun h => ?_⟩
      · 
        have hlt : i < A.length := by
          simp [SB.den, SI.den, intCmp, ltInt_iff, aE, setS_int, setR_int, setI_int, setS_rows, setR_rows, setI_rows, L.rows, rows1] at h
          omega
        have hne := take_ne L.ne h1
        have ht := take_getD hlt
        refine ⟨aE A by' ρ (i + 1), ?_, ⟨i + 1, by omega, by omega, rfl⟩, by simp [aμ, aE, setS_int, setR_int, setI_int]; omega⟩
        simp [Eqns, Eqn.ok, aE, SI.den, SS.den, SP.den, setI_int, setI_rows, setI_str, setR_int, setR_rows, setR_str, setS_int, setS_rows, setS_str, preCells, RX.flat, RX.ok, AV.val, L.rows, L.first, L.star, L.starn, ht, starR_snoc _ hne, starN_snoc _ hne]
        have hst := starR_ok by' (A.take (i + 1))
        rw [ht, starR_snoc _ hne] at hst
        repeat' apply And.intro
        all_goals first | exact rows1_ok A | rfl | omega | (intro xs hx; simpa [vstr, List.getD] using rows1_get hx) | simpa using hst
      · 
        have hlt : i = A.length := by
          simp [SB.den, SI.den, intCmp, ltInt_iff, aE, setS_int, setR_int, setI_int, setS_rows, setR_rows, setI_rows, L.rows, rows1] at h
          omega
        refine ⟨ρ, ?_, rfl⟩
        subst hlt
        simp [Eqns, Eqn.ok, aE, SI.den, SS.den, SP.den, setI_int, setI_rows, setI_str, setR_int, setR_rows, setR_str, setS_int, setS_rows, setS_str, preCells, RX.flat, RX.ok, AV.val, L.rows, L.first, L.star, L.starn]
        exact starR_ok by' A
  · 
    refine ⟨rfl, .inr ⟨_, _, _, _, _, _, rfl, rfl, rfl, by simp [SI.den], ?_⟩, RefL.refl ρ _⟩
    intro xs hx
    simp only [SI.den, L.rows] at hx
    rw [rows1_get hx]
    simp [AV.val, SS.den, SP.den, L.first, vstr]
end Go.Sx
namespace Go.Sx
open Go.Proofs
set_option maxRecDepth 1000000

noncomputable def uxC : Ctx := ctxOf Tryz.prog lies18 exts18 [] []
noncomputable def uxtg : List AM := [st uxC 33 [.ptr 80 0] (hpOf [(80, .cells false none [.slice 93 0 (.add (.lit 1) (.rlen 21)) (.rest 2), .int .i64 (.var 21)] 77), (93, .cells false (some ((.cs [.str [], .int .i64 (.lit 4)] (.v 21)), 2)) [] 79)] 94) [(.cmp .geq (.rlen 21) (.lit 1), true), (.cmp .leq (.rlen 21) (.lit 1000), true)],
    nd uxC 33 0 [(3, .ptr 94 0), (9, .slice 93 0 (.rlen 23) (.rest 2)), (10, .int .i64 (.rlen 23)), (11, .int .i64 (.var 0))]
      [(93, .rowv false 23 2 (.var 0) [.str [.var 30], .int .i64 (.lit 1)] 79), (94, .cells false none [.ptr 94 0, .nilSlice] 70)] 95
      [(.cmp .geq (.var 0) (.lit 1), true), (.cmp .leq (.var 0) (.rlen 23), true), (.cmp .leq (.rlen 23) (.lit 1001), true), (.cmp .leq (.slen 30) (.lit 4000), true)],
    nd uxC 33 0 [(3, .ptr 94 0), (9, .slice 93 0 (.rlen 23) (.rest 2)), (10, .int .i64 (.rlen 23)), (11, .int .i64 (.var 0))]
      [(93, .rowv false 23 2 (.var 0) [.str [.var 30], .int .i64 (.lit 1)] 79), (94, .cells false none [.ptr 94 0, .slice 95 0 (.slen 31) (.rest 1)] 70), (95, .bytes [.var 31] 5 false)] 96
      [(.cmp .geq (.var 0) (.lit 1), true), (.cmp .leq (.var 0) (.rlen 23), true), (.cmp .leq (.rlen 23) (.lit 1001), true), (.cmp .leq (.slen 30) (.lit 4000), true), (.cmp .geq (.slen 31) (.lit 1), true), (.cmp .leq (.slen 31) (.lit 4000), true)]]
noncomputable def uxo0 : OT := (.to 1 ⟨94, 95, [(94, 94)]⟩ [.int (.var 0) (.lit 1), .int (.rlen 23) (.add (.lit 1) (.rlen 21)), .int (.rlen 23) (.add (.lit 1) (.rlen 21)), .row 23 2 (some ((.cs [.str [], .int .i64 (.lit 4)] (.v 21)), 2)) [], .peek 23 (.var 0) [.str [.var 30], .int .i64 (.lit 1)]])
noncomputable def uxo1 : OT := (.fork (.cmp .lss (.var 0) (.rlen 23)) (.fork (.cmp .eql (.slen 30) (.lit 0)) (.to 1 ⟨94, 95, [(94, 94)]⟩ [.int (.var 0) (.add (.var 0) (.lit 1)), .int (.rlen 23) (.rlen 23), .int (.rlen 23) (.rlen 23), .row 23 2 (some ((.v 23), 2)) [], .peek 23 (.var 0) [.str [.var 30], .int .i64 (.lit 1)]]) (.to 2 ⟨94, 96, [(94, 94), (95, 96)]⟩ [.int (.var 0) (.add (.var 0) (.lit 1)), .int (.rlen 23) (.rlen 23), .int (.rlen 23) (.rlen 23), .str [.var 31] [.var 30], .row 23 2 (some ((.v 23), 2)) [], .peek 23 (.var 0) [.str [.var 30], .int .i64 (.lit 1)], .int (.slen 31) (.slen 30)])) (.fin ⟨94, 100, []⟩ [.str [.var 22] []]))
noncomputable def uxo2 : OT := (.fork (.cmp .lss (.var 0) (.rlen 23)) (.to 2 ⟨94, 96, [(94, 94), (95, 97)]⟩ [.int (.var 0) (.add (.var 0) (.lit 1)), .int (.rlen 23) (.rlen 23), .int (.rlen 23) (.rlen 23), .str [.var 31] [.var 31, .var 30], .row 23 2 (some ((.v 23), 2)) [], .peek 23 (.var 0) [.str [.var 30], .int .i64 (.lit 1)], .int (.slen 31) (.add (.slen 31) (.slen 30))]) (.fin ⟨94, 100, []⟩ [.str [.var 22] [.var 31]]))
noncomputable def uxG : Graph := { tg := pick uxtg, stop := stopAny [(33, (0, 3))], n := fun _ => 800, pl := fun k => ([uxo0, uxo1, uxo2].getD k .no).plan, o := fun k => [uxo0, uxo1, uxo2].getD k .no, v := .str [.var 22], h := (hpOf [] 100), f := 33, N := 94 }
theorem uxat0 : uxG.At uxC 0 := ⟨by kernel_rfl, by kernel_rfl, by kernel_rfl⟩
theorem uxat1 : uxG.At uxC 1 := ⟨by kernel_rfl, by kernel_rfl, by kernel_rfl⟩
theorem uxat2 : uxG.At uxC 2 := ⟨by kernel_rfl, by kernel_rfl, by kernel_rfl⟩
theorem uxf0 : (uxG.tg 0).facts = [(.cmp .geq (.rlen 21) (.lit 1), true), (.cmp .leq (.rlen 21) (.lit 1000), true)] := by kernel_rfl
theorem uxf1 : (uxG.tg 1).facts = [(.cmp .geq (.var 0) (.lit 1), true), (.cmp .leq (.var 0) (.rlen 23), true), (.cmp .leq (.rlen 23) (.lit 1001), true), (.cmp .leq (.slen 30) (.lit 4000), true)] := by kernel_rfl
theorem uxf2 : (uxG.tg 2).facts = [(.cmp .geq (.var 0) (.lit 1), true), (.cmp .leq (.var 0) (.rlen 23), true), (.cmp .leq (.rlen 23) (.lit 1001), true), (.cmp .leq (.slen 30) (.lit 4000), true), (.cmp .geq (.slen 31) (.lit 1), true), (.cmp .leq (.slen 31) (.lit 4000), true)] := by kernel_rfl
theorem uxst : startF uxC [(.cmp .geq (.rlen 21) (.lit 1), true), (.cmp .leq (.rlen 21) (.lit 1000), true)] 33 [.ptr 80 0] (hpOf [(80, .cells false none [.slice 93 0 (.add (.lit 1) (.rlen 21)) (.rest 2), .int .i64 (.var 21)] 77), (93, .cells false (some ((.cs [.str [], .int .i64 (.lit 4)] (.v 21)), 2)) [] 79)] 94) = some (uxG.tg 0) := by kernel_rfl
end Go.Sx
namespace Go.Sx
open Go.Proofs
set_option maxRecDepth 100000
noncomputable def o_ux : Orc := { facts := [], f := 33, args := [.ptr 80 0], pre := [(80, .cells false none [.slice 93 0 (.add (.lit 1) (.rlen 21)) (.rest 2), .int .i64 (.var 21)] 77), (93, .cells false (some ((.cs [.str [], .int .i64 (.lit 4)] (.v 21)), 2)) [] 79)], next := 94, v := .str [.var 22], post := [], next' := 100 }
theorem uxC_ok {ρ : Env} : CtxOK uxC Tryz.prog ρ := ctx18 orcs_nil pors_nil
theorem ux_ok {T : List (List UInt8)} {ρ : Env} (hT : 1 ≤ T.length) (hT2 : T.length ≤ 1000) (hlen : T.flatten.length ≤ 4000) (hR : ρ.rows 21 = T.map (qrow 1)) (hS : ρ.str 22 = T.flatten) : OrcOK Tryz.prog ρ o_ux := by
  refine orc_of_graph (G := uxG) (C := uxC) (I := tI T ρ) (μ := tμ T) (l0 := o_ux.pre) (fun _ _ _ => uxC_ok) ?_ ?_ ?_ rfl uxst rfl rfl rfl rfl (by decide) (by kernel_rfl) (RefL.refl ρ _)
  · intro k ρ' hi
    match k, hi with
    | 0, hi =>
      subst hi
      rw [uxf0]
      intro p hp
      simp only [List.mem_cons, List.not_mem_nil, or_false] at hp
      rcases hp with rfl | rfl <;> simp [SB.den, SI.den, intCmp, ltInt_iff, hR] <;> omega
    | 1, hi =>
      obtain ⟨i, h1, h2, _, rfl⟩ := hi
      rw [uxf1]
      have e1 : (T[i - 1]?.getD []).length ≤ 4000 := Nat.le_trans (getD_le T (i - 1)) hlen
      intro p hp
      simp only [List.mem_cons, List.not_mem_nil, or_false] at hp
      rcases hp with rfl | rfl | rfl | rfl <;> simp [SB.den, SI.den, intCmp, ltInt_iff, tE, setI_int, setR_int, setR_rows, setS_int, setS_rows, setS_str, mrows] <;> omega
    | 2, hi =>
      obtain ⟨i, h1, h2, h3, rfl⟩ := hi
      rw [uxf2]
      have e1 : (T[i - 1]?.getD []).length ≤ 4000 := Nat.le_trans (getD_le T (i - 1)) hlen
      have e2 := Nat.le_trans (flatten_take_le T (i - 1)) hlen
      have e3 : 1 ≤ (T.take (i - 1)).flatten.length := by
        cases h : (T.take (i - 1)).flatten with
        | nil => exact absurd h h3
        | cons a l => simp
      intro p hp
      simp only [List.mem_cons, List.not_mem_nil, or_false] at hp
      rcases hp with rfl | rfl | rfl | rfl | rfl | rfl <;> simp [-List.length_flatten, SB.den, SI.den, intCmp, ltInt_iff, tE, setI_int, setR_int, setR_rows, setS_int, setS_rows, setS_str, mrows] <;> omega
  · intro k ρ' hi
    match k, hi with
    | 0, _ => exact uxat0
    | 1, _ => exact uxat1
    | 2, _ => exact uxat2
  · intro k ρ' hi
    match k, hi with
    | 0, hi =>
      subst hi
      show OTok _ _ _ 0 ρ' uxo0
      simp only [uxo0, OTok]
      refine ⟨tE T ρ' 1, ?_, ⟨1, by omega, by omega, rfl, rfl⟩, by simp [tμ, tE, setS_int, setR_int, setI_int]⟩
      simp [Eqns, Eqn.ok, tE, SI.den, SS.den, SP.den, setI_int, setI_rows, setI_str, setR_int, setR_rows, setR_str, setS_int, setS_rows, setS_str, preCells, RX.flat, RX.ok, AV.val, hR]
      repeat' apply And.intro
      all_goals first | exact mrows_ok T | (simp [mrows]; omega) | (simp [mrows, qrow, vstr]; done) | (intro xs hx; simpa [qrow, vstr] using mrows_get (Nat.le_refl 1) hx)
    | 1, hi =>
      obtain ⟨i, h1, h2, h3, rfl⟩ := hi
      show OTok _ _ _ 1 _ uxo1
      simp only [uxo1, OTok]
      refine ⟨fun h => ⟨fun g => ?_, fun g => ?_⟩, fun h => ?_⟩
      · have hlt := tlt h
        have hem := temp hlt g
        refine ⟨tE T ρ (i + 1), ?_, ⟨i + 1, by omega, by omega, by rw [tflat h1 hlt, h3, hem]; rfl, rfl⟩, by simp [tμ, tE, setS_int, setR_int, setI_int]; omega⟩
        simp [Eqns, Eqn.ok, tE, SI.den, SS.den, SP.den, setI_int, setI_rows, setI_str, setR_int, setR_rows, setR_str, setS_int, setS_rows, setS_str, preCells, RX.flat, RX.ok, AV.val]
        repeat' apply And.intro
        all_goals first | exact mrows_ok T | omega | (intro xs hx; simpa [qrow, vstr] using mrows_get (by omega) hx)
      · have hlt := tlt h
        have hem := tnem hlt g
        refine ⟨tE T ρ (i + 1), ?_, ⟨i + 1, by omega, by omega, by rw [tflat h1 hlt, h3]; simpa using hem, rfl⟩, by simp [tμ, tE, setS_int, setR_int, setI_int]; omega⟩
        have hx := tflat h1 hlt
        rw [h3] at hx
        simp [-List.length_flatten, Eqns, Eqn.ok, tE, SI.den, SS.den, SP.den, setI_int, setI_rows, setI_str, setR_int, setR_rows, setR_str, setS_int, setS_rows, setS_str, preCells, RX.flat, RX.ok, AV.val, show i + 1 - 1 = i by omega] at hx ⊢
        repeat' apply And.intro
        all_goals first | exact hx | exact mrows_ok T | omega | (rw [hx]; done) | (intro xs hx'; simpa [qrow, vstr] using mrows_get (by omega) hx')
      · have hend := tend h2 h
        refine ⟨ρ, ?_, rfl⟩
        rw [hend] at h3
        simp at h3
        simp [Eqns, Eqn.ok, tE, SI.den, SS.den, SP.den, setI_int, setI_rows, setI_str, setR_int, setR_rows, setR_str, setS_int, setS_rows, setS_str, preCells, RX.flat, RX.ok, AV.val, hS]
        exact h3
    | 2, hi =>
      obtain ⟨i, h1, h2, h3, rfl⟩ := hi
      show OTok _ _ _ 2 _ uxo2
      simp only [uxo2, OTok]
      refine ⟨fun h => ?_, fun h => ?_⟩
      · have hlt := tlt h
        refine ⟨tE T ρ (i + 1), ?_, ⟨i + 1, by omega, by omega, by rw [tflat h1 hlt]; simp [h3], rfl⟩, by simp [tμ, tE, setS_int, setR_int, setI_int]; omega⟩
        have hx := tflat h1 hlt
        simp [-List.length_flatten, Eqns, Eqn.ok, tE, SI.den, SS.den, SP.den, setI_int, setI_rows, setI_str, setR_int, setR_rows, setR_str, setS_int, setS_rows, setS_str, preCells, RX.flat, RX.ok, AV.val, show i + 1 - 1 = i by omega] at hx ⊢
        repeat' apply And.intro
        all_goals first | exact hx | exact mrows_ok T | omega | (rw [hx]; simp only [List.length_append]; omega) | (intro xs hx'; simpa [qrow, vstr] using mrows_get (by omega) hx')
      · have hend := tend h2 h
        refine ⟨ρ, ?_, rfl⟩
        simp [Eqns, Eqn.ok, tE, SI.den, SS.den, SP.den, setI_int, setI_rows, setI_str, setR_int, setR_rows, setR_str, setS_int, setS_rows, setS_str, preCells, RX.flat, RX.ok, AV.val, hS]
        rw [hend]; simp
end Go.Sx
namespace Go.Sx
open Go.Proofs
set_option maxRecDepth 1000000

noncomputable def uwC : Ctx := ctxOf Tryz.prog lies18 exts18 [o_un] [{ facts := [], f := 93, args := [.str [.var 30]], pre := [], v := .str [.var 32] }]
noncomputable def uwtg : List AM := [st uwC 28 [.ptr 103 0, .ptr 108 0] (hpOf [(64, .cells true (some (.v 10, 1)) [] 9), (102, .cells false none [.str [.lit [34, 36, 42, 34]]] 9), (103, .cells false none [.slice 102 0 (.lit 1) (.known 1)] 22), (107, .cells false none [.nilSlice, .slice 64 0 (.rlen 10) (.rest 1), .str [], .int .i64 (.lit 0), .int .i64 (.lit 0), .int .i64 (.lit 0), .str [], .nilSlice, .nilSlice, .int .i64 (.lit 0)] 64), (108, .cells false none [.ptr 107 0] 62)] 112) [(.cmp .leq (.rlen 10) (.lit 20), true), (.cmp .geq (.rlen 10) (.lit 1), true), (.cmp .leq (.var 21) (.lit 3000), true), (.cmp .geq (.var 21) (.lit 0), true), (.cmp .leq (.rlen 21) (.lit 1000), true), (.cmp .geq (.rlen 21) (.lit 1), true)],
    nd uwC 28 1 [(2, .nilSlice), (3, .ptr 112 0), (7, .str [.lit [32, 9, 10]]), (13, .slice 102 0 (.lit 1) (.known 1)), (14, .int .i64 (.lit 1)), (15, .int .i64 (.lit 0)), (35, .slice 113 0 (.rlen 23) (.rest 2)), (36, .int .i64 (.rlen 23)), (37, .int .i64 (.var 0))]
      [(107, .cells false none [.nilSlice, .slice 64 0 (.rlen 10) (.rest 1), .str [], .int .i64 (.lit 0), .int .i64 (.lit 0), .int .i64 (.lit 0), .str [], .nilSlice, .nilSlice, .int .i64 (.lit 0)] 64), (112, .cells false none [.nilSlice, .nilPtr, .nilSlice, .bool (.lit true), .bool (.lit false), .bool (.lit false), .bool (.lit false)] 72), (113, .rowv false 23 2 (.var 0) [.str [.var 30], .int .i64 (.lit 1)] 79)] 114
      [(.cmp .geq (.var 0) (.lit 1), true), (.cmp .leq (.var 0) (.rlen 23), true), (.cmp .leq (.rlen 23) (.lit 1001), true), (.cmp .leq (.slen 30) (.lit 4000), true), (.cmp .leq (.slen 32) (.lit 8000), true), (.cmp .geq (.slen 32) (.slen 30), true)],
    nd uwC 28 1 [(2, .nilSlice), (3, .ptr 112 0), (7, .str [.lit [32, 9, 10]]), (13, .slice 102 0 (.lit 1) (.known 1)), (14, .int .i64 (.lit 1)), (15, .int .i64 (.lit 0)), (35, .slice 113 0 (.rlen 23) (.rest 2)), (36, .int .i64 (.rlen 23)), (37, .int .i64 (.var 0))]
      [(107, .cells false none [.nilSlice, .slice 64 0 (.rlen 10) (.rest 1), .str [], .int .i64 (.lit 0), .int .i64 (.lit 0), .int .i64 (.lit 0), .str [], .nilSlice, .nilSlice, .int .i64 (.lit 0)] 64), (112, .cells false none [.nilSlice, .ptr 112 1, .slice 114 0 (.slen 31) (.rest 1), .bool (.lit true), .bool (.lit true), .bool (.lit false), .bool (.lit false)] 72), (113, .rowv false 23 2 (.var 0) [.str [.var 30], .int .i64 (.lit 1)] 79), (114, .bytes [.var 31] 5 false)] 115
      [(.cmp .geq (.var 0) (.lit 1), true), (.cmp .leq (.var 0) (.rlen 23), true), (.cmp .leq (.rlen 23) (.lit 1001), true), (.cmp .leq (.slen 30) (.lit 4000), true), (.cmp .leq (.slen 32) (.lit 8000), true), (.cmp .geq (.slen 32) (.slen 30), true), (.cmp .geq (.slen 31) (.lit 1), true), (.cmp .leq (.slen 31) (.lit 9000), true)]]
noncomputable def uwo0 : OT := (.to 1 ⟨112, 114, [(112, 112), (113, 126)]⟩ [.int (.rlen 23) (.add (.lit 1) (.rlen 21)), .int (.var 0) (.lit 1), .int (.rlen 23) (.add (.lit 1) (.rlen 21)), .int (.rlen 10) (.rlen 10), .row 23 2 (some ((.cs [.str [], .int .i64 (.lit 4)] (.v 21)), 2)) [], .peek 23 (.var 0) [.str [.var 30], .int .i64 (.lit 1)]])
noncomputable def uwo1 : OT := (.fork (.cmp .lss (.var 0) (.rlen 23)) (.fork (.cmp .eql (.slen 30) (.lit 0)) (.to 1 ⟨112, 114, [(112, 112), (113, 113)]⟩ [.int (.rlen 23) (.rlen 23), .int (.var 0) (.add (.var 0) (.lit 1)), .int (.rlen 23) (.rlen 23), .int (.rlen 10) (.rlen 10), .row 23 2 (some ((.v 23), 2)) [], .peek 23 (.var 0) [.str [.var 30], .int .i64 (.lit 1)]]) (.fork (.cmp .eql (.slen 32) (.lit 0)) .no (.to 2 ⟨112, 115, [(112, 112), (113, 113), (114, 116)]⟩ [.int (.rlen 23) (.rlen 23), .int (.var 0) (.add (.var 0) (.lit 1)), .int (.rlen 23) (.rlen 23), .int (.rlen 10) (.rlen 10), .row 23 2 (some ((.v 23), 2)) [], .peek 23 (.var 0) [.str [.var 30], .int .i64 (.lit 1)], .int (.slen 31) (.slen 32), .str [.var 31] [.var 32]]))) (.fin ⟨112, 113, [(112, 116)]⟩ [.int (.rlen 10) (.rlen 10)]))
noncomputable def uwo2 : OT := (.fork (.cmp .lss (.var 0) (.rlen 23)) (.fork (.cmp .eql (.slen 30) (.lit 0)) (.to 2 ⟨112, 115, [(112, 112), (113, 113), (114, 114)]⟩ [.int (.rlen 23) (.rlen 23), .int (.var 0) (.add (.var 0) (.lit 1)), .int (.rlen 23) (.rlen 23), .int (.rlen 10) (.rlen 10), .row 23 2 (some ((.v 23), 2)) [], .peek 23 (.var 0) [.str [.var 30], .int .i64 (.lit 1)], .int (.slen 31) (.slen 31), .str [.var 31] [.var 31]]) (.to 2 ⟨112, 115, [(112, 112), (113, 113), (114, 117)]⟩ [.int (.rlen 23) (.rlen 23), .int (.var 0) (.add (.var 0) (.lit 1)), .int (.rlen 23) (.rlen 23), .int (.rlen 10) (.rlen 10), .row 23 2 (some ((.v 23), 2)) [], .peek 23 (.var 0) [.str [.var 30], .int .i64 (.lit 1)], .int (.slen 31) (.add (.slen 31) (.slen 32)), .str [.var 31] [.var 31, .var 32]])) (.fin ⟨112, 113, [(112, 117)]⟩ [.int (.rlen 10) (.rlen 10)]))
noncomputable def uwG : Graph := { tg := pick uwtg, stop := stopAny [(28, (0, 8))], n := fun _ => 3000, pl := fun k => ([uwo0, uwo1, uwo2].getD k .no).plan, o := fun k => [uwo0, uwo1, uwo2].getD k .no, v := .slice 112 0 (.lit 1) (.known 1), h := (hpOf [(107, .cells false none [.nilSlice, .slice 64 0 (.rlen 10) (.rest 1), .str [], .int .i64 (.lit 0), .int .i64 (.lit 0), .int .i64 (.lit 0), .str [], .nilSlice, .nilSlice, .int .i64 (.lit 0)] 64)] 113), f := 28, N := 112 }
theorem uwat0 : uwG.At uwC 0 := ⟨by kernel_rfl, by kernel_rfl, by kernel_rfl⟩
theorem uwat1 : uwG.At uwC 1 := ⟨by kernel_rfl, by kernel_rfl, by kernel_rfl⟩
theorem uwat2 : uwG.At uwC 2 := ⟨by kernel_rfl, by kernel_rfl, by kernel_rfl⟩
theorem uwf0 : (uwG.tg 0).facts = [(.cmp .leq (.rlen 10) (.lit 20), true), (.cmp .geq (.rlen 10) (.lit 1), true), (.cmp .leq (.var 21) (.lit 3000), true), (.cmp .geq (.var 21) (.lit 0), true), (.cmp .leq (.rlen 21) (.lit 1000), true), (.cmp .geq (.rlen 21) (.lit 1), true)] := by kernel_rfl
theorem uwf1 : (uwG.tg 1).facts = [(.cmp .geq (.var 0) (.lit 1), true), (.cmp .leq (.var 0) (.rlen 23), true), (.cmp .leq (.rlen 23) (.lit 1001), true), (.cmp .leq (.slen 30) (.lit 4000), true), (.cmp .leq (.slen 32) (.lit 8000), true), (.cmp .geq (.slen 32) (.slen 30), true)] := by kernel_rfl
theorem uwf2 : (uwG.tg 2).facts = [(.cmp .geq (.var 0) (.lit 1), true), (.cmp .leq (.var 0) (.rlen 23), true), (.cmp .leq (.rlen 23) (.lit 1001), true), (.cmp .leq (.slen 30) (.lit 4000), true), (.cmp .leq (.slen 32) (.lit 8000), true), (.cmp .geq (.slen 32) (.slen 30), true), (.cmp .geq (.slen 31) (.lit 1), true), (.cmp .leq (.slen 31) (.lit 9000), true)] := by kernel_rfl
theorem uwst : startF uwC [(.cmp .leq (.rlen 10) (.lit 20), true), (.cmp .geq (.rlen 10) (.lit 1), true), (.cmp .leq (.var 21) (.lit 3000), true), (.cmp .geq (.var 21) (.lit 0), true), (.cmp .leq (.rlen 21) (.lit 1000), true), (.cmp .geq (.rlen 21) (.lit 1), true)] 28 [.ptr 103 0, .ptr 108 0] (hpOf [(64, .cells true (some (.v 10, 1)) [] 9), (102, .cells false none [.str [.lit [34, 36, 42, 34]]] 9), (103, .cells false none [.slice 102 0 (.lit 1) (.known 1)] 22), (107, .cells false none [.nilSlice, .slice 64 0 (.rlen 10) (.rest 1), .str [], .int .i64 (.lit 0), .int .i64 (.lit 0), .int .i64 (.lit 0), .str [], .nilSlice, .nilSlice, .int .i64 (.lit 0)] 64), (108, .cells false none [.ptr 107 0] 62)] 112) = some (uwG.tg 0) := by kernel_rfl
end Go.Sx
namespace Go.Sx
open Go.Proofs
set_option maxRecDepth 100000
noncomputable def o_uw : Orc := { facts := [], f := 28, args := [.ptr 103 0, .ptr 108 0], pre := [(64, .cells true (some (.v 10, 1)) [] 9), (102, .cells false none [.str [.lit [34, 36, 42, 34]]] 9), (103, .cells false none [.slice 102 0 (.lit 1) (.known 1)] 22), (107, .cells false none [.nilSlice, .slice 64 0 (.rlen 10) (.rest 1), .str [], .int .i64 (.lit 0), .int .i64 (.lit 0), .int .i64 (.lit 0), .str [], .nilSlice, .nilSlice, .int .i64 (.lit 0)] 64), (108, .cells false none [.ptr 107 0] 62)], next := 112, v := .slice 112 0 (.lit 1) (.known 1), post := [(107, .cells false none [.nilSlice, .slice 64 0 (.rlen 10) (.rest 1), .str [], .int .i64 (.lit 0), .int .i64 (.lit 0), .int .i64 (.lit 0), .str [], .nilSlice, .nilSlice, .int .i64 (.lit 0)] 64)], next' := 113 }
theorem uw_ok {A : List (List UInt8)} {ifs by' : List UInt8} {ρ : Env} (L : LC A ifs by' ρ) (hby : by' = [32]) (hq : ρ.str 32 = quoteL (ρ.str 30)) (hq2 : (ρ.str 30).length ≤ 100000) : OrcOK Tryz.prog ρ o_uw := by
  obtain ⟨T, hT⟩ : ∃ T, T = starS by' A := ⟨_, rfl⟩
  have e1 := starR_len by' A
  have e2 := e1.2 L.ne
  have e3 := L.len
  have e4 := starN_le by' L.by1 A L.each
  have e5 : (T.flatten.length : Int) = starN by' A := by rw [hT]; exact starS_sum by' A
  have e6 : T.length = (starR by' A).length := by rw [hT]; exact starS_len by' A
  have hfl : T.flatten.length ≤ 4000 := by omega
  have hR : ρ.rows 21 = T.map (qrow 1) := by rw [L.star, hT, starR_map]
  have ctx : ∀ ρ', ρ'.rows 10 = ρ.rows 10 → ρ'.str 40 = ρ.str 40 → ρ'.rows 21 = ρ.rows 21 → ρ'.int 21 = ρ.int 21 → ρ'.str 32 = quoteL (ρ'.str 30) → (ρ'.str 30).length ≤ 100000 → CtxOK uwC Tryz.prog ρ' := by
    intro ρ' h1 h2 h3 h4 h6 h7
    refine ctx18 (orcs_cons (un_ok (ifs := ifs) ⟨L.ne, L.len, L.each, L.by1, by rw [h1, L.rows], by rw [h2, L.first], by rw [h3, L.star], by rw [h4, L.starn]⟩ hby) orcs_nil) (pors_cons (por_quote h6 h7) pors_nil)
  have gd : ∀ i, (T.getD i []).length ≤ 4000 := fun i => Nat.le_trans (getD_le T i) hfl
  refine orc_of_graph (G := uwG) (C := uwC) (I := wI T ρ) (μ := tμ T) (l0 := o_uw.pre) ?_ ?_ ?_ ?_ rfl uwst rfl rfl rfl rfl (by decide) (by kernel_rfl) (RefL.refl ρ _)
  · intro k ρ' hi
    match k, hi with
    | 0, hi => subst hi; exact ctx _ rfl rfl rfl rfl hq hq2
    | 1, hi => obtain ⟨i, _, _, _, rfl⟩ := hi; exact ctx _ rfl rfl rfl rfl rfl (Nat.le_trans (gd _) (by omega))
    | 2, hi => obtain ⟨i, _, _, _, rfl⟩ := hi; exact ctx _ rfl rfl rfl rfl rfl (Nat.le_trans (gd _) (by omega))
  · intro k ρ' hi
    match k, hi with
    | 0, hi =>
      subst hi
      rw [uwf0]
      have hA0 : 1 ≤ A.length := by
        cases h : A with
        | nil => exact absurd h L.ne
        | cons a l => simp
      intro p hp
      simp only [List.mem_cons, List.not_mem_nil, or_false] at hp
      rcases hp with rfl | rfl | rfl | rfl | rfl | rfl <;> simp [SB.den, SI.den, intCmp, ltInt_iff, L.rows, L.star, L.starn, rows1] <;> omega
    | 1, hi =>
      obtain ⟨i, h1, h2, h3, rfl⟩ := hi
      rw [uwf1]
      have a1 : (T[i - 1]?.getD []).length ≤ 4000 := gd (i - 1)
      have a2 := quoteL_len (T[i - 1]?.getD [])
      intro p hp
      simp only [List.mem_cons, List.not_mem_nil, or_false] at hp
      rcases hp with rfl | rfl | rfl | rfl | rfl | rfl <;> simp [SB.den, SI.den, intCmp, ltInt_iff, wE, setI_int, setR_int, setR_rows, setS_int, setS_rows, setS_str, mrows] <;> omega
    | 2, hi =>
      obtain ⟨i, h1, h2, h3, rfl⟩ := hi
      rw [uwf2]
      have a1 : (T[i - 1]?.getD []).length ≤ 4000 := gd (i - 1)
      have a2 := quoteL_len (T[i - 1]?.getD [])
      have a3 := Nat.le_trans (flatten_take_le T (i - 1)) hfl
      have a4 := quoteL_len (T.take (i - 1)).flatten
      have a5 : 1 ≤ (T.take (i - 1)).flatten.length := by
        cases h : (T.take (i - 1)).flatten with
        | nil => exact absurd h h3
        | cons a l => simp
      intro p hp
      simp only [List.mem_cons, List.not_mem_nil, or_false] at hp
      rcases hp with rfl | rfl | rfl | rfl | rfl | rfl | rfl | rfl <;> simp [-List.length_flatten, SB.den, SI.den, intCmp, ltInt_iff, wE, setI_int, setR_int, setR_rows, setS_int, setS_rows, setS_str, mrows] <;> omega
  · intro k ρ' hi
    match k, hi with
    | 0, _ => exact uwat0
    | 1, _ => exact uwat1
    | 2, _ => exact uwat2
  · intro k ρ' hi
    match k, hi with
    | 0, hi =>
      subst hi
      show OTok _ _ _ 0 ρ' uwo0
      simp only [uwo0, OTok]
      refine ⟨wE T ρ' 1, ?_, ⟨1, by omega, by omega, rfl, rfl⟩, by simp [tμ, wE, setS_int, setR_int, setI_int]⟩
      simp [Eqns, Eqn.ok, wE, SI.den, SS.den, SP.den, setI_int, setI_rows, setI_str, setR_int, setR_rows, setR_str, setS_int, setS_rows, setS_str, preCells, RX.flat, RX.ok, AV.val, hR]
      repeat' apply And.intro
      all_goals first | exact mrows_ok T | (simp [mrows]; omega) | (simp [mrows, qrow, vstr]; done) | (intro xs hx; simpa [qrow, vstr] using mrows_get (Nat.le_refl 1) hx)
    | 1, hi =>
      obtain ⟨i, h1, h2, h3, rfl⟩ := hi
      show OTok _ _ _ 1 _ uwo1
      simp only [uwo1, OTok]
      refine ⟨fun h => ⟨fun g => ?_, fun g => ⟨fun g2 => ?_, fun g2 => ?_⟩⟩, fun h => ?_⟩
      · have hlt := wlt h
        have hem := wemp g
        refine ⟨wE T ρ (i + 1), ?_, ⟨i + 1, by omega, by omega, by rw [tflat h1 hlt, h3, hem]; rfl, rfl⟩, by simp [tμ, wE, setS_int, setR_int, setI_int]; omega⟩
        simp [Eqns, Eqn.ok, wE, SI.den, SS.den, SP.den, setI_int, setI_rows, setI_str, setR_int, setR_rows, setR_str, setS_int, setS_rows, setS_str, preCells, RX.flat, RX.ok, AV.val]
        repeat' apply And.intro
        all_goals first | exact mrows_ok T | omega | (intro xs hx; simpa [qrow, vstr] using mrows_get (by omega) hx)
      · exact wno (wnem g) g2
      · have hlt := wlt h
        have hem := wnem g
        refine ⟨wE T ρ (i + 1), ?_, ⟨i + 1, by omega, by omega, by rw [tflat h1 hlt, h3]; simpa using hem, rfl⟩, by simp [tμ, wE, setS_int, setR_int, setI_int]; omega⟩
        have hx := tflat h1 hlt
        rw [h3] at hx
        simp only [List.nil_append, List.getD, show i + 1 - 1 = i by omega] at hx
        simp [-List.length_flatten, Eqns, Eqn.ok, wE, SI.den, SS.den, SP.den, setI_int, setI_rows, setI_str, setR_int, setR_rows, setR_str, setS_int, setS_rows, setS_str, preCells, RX.flat, RX.ok, AV.val, hx]
        repeat' apply And.intro
        all_goals first | exact mrows_ok T | omega | (intro xs hx; simpa [qrow, vstr] using mrows_get (by omega) hx)
      · refine ⟨ρ, ?_, rfl⟩
        simp [Eqns, Eqn.ok, wE, SI.den, SS.den, SP.den, setI_rows, setI_str, setR_rows, setR_str, setS_rows, setS_str]
    | 2, hi =>
      obtain ⟨i, h1, h2, h3, rfl⟩ := hi
      show OTok _ _ _ 2 _ uwo2
      simp only [uwo2, OTok]
      refine ⟨fun h => ⟨fun g => ?_, fun g => ?_⟩, fun h => ?_⟩
      · have hlt := wlt h
        have hem := wemp g
        have hx := tflat h1 hlt
        rw [hem, List.append_nil] at hx
        refine ⟨wE T ρ (i + 1), ?_, ⟨i + 1, by omega, by omega, by rw [hx]; exact h3, rfl⟩, by simp [tμ, wE, setS_int, setR_int, setI_int]; omega⟩
        simp only [show i + 1 - 1 = i by omega] at hx
        simp [-List.length_flatten, Eqns, Eqn.ok, wE, SI.den, SS.den, SP.den, setI_int, setI_rows, setI_str, setR_int, setR_rows, setR_str, setS_int, setS_rows, setS_str, preCells, RX.flat, RX.ok, AV.val, hx]
        repeat' apply And.intro
        all_goals first | exact mrows_ok T | omega | (intro xs hx; simpa [qrow, vstr] using mrows_get (by omega) hx)
      · have hlt := wlt h
        have hx := tflat h1 hlt
        refine ⟨wE T ρ (i + 1), ?_, ⟨i + 1, by omega, by omega, by rw [hx]; simp [h3], rfl⟩, by simp [tμ, wE, setS_int, setR_int, setI_int]; omega⟩
        simp only [List.getD, show i + 1 - 1 = i by omega] at hx
        simp [-List.length_flatten, Eqns, Eqn.ok, wE, SI.den, SS.den, SP.den, setI_int, setI_rows, setI_str, setR_int, setR_rows, setR_str, setS_int, setS_rows, setS_str, preCells, RX.flat, RX.ok, AV.val, hx, quoteL_app]
        repeat' apply And.intro
        all_goals first | exact mrows_ok T | omega | (intro xs hx; simpa [qrow, vstr] using mrows_get (by omega) hx)
      · refine ⟨ρ, ?_, rfl⟩
        simp [Eqns, Eqn.ok, wE, SI.den, SS.den, SP.den, setI_rows, setI_str, setR_rows, setR_str, setS_rows, setS_str]
end Go.Sx
namespace Go.Sx
open Go.Proofs
set_option maxRecDepth 1000000
noncomputable def o_te : Orc := { facts := [(.cmp .leq (.rlen 10) (.lit 20), true), (.cmp .geq (.rlen 10) (.lit 1), true), (.cmp .leq (.var 21) (.lit 3000), true), (.cmp .geq (.var 21) (.lit 0), true), (.cmp .leq (.rlen 21) (.lit 1000), true), (.cmp .geq (.rlen 21) (.lit 1), true)], f := 15, args := [.str [.lit [34, 36, 42, 34]], .agg [.slice 71 0 (.lit 1) (.rest 4), .slice 64 0 (.rlen 10) (.rest 1), .str []], .agg [.int .i64 (.lit 0), .int .i64 (.lit 0), .int .i64 (.lit 0), .str [], .nilSlice, .nilSlice]], pre := [(64, .cells true (some (.v 10, 1)) [] 9), (71, .cells false none [.str [.lit [73, 70, 83]], .str [.var 6], .bool (.lit false), .bool (.lit false)] 61)], next := 72, v := .tup [.agg [.slice 100 0 (.lit 1) (.known 1), .slice 71 0 (.lit 1) (.rest 4), .slice 64 0 (.rlen 10) (.rest 1), .str [], .str [], .bool (.lit false), .str []], .int .i64 (.lit 0)], post := [(71, .cells false none [.str [.lit [73, 70, 83]], .str [.var 6], .bool (.lit false), .bool (.lit false)] 61), (100, .cells false none [.str [.var 22]] 9)], next' := 101 }
noncomputable def o_wo : Orc := { facts := [], f := 12, args := [.slice 102 0 (.lit 1) (.known 1), .agg [.slice 71 0 (.lit 1) (.rest 4), .slice 64 0 (.rlen 10) (.rest 1), .str []], .agg [.int .i64 (.lit 0), .int .i64 (.lit 0), .int .i64 (.lit 0), .str [], .nilSlice, .nilSlice]], pre := [(64, .cells true (some (.v 10, 1)) [] 9), (71, .cells false none [.str [.lit [73, 70, 83]], .str [.var 6], .bool (.lit false), .bool (.lit false)] 61), (102, .cells false none [.str [.lit [34, 36, 42, 34]]] 9)], next := 103, v := .tup [.agg [.slice 112 0 (.lit 1) (.known 1), .slice 71 0 (.lit 1) (.rest 4), .slice 64 0 (.rlen 10) (.rest 1), .str [], .str [], .bool (.lit false), .str []], .int .i64 (.lit 0)], post := [(71, .cells false none [.str [.lit [73, 70, 83]], .str [.var 6], .bool (.lit false), .bool (.lit false)] 61)], next' := 113 }
noncomputable def p_shown : POrc := { facts := [], f := 10, args := [], pre := [], v := .bool (.lit true) }
noncomputable def o_ue : Orc := { facts := [(.cmp .leq (.rlen 10) (.lit 20), true), (.cmp .geq (.rlen 10) (.lit 1), true), (.cmp .leq (.var 21) (.lit 3000), true), (.cmp .geq (.var 21) (.lit 0), true), (.cmp .leq (.rlen 21) (.lit 1000), true), (.cmp .geq (.rlen 21) (.lit 1), true)], f := 15, args := [.str [.lit [34, 36, 42, 34]], .agg [.nilSlice, .slice 64 0 (.rlen 10) (.rest 1), .str []], .agg [.int .i64 (.lit 0), .int .i64 (.lit 0), .int .i64 (.lit 0), .str [], .nilSlice, .nilSlice]], pre := [(64, .cells true (some (.v 10, 1)) [] 9)], next := 71, v := .tup [.agg [.slice 100 0 (.lit 1) (.known 1), .nilSlice, .slice 64 0 (.rlen 10) (.rest 1), .str [], .str [], .bool (.lit false), .str []], .int .i64 (.lit 0)], post := [(100, .cells false none [.str [.var 22]] 9)], next' := 101 }
noncomputable def o_uo : Orc := { facts := [], f := 12, args := [.slice 102 0 (.lit 1) (.known 1), .agg [.nilSlice, .slice 64 0 (.rlen 10) (.rest 1), .str []], .agg [.int .i64 (.lit 0), .int .i64 (.lit 0), .int .i64 (.lit 0), .str [], .nilSlice, .nilSlice]], pre := [(64, .cells true (some (.v 10, 1)) [] 9), (102, .cells false none [.str [.lit [34, 36, 42, 34]]] 9)], next := 103, v := .tup [.agg [.slice 112 0 (.lit 1) (.known 1), .nilSlice, .slice 64 0 (.rlen 10) (.rest 1), .str [], .str [], .bool (.lit false), .str []], .int .i64 (.lit 0)], post := [], next' := 113 }
theorem te_run : orcCheck (ctxOf Tryz.prog lies18 exts18 [o_al, o_tx] []) o_te 2500 = true := by kernel_rfl
theorem te_ok {ρ : Env} (h1 : OrcOK Tryz.prog ρ o_al) (h2 : OrcOK Tryz.prog ρ o_tx) : OrcOK Tryz.prog ρ o_te := orc_of_check (ctx18 (orcs_cons h1 (orcs_cons h2 orcs_nil)) pors_nil) te_run (by kernel_rfl)
theorem wo_run : orcCheck (ctxOf Tryz.prog lies18 exts18 [o_wd] []) o_wo 200 = true := by kernel_rfl
theorem wo_ok {ρ : Env} (h1 : OrcOK Tryz.prog ρ o_wd) : OrcOK Tryz.prog ρ o_wo := orc_of_check (ctx18 (orcs_cons h1 orcs_nil) pors_nil) wo_run (by kernel_rfl)
theorem ue_run : orcCheck (ctxOf Tryz.prog lies18 exts18 [o_ul, o_ux] []) o_ue 2500 = true := by kernel_rfl
theorem ue_ok {ρ : Env} (h1 : OrcOK Tryz.prog ρ o_ul) (h2 : OrcOK Tryz.prog ρ o_ux) : OrcOK Tryz.prog ρ o_ue := orc_of_check (ctx18 (orcs_cons h1 (orcs_cons h2 orcs_nil)) pors_nil) ue_run (by kernel_rfl)
theorem uo_run : orcCheck (ctxOf Tryz.prog lies18 exts18 [o_uw] []) o_uo 200 = true := by kernel_rfl
theorem uo_ok {ρ : Env} (h1 : OrcOK Tryz.prog ρ o_uw) : OrcOK Tryz.prog ρ o_uo := orc_of_check (ctx18 (orcs_cons h1 orcs_nil) pors_nil) uo_run (by kernel_rfl)
theorem shown_ok {ρ : Env} : POrcOK Tryz.prog ρ p_shown := by
  intro φ w xs n _ _ _ ha
  have := VRs.nil_left ha; subst this
  exact (kept0 (o18_ok (ρ := env [] [])) rfl rfl rfl (fun p hp => by cases hp) VRs.nil w).mono fun e w' ⟨he, hk⟩ => ⟨_, he, by simp only [VR, p_shown, SB.den], hk⟩
end Go.Sx
