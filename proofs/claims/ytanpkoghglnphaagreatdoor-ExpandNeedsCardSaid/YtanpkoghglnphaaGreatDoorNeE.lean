import Derived.Test.YtanpkoghglnphaaGreatDoorNeB
import Derived.Test.YtanpkoghglnphaaGreatDoorNeC
namespace Go.Sx
open Go.Proofs
set_option maxRecDepth 1000000

noncomputable def qaC : Ctx := ctxOf Tryz.prog lies18 exts18 [] [p_tr, p_pa]
noncomputable def qatg : List AM := [st qaC 15 [.str [.lit [34], .var 7, .lit [34]], .agg [.nilSlice, .nilSlice, .str []], .agg [.int .i64 (.lit 0), .int .i64 (.lit 0), .int .i64 (.lit 0), .str [], .nilSlice, .slice 64 0 (.var 0) (.rest 1)]] (hpOf [(64, .rowv true 10 1 (.lit 0) [.str [.var 40]] 9)] 70) [(.cmp .leq (.slen 7) (.lit 400), true), (.cmp .geq (.slen 7) (.lit 8), true), (.cmp .geq (.var 0) (.lit 0), true), (.cmp .leq (.var 0) (.lit 20), true), (.cmp .leq (.var 0) (.rlen 10), true)],
    ndAt (leafAt (execS qaC (fun m => stopEn 46 6 8 m) 3000 (st qaC 15 [.str [.lit [34], .var 7, .lit [34]], .agg [.nilSlice, .nilSlice, .str []], .agg [.int .i64 (.lit 0), .int .i64 (.lit 0), .int .i64 (.lit 0), .str [], .nilSlice, .slice 64 0 (.var 0) (.rest 1)]] (hpOf [(64, .rowv true 10 1 (.lit 0) [.str [.var 40]] 9)] 70) [(.cmp .leq (.slen 7) (.lit 400), true), (.cmp .geq (.slen 7) (.lit 8), true), (.cmp .geq (.var 0) (.lit 0), true), (.cmp .leq (.var 0) (.lit 20), true), (.cmp .leq (.var 0) (.rlen 10), true)])) []) [] [(0, .ptr 74 0), (1, .ptr 80 0), (2, .str [.lit [36, 40, 100, 111, 32], .chr (.sbyte 54 (.lit 0)), .lit [41, 46], .var 71]), (3, .bool (.lit true))] [[], [0, 1, 2, 3, 8, 9], [5], [0, 1, 2, 3], [0, 2, 4, 5], [6, 7]] [73, 74, 76, 77, 78, 79, 80, 82] []
      [(64, .rowv true 10 1 (.lit 0) [.str [.var 50]] 9)] 83
      [(.cmp .geq (.sbyte 54 (.lit 0)) (.lit 48), true), (.cmp .leq (.sbyte 54 (.lit 0)) (.lit 57), true), (.cmp .leq (.slen 50) (.lit 150), true), (.cmp .leq (.slen 51) (.lit 150), true), (.cmp .leq (.slen 71) (.lit 400), true), (.cmp .geq (.var 0) (.lit 0), true), (.cmp .leq (.var 0) (.lit 20), true), (.cmp .leq (.var 0) (.rlen 10), true), (.cmp .leq (.slen 7) (.lit 400), true), (.cmp .geq (.slen 7) (.lit 8), true), (.cmp .geq (.var 0) (.lit 0), true), (.cmp .leq (.var 0) (.lit 20), true), (.cmp .leq (.var 0) (.rlen 10), true)],
    ndAt (leafAt (execS qaC (stopAny [(46, 6, 3)]) 3000 (ndAt (leafAt (execS qaC (fun m => stopEn 46 6 8 m) 3000 (st qaC 15 [.str [.lit [34], .var 7, .lit [34]], .agg [.nilSlice, .nilSlice, .str []], .agg [.int .i64 (.lit 0), .int .i64 (.lit 0), .int .i64 (.lit 0), .str [], .nilSlice, .slice 64 0 (.var 0) (.rest 1)]] (hpOf [(64, .rowv true 10 1 (.lit 0) [.str [.var 40]] 9)] 70) [(.cmp .leq (.slen 7) (.lit 400), true), (.cmp .geq (.slen 7) (.lit 8), true), (.cmp .geq (.var 0) (.lit 0), true), (.cmp .leq (.var 0) (.lit 20), true), (.cmp .leq (.var 0) (.rlen 10), true)])) []) [] [(0, .ptr 74 0), (1, .ptr 80 0), (2, .str [.lit [36, 40, 100, 111, 32], .chr (.sbyte 54 (.lit 0)), .lit [41, 46], .var 71]), (3, .bool (.lit true))] [[], [0, 1, 2, 3, 8, 9], [5], [0, 1, 2, 3], [0, 2, 4, 5], [6, 7]] [73, 74, 76, 77, 78, 79, 80, 82] []
      [(64, .rowv true 10 1 (.lit 0) [.str [.var 50]] 9)] 83
      [(.cmp .geq (.sbyte 54 (.lit 0)) (.lit 48), true), (.cmp .leq (.sbyte 54 (.lit 0)) (.lit 57), true), (.cmp .leq (.slen 50) (.lit 150), true), (.cmp .leq (.slen 51) (.lit 150), true), (.cmp .leq (.slen 71) (.lit 400), true), (.cmp .geq (.var 0) (.lit 0), true), (.cmp .leq (.var 0) (.lit 20), true), (.cmp .leq (.var 0) (.rlen 10), true), (.cmp .leq (.slen 7) (.lit 400), true), (.cmp .geq (.slen 7) (.lit 8), true), (.cmp .geq (.var 0) (.lit 0), true), (.cmp .leq (.var 0) (.lit 20), true), (.cmp .leq (.var 0) (.rlen 10), true)])) [false, true]) [] [(0, .ptr 74 0), (1, .ptr 80 0), (2, .str [.lit [46], .var 71]), (3, .bool (.lit true)), (8, .ptr 83 0)] [[], [0, 1, 2, 3, 8, 9], [5], [0, 1, 2, 3], [0, 2, 4, 5], [6, 7]] [73, 76, 77, 78, 79, 80, 82] []
      [(64, .cells true (some (.v 10, 1)) [] 9), (74, .cells false none [.nilSlice, .nilSlice, .str [], .int .i64 (.lit 0), .int .i64 (.lit 0), .int .i64 (.lit 0), .str [], .nilSlice, .slice 64 0 (.var 0) (.rest 1), .int .i64 (.var 60)] 64), (83, .cells false none [.slice 84 0 (.rlen 21) (.rest 2), .int .i64 (.var 1)] 77), (84, .cells false (some (.v 21, 2)) [] 79)] 85
      [(.cmp .leq (.slen 71) (.lit 400), true), (.cmp .geq (.var 0) (.lit 0), true), (.cmp .leq (.var 0) (.lit 20), true), (.cmp .leq (.var 0) (.rlen 10), true), (.cmp .geq (.var 60) (.lit 0), true), (.cmp .leq (.var 60) (.var 0), true), (.cmp .geq (.var 1) (.lit 0), true), (.cmp .leq (.var 1) (.lit 3200), true), (.cmp .geq (.rlen 21) (.lit 1), true), (.cmp .leq (.rlen 21) (.lit 60), true), (.cmp .leq (.slen 7) (.lit 400), true), (.cmp .geq (.slen 7) (.lit 8), true), (.cmp .geq (.var 0) (.lit 0), true), (.cmp .leq (.var 0) (.lit 20), true), (.cmp .leq (.var 0) (.rlen 10), true)],
    ndAt (leafAt (execS qaC (stopAny [(46, 6, 3)]) 3000 (ndAt (leafAt (execS qaC (fun m => stopEn 46 6 8 m) 3000 (st qaC 15 [.str [.lit [34], .var 7, .lit [34]], .agg [.nilSlice, .nilSlice, .str []], .agg [.int .i64 (.lit 0), .int .i64 (.lit 0), .int .i64 (.lit 0), .str [], .nilSlice, .slice 64 0 (.var 0) (.rest 1)]] (hpOf [(64, .rowv true 10 1 (.lit 0) [.str [.var 40]] 9)] 70) [(.cmp .leq (.slen 7) (.lit 400), true), (.cmp .geq (.slen 7) (.lit 8), true), (.cmp .geq (.var 0) (.lit 0), true), (.cmp .leq (.var 0) (.lit 20), true), (.cmp .leq (.var 0) (.rlen 10), true)])) []) [] [(0, .ptr 74 0), (1, .ptr 80 0), (2, .str [.lit [36, 40, 100, 111, 32], .chr (.sbyte 54 (.lit 0)), .lit [41, 46], .var 71]), (3, .bool (.lit true))] [[], [0, 1, 2, 3, 8, 9], [5], [0, 1, 2, 3], [0, 2, 4, 5], [6, 7]] [73, 74, 76, 77, 78, 79, 80, 82] []
      [(64, .rowv true 10 1 (.lit 0) [.str [.var 50]] 9)] 83
      [(.cmp .geq (.sbyte 54 (.lit 0)) (.lit 48), true), (.cmp .leq (.sbyte 54 (.lit 0)) (.lit 57), true), (.cmp .leq (.slen 50) (.lit 150), true), (.cmp .leq (.slen 51) (.lit 150), true), (.cmp .leq (.slen 71) (.lit 400), true), (.cmp .geq (.var 0) (.lit 0), true), (.cmp .leq (.var 0) (.lit 20), true), (.cmp .leq (.var 0) (.rlen 10), true), (.cmp .leq (.slen 7) (.lit 400), true), (.cmp .geq (.slen 7) (.lit 8), true), (.cmp .geq (.var 0) (.lit 0), true), (.cmp .leq (.var 0) (.lit 20), true), (.cmp .leq (.var 0) (.rlen 10), true)])) [false, true]) [] [(0, .ptr 74 0), (1, .ptr 80 0), (2, .str [.lit [36, 40, 100, 111, 32], .chr (.sbyte 54 (.lit 0)), .lit [41, 46], .var 71]), (3, .bool (.lit true)), (8, .ptr 83 0)] [[], [0, 1, 2, 3, 8, 9], [5], [0, 1, 2, 3], [0, 2, 4, 5], [6, 7]] [73, 76, 77, 78, 79, 80, 82] []
      [(64, .rowv true 10 1 (.var 60) [.str [.var 50]] 9), (74, .cells false none [.nilSlice, .nilSlice, .str [], .int .i64 (.lit 0), .int .i64 (.lit 0), .int .i64 (.lit 0), .str [], .nilSlice, .slice 64 0 (.var 0) (.rest 1), .int .i64 (.var 60)] 64), (83, .cells false none [.slice 84 0 (.rlen 21) (.rest 2), .int .i64 (.var 1)] 77), (84, .cells false (some (.v 21, 2)) [] 79)] 85
      [(.cmp .geq (.sbyte 54 (.lit 0)) (.lit 48), true), (.cmp .leq (.sbyte 54 (.lit 0)) (.lit 57), true), (.cmp .leq (.slen 50) (.lit 150), true), (.cmp .leq (.slen 51) (.lit 150), true), (.cmp .leq (.slen 71) (.lit 400), true), (.cmp .geq (.var 0) (.lit 0), true), (.cmp .leq (.var 0) (.lit 20), true), (.cmp .leq (.var 0) (.rlen 10), true), (.cmp .geq (.var 60) (.lit 0), true), (.cmp .leq (.var 60) (.var 0), true), (.cmp .geq (.var 1) (.lit 0), true), (.cmp .leq (.var 1) (.lit 3200), true), (.cmp .geq (.rlen 21) (.lit 1), true), (.cmp .leq (.rlen 21) (.lit 60), true), (.cmp .leq (.slen 7) (.lit 400), true), (.cmp .geq (.slen 7) (.lit 8), true), (.cmp .geq (.var 0) (.lit 0), true), (.cmp .leq (.var 0) (.lit 20), true), (.cmp .leq (.var 0) (.rlen 10), true)],
    ndAt (leafAt (execS qaC (stopAny [(46, 6, 3)]) 3000 (ndAt (leafAt (execS qaC (fun m => stopEn 46 6 8 m) 3000 (st qaC 15 [.str [.lit [34], .var 7, .lit [34]], .agg [.nilSlice, .nilSlice, .str []], .agg [.int .i64 (.lit 0), .int .i64 (.lit 0), .int .i64 (.lit 0), .str [], .nilSlice, .slice 64 0 (.var 0) (.rest 1)]] (hpOf [(64, .rowv true 10 1 (.lit 0) [.str [.var 40]] 9)] 70) [(.cmp .leq (.slen 7) (.lit 400), true), (.cmp .geq (.slen 7) (.lit 8), true), (.cmp .geq (.var 0) (.lit 0), true), (.cmp .leq (.var 0) (.lit 20), true), (.cmp .leq (.var 0) (.rlen 10), true)])) []) [] [(0, .ptr 74 0), (1, .ptr 80 0), (2, .str [.lit [36, 40, 100, 111, 32], .chr (.sbyte 54 (.lit 0)), .lit [41, 46], .var 71]), (3, .bool (.lit true))] [[], [0, 1, 2, 3, 8, 9], [5], [0, 1, 2, 3], [0, 2, 4, 5], [6, 7]] [73, 74, 76, 77, 78, 79, 80, 82] []
      [(64, .rowv true 10 1 (.lit 0) [.str [.var 50]] 9)] 83
      [(.cmp .geq (.sbyte 54 (.lit 0)) (.lit 48), true), (.cmp .leq (.sbyte 54 (.lit 0)) (.lit 57), true), (.cmp .leq (.slen 50) (.lit 150), true), (.cmp .leq (.slen 51) (.lit 150), true), (.cmp .leq (.slen 71) (.lit 400), true), (.cmp .geq (.var 0) (.lit 0), true), (.cmp .leq (.var 0) (.lit 20), true), (.cmp .leq (.var 0) (.rlen 10), true), (.cmp .leq (.slen 7) (.lit 400), true), (.cmp .geq (.slen 7) (.lit 8), true), (.cmp .geq (.var 0) (.lit 0), true), (.cmp .leq (.var 0) (.lit 20), true), (.cmp .leq (.var 0) (.rlen 10), true)])) [false, true]) [] [(0, .ptr 74 0), (1, .ptr 80 0), (2, .str [.lit [36, 40, 100, 111, 32], .chr (.sbyte 54 (.lit 0)), .chr (.sbyte 54 (.lit 1)), .lit [41, 46], .var 71]), (3, .bool (.lit true)), (8, .ptr 83 0)] [[], [0, 1, 2, 3, 8, 9], [5], [0, 1, 2, 3], [0, 2, 4, 5], [6, 7]] [73, 76, 77, 78, 79, 80, 82] []
      [(64, .rowv true 10 1 (.var 60) [.str [.var 50]] 9), (74, .cells false none [.nilSlice, .nilSlice, .str [], .int .i64 (.lit 0), .int .i64 (.lit 0), .int .i64 (.lit 0), .str [], .nilSlice, .slice 64 0 (.var 0) (.rest 1), .int .i64 (.var 60)] 64), (83, .cells false none [.slice 84 0 (.rlen 21) (.rest 2), .int .i64 (.var 1)] 77), (84, .cells false (some (.v 21, 2)) [] 79)] 85
      [(.cmp .geq (.sbyte 54 (.lit 0)) (.lit 48), true), (.cmp .leq (.sbyte 54 (.lit 0)) (.lit 57), true), (.cmp .geq (.sbyte 54 (.lit 1)) (.lit 48), true), (.cmp .leq (.sbyte 54 (.lit 1)) (.lit 57), true), (.cmp .geq (.slen 54) (.lit 2), true), (.cmp .leq (.slen 50) (.lit 150), true), (.cmp .leq (.slen 51) (.lit 150), true), (.cmp .leq (.slen 71) (.lit 400), true), (.cmp .geq (.var 0) (.lit 0), true), (.cmp .leq (.var 0) (.lit 20), true), (.cmp .leq (.var 0) (.rlen 10), true), (.cmp .geq (.var 60) (.lit 0), true), (.cmp .leq (.var 60) (.var 0), true), (.cmp .geq (.var 1) (.lit 0), true), (.cmp .leq (.var 1) (.lit 3200), true), (.cmp .geq (.rlen 21) (.lit 1), true), (.cmp .leq (.rlen 21) (.lit 60), true), (.cmp .leq (.slen 7) (.lit 400), true), (.cmp .geq (.slen 7) (.lit 8), true), (.cmp .geq (.var 0) (.lit 0), true), (.cmp .leq (.var 0) (.lit 20), true), (.cmp .leq (.var 0) (.rlen 10), true)],
    ndAt (leafAt (execS qaC (stopAny [(46, 6, 3)]) 3000 (ndAt (leafAt (execS qaC (fun m => stopEn 46 6 8 m) 3000 (st qaC 15 [.str [.lit [34], .var 7, .lit [34]], .agg [.nilSlice, .nilSlice, .str []], .agg [.int .i64 (.lit 0), .int .i64 (.lit 0), .int .i64 (.lit 0), .str [], .nilSlice, .slice 64 0 (.var 0) (.rest 1)]] (hpOf [(64, .rowv true 10 1 (.lit 0) [.str [.var 40]] 9)] 70) [(.cmp .leq (.slen 7) (.lit 400), true), (.cmp .geq (.slen 7) (.lit 8), true), (.cmp .geq (.var 0) (.lit 0), true), (.cmp .leq (.var 0) (.lit 20), true), (.cmp .leq (.var 0) (.rlen 10), true)])) []) [] [(0, .ptr 74 0), (1, .ptr 80 0), (2, .str [.lit [36, 40, 100, 111, 32], .chr (.sbyte 54 (.lit 0)), .lit [41, 46], .var 71]), (3, .bool (.lit true))] [[], [0, 1, 2, 3, 8, 9], [5], [0, 1, 2, 3], [0, 2, 4, 5], [6, 7]] [73, 74, 76, 77, 78, 79, 80, 82] []
      [(64, .rowv true 10 1 (.lit 0) [.str [.var 50]] 9)] 83
      [(.cmp .geq (.sbyte 54 (.lit 0)) (.lit 48), true), (.cmp .leq (.sbyte 54 (.lit 0)) (.lit 57), true), (.cmp .leq (.slen 50) (.lit 150), true), (.cmp .leq (.slen 51) (.lit 150), true), (.cmp .leq (.slen 71) (.lit 400), true), (.cmp .geq (.var 0) (.lit 0), true), (.cmp .leq (.var 0) (.lit 20), true), (.cmp .leq (.var 0) (.rlen 10), true), (.cmp .leq (.slen 7) (.lit 400), true), (.cmp .geq (.slen 7) (.lit 8), true), (.cmp .geq (.var 0) (.lit 0), true), (.cmp .leq (.var 0) (.lit 20), true), (.cmp .leq (.var 0) (.rlen 10), true)])) [false, true]) [] [(0, .ptr 74 0), (1, .ptr 80 0), (2, .str []), (3, .bool (.lit true)), (8, .ptr 83 0)] [[], [0, 1, 2, 3, 8, 9], [5], [0, 1, 2, 3], [0, 2, 4, 5], [6, 7]] [73, 76, 77, 78, 79, 80, 82] []
      [(64, .cells true (some (.v 10, 1)) [] 9), (74, .cells false none [.nilSlice, .nilSlice, .str [], .int .i64 (.lit 0), .int .i64 (.lit 0), .int .i64 (.lit 0), .str [], .nilSlice, .slice 64 0 (.var 0) (.rest 1), .int .i64 (.var 60)] 64), (83, .cells false none [.slice 84 0 (.rlen 22) (.rest 2), .int .i64 (.var 1)] 77), (84, .cells false (some (.v 22, 2)) [] 79)] 85
      [(.cmp .leq (.slen 71) (.lit 400), true), (.cmp .geq (.var 0) (.lit 0), true), (.cmp .leq (.var 0) (.lit 20), true), (.cmp .leq (.var 0) (.rlen 10), true), (.cmp .geq (.var 60) (.lit 0), true), (.cmp .leq (.var 60) (.var 0), true), (.cmp .geq (.var 1) (.lit 0), true), (.cmp .leq (.var 1) (.lit 3200), true), (.cmp .geq (.rlen 22) (.lit 1), true), (.cmp .leq (.rlen 22) (.lit 60), true), (.cmp .leq (.slen 7) (.lit 400), true), (.cmp .geq (.slen 7) (.lit 8), true), (.cmp .geq (.var 0) (.lit 0), true), (.cmp .leq (.var 0) (.lit 20), true), (.cmp .leq (.var 0) (.rlen 10), true)]]
noncomputable def qao0 : OT := (.to 1 ⟨70, 83, [(70, 70), (73, 73), (74, 74), (75, 75), (76, 76), (77, 77), (78, 78), (79, 79), (80, 80), (82, 82)]⟩ [.str [.lit [36, 40, 100, 111, 32], .chr (.sbyte 54 (.lit 0)), .lit [41, 46], .var 71] [.var 7], .int (.add (.slen 7) (.lit 2)) (.add (.slen 7) (.lit 2)), .str [.lit [34], .var 7, .lit [34]] [.lit [34], .var 7, .lit [34]], .row 10 1 (some ((.v 10), 1)) [], .peek 10 (.lit 0) [.str [.var 50]], .int (.var 0) (.var 0)])
noncomputable def qao1 : OT := (.fork (.cmp .eql (.lit 0) (.var 0)) (.fin ⟨70, 70, []⟩ [.str [.lit [100, 111, 32], .var 74] [.lit [100, 111, 32], .chr (.sbyte 54 (.lit 0))]]) (.fork (.cmp .lss (.lit 0) (.var 0)) (.to 2 ⟨70, 85, [(70, 70), (73, 73), (74, 74), (75, 75), (76, 76), (77, 77), (78, 78), (79, 79), (80, 80), (82, 82), (83, 83), (84, 88)]⟩ [.str [.lit [46], .var 71] [.lit [46], .var 71], .int (.add (.slen 7) (.lit 2)) (.add (.slen 7) (.lit 2)), .str [.lit [34], .var 7, .lit [34]] [.lit [34], .var 7, .lit [34]], .int (.rlen 21) (.lit 1), .int (.var 1) (.slen 51), .row 10 1 (some ((.v 10), 1)) [], .row 21 2 none [.str [.var 51], .int .i64 (.lit 1)], .int (.var 0) (.var 0), .int (.var 60) (.lit 1)]) .no))
noncomputable def qao2 : OT := (.fork (.cmp .geq (.add (.lit 1) (.slen 71)) (.lit 2)) (.alt (.to 3 ⟨70, 85, [(70, 70), (73, 73), (74, 74), (75, 75), (76, 76), (77, 77), (78, 78), (79, 79), (80, 80), (82, 82), (83, 83), (84, 89)]⟩ [.str [.lit [36, 40, 100, 111, 32], .chr (.sbyte 54 (.lit 0)), .lit [41, 46], .var 71] [.var 71], .int (.add (.slen 7) (.lit 2)) (.add (.slen 7) (.lit 2)), .str [.lit [34], .var 7, .lit [34]] [.lit [34], .var 7, .lit [34]], .int (.rlen 21) (.add (.rlen 21) (.lit 1)), .int (.var 1) (.add (.var 1) (.lit 1)), .row 10 1 (some ((.v 10), 1)) [], .peek 10 (.var 60) [.str [.var 50]], .row 21 2 (some ((.v 21), 2)) [.str [.lit [46]], .int .i64 (.lit 1)], .int (.var 0) (.var 0), .int (.var 60) (.var 60)]) (.alt (.to 4 ⟨70, 85, [(70, 70), (73, 73), (74, 74), (75, 75), (76, 76), (77, 77), (78, 78), (79, 79), (80, 80), (82, 82), (83, 83), (84, 89)]⟩ [.str [.lit [36, 40, 100, 111, 32], .chr (.sbyte 54 (.lit 0)), .chr (.sbyte 54 (.lit 1)), .lit [41, 46], .var 71] [.var 71], .int (.add (.slen 7) (.lit 2)) (.add (.slen 7) (.lit 2)), .str [.lit [34], .var 7, .lit [34]] [.lit [34], .var 7, .lit [34]], .int (.rlen 21) (.add (.rlen 21) (.lit 1)), .int (.var 1) (.add (.var 1) (.lit 1)), .row 10 1 (some ((.v 10), 1)) [], .peek 10 (.var 60) [.str [.var 50]], .row 21 2 (some ((.v 21), 2)) [.str [.lit [46]], .int .i64 (.lit 1)], .int (.var 0) (.var 0), .int (.var 60) (.var 60)]) (.to 5 ⟨70, 85, [(70, 70), (73, 73), (74, 74), (75, 75), (76, 76), (77, 77), (78, 78), (79, 79), (80, 80), (82, 82), (83, 83), (84, 89)]⟩ [.str [] [.var 71], .int (.add (.slen 7) (.lit 2)) (.add (.slen 7) (.lit 2)), .str [.lit [34], .var 7, .lit [34]] [.lit [34], .var 7, .lit [34]], .int (.rlen 22) (.add (.rlen 21) (.lit 1)), .int (.var 1) (.add (.var 1) (.lit 1)), .row 10 1 (some ((.v 10), 1)) [], .row 22 2 (some ((.v 21), 2)) [.str [.lit [46]], .int .i64 (.lit 1)], .int (.var 0) (.var 0), .int (.var 60) (.var 60)]))) (.alt (.to 3 ⟨70, 85, [(70, 70), (73, 73), (74, 74), (75, 75), (76, 76), (77, 77), (78, 78), (79, 79), (80, 80), (82, 82), (83, 83), (84, 89)]⟩ [.str [.lit [36, 40, 100, 111, 32], .chr (.sbyte 54 (.lit 0)), .lit [41, 46], .var 71] [.var 71], .int (.add (.slen 7) (.lit 2)) (.add (.slen 7) (.lit 2)), .str [.lit [34], .var 7, .lit [34]] [.lit [34], .var 7, .lit [34]], .int (.rlen 21) (.add (.rlen 21) (.lit 1)), .int (.var 1) (.add (.var 1) (.lit 1)), .row 10 1 (some ((.v 10), 1)) [], .peek 10 (.var 60) [.str [.var 50]], .row 21 2 (some ((.v 21), 2)) [.str [.lit [46]], .int .i64 (.lit 1)], .int (.var 0) (.var 0), .int (.var 60) (.var 60)]) (.alt (.to 4 ⟨70, 85, [(70, 70), (73, 73), (74, 74), (75, 75), (76, 76), (77, 77), (78, 78), (79, 79), (80, 80), (82, 82), (83, 83), (84, 89)]⟩ [.str [.lit [36, 40, 100, 111, 32], .chr (.sbyte 54 (.lit 0)), .chr (.sbyte 54 (.lit 1)), .lit [41, 46], .var 71] [.var 71], .int (.add (.slen 7) (.lit 2)) (.add (.slen 7) (.lit 2)), .str [.lit [34], .var 7, .lit [34]] [.lit [34], .var 7, .lit [34]], .int (.rlen 21) (.add (.rlen 21) (.lit 1)), .int (.var 1) (.add (.var 1) (.lit 1)), .row 10 1 (some ((.v 10), 1)) [], .peek 10 (.var 60) [.str [.var 50]], .row 21 2 (some ((.v 21), 2)) [.str [.lit [46]], .int .i64 (.lit 1)], .int (.var 0) (.var 0), .int (.var 60) (.var 60)]) (.to 5 ⟨70, 85, [(70, 70), (73, 73), (74, 74), (75, 75), (76, 76), (77, 77), (78, 78), (79, 79), (80, 80), (82, 82), (83, 83), (84, 89)]⟩ [.str [] [.var 71], .int (.add (.slen 7) (.lit 2)) (.add (.slen 7) (.lit 2)), .str [.lit [34], .var 7, .lit [34]] [.lit [34], .var 7, .lit [34]], .int (.rlen 22) (.add (.rlen 21) (.lit 1)), .int (.var 1) (.add (.var 1) (.lit 1)), .row 10 1 (some ((.v 10), 1)) [], .row 22 2 (some ((.v 21), 2)) [.str [.lit [46]], .int .i64 (.lit 1)], .int (.var 0) (.var 0), .int (.var 60) (.var 60)]))))
noncomputable def qao3 : OT := (.fork (.cmp .eql (.var 60) (.var 0)) (.fin ⟨70, 70, []⟩ [.str [.lit [100, 111, 32], .var 74] [.lit [100, 111, 32], .chr (.sbyte 54 (.lit 0))]]) (.fork (.cmp .lss (.sub (.add (.var 60) (.lit 1)) (.lit 1)) (.var 0)) (.to 2 ⟨70, 85, [(70, 70), (73, 73), (74, 74), (75, 75), (76, 76), (77, 77), (78, 78), (79, 79), (80, 80), (82, 82), (83, 83), (84, 89)]⟩ [.str [.lit [46], .var 71] [.lit [46], .var 71], .int (.add (.slen 7) (.lit 2)) (.add (.slen 7) (.lit 2)), .str [.lit [34], .var 7, .lit [34]] [.lit [34], .var 7, .lit [34]], .int (.rlen 21) (.add (.rlen 21) (.lit 1)), .int (.var 1) (.add (.var 1) (.slen 51)), .row 10 1 (some ((.v 10), 1)) [], .row 21 2 (some ((.v 21), 2)) [.str [.var 51], .int .i64 (.lit 1)], .int (.var 0) (.var 0), .int (.var 60) (.add (.var 60) (.lit 1))]) .no))
noncomputable def qao4 : OT := (.fork (.cmp .eql (.var 60) (.var 0)) (.fin ⟨70, 70, []⟩ [.str [.lit [100, 111, 32], .var 74] [.lit [100, 111, 32], .chr (.sbyte 54 (.lit 0)), .chr (.sbyte 54 (.lit 1))]]) (.fork (.cmp .lss (.sub (.add (.var 60) (.lit 1)) (.lit 1)) (.var 0)) (.to 2 ⟨70, 85, [(70, 70), (73, 73), (74, 74), (75, 75), (76, 76), (77, 77), (78, 78), (79, 79), (80, 80), (82, 82), (83, 83), (84, 89)]⟩ [.str [.lit [46], .var 71] [.lit [46], .var 71], .int (.add (.slen 7) (.lit 2)) (.add (.slen 7) (.lit 2)), .str [.lit [34], .var 7, .lit [34]] [.lit [34], .var 7, .lit [34]], .int (.rlen 21) (.add (.rlen 21) (.lit 1)), .int (.var 1) (.add (.var 1) (.slen 51)), .row 10 1 (some ((.v 10), 1)) [], .row 21 2 (some ((.v 21), 2)) [.str [.var 51], .int .i64 (.lit 1)], .int (.var 0) (.var 0), .int (.var 60) (.add (.var 60) (.lit 1))]) .no))
noncomputable def qao5 : OT := .no
noncomputable def qaG : Graph := { tg := pick qatg, stop := (fun m => stopAny [(46, (6, 3))] m || (fun m => stopEn 46 6 8 m) m), n := (fun _ => 3000), pl := fun k => ([qao0, qao1, qao2, qao3, qao4, qao5].getD k .no).plan, o := fun k => [qao0, qao1, qao2, qao3, qao4, qao5].getD k .no, v := .tup [.agg [.nilSlice, .nilSlice, .nilSlice, .str [], .str [.lit [100, 111, 32], .var 74], .bool (.lit true), .str []], .int .i64 (.lit 0)], h := (hpOf [] 70), f := 15, N := 70 }
theorem qaat0 : qaG.At qaC 0 := ⟨by kernel_rfl, by kernel_rfl, by kernel_rfl⟩
theorem qaat1 : qaG.At qaC 1 := ⟨by kernel_rfl, by kernel_rfl, by kernel_rfl⟩
theorem qaat2 : qaG.At qaC 2 := ⟨by kernel_rfl, by kernel_rfl, by kernel_rfl⟩
theorem qaat3 : qaG.At qaC 3 := ⟨by kernel_rfl, by kernel_rfl, by kernel_rfl⟩
theorem qaat4 : qaG.At qaC 4 := ⟨by kernel_rfl, by kernel_rfl, by kernel_rfl⟩
theorem qaat5 : qaG.At qaC 5 := ⟨by kernel_rfl, by kernel_rfl, by kernel_rfl⟩
theorem qaf0 : (qaG.tg 0).facts = [(.cmp .leq (.slen 7) (.lit 400), true), (.cmp .geq (.slen 7) (.lit 8), true), (.cmp .geq (.var 0) (.lit 0), true), (.cmp .leq (.var 0) (.lit 20), true), (.cmp .leq (.var 0) (.rlen 10), true)] := by kernel_rfl
theorem qaf1 : (qaG.tg 1).facts = [(.cmp .geq (.sbyte 54 (.lit 0)) (.lit 48), true), (.cmp .leq (.sbyte 54 (.lit 0)) (.lit 57), true), (.cmp .leq (.slen 50) (.lit 150), true), (.cmp .leq (.slen 51) (.lit 150), true), (.cmp .leq (.slen 71) (.lit 400), true), (.cmp .geq (.var 0) (.lit 0), true), (.cmp .leq (.var 0) (.lit 20), true), (.cmp .leq (.var 0) (.rlen 10), true), (.cmp .leq (.slen 7) (.lit 400), true), (.cmp .geq (.slen 7) (.lit 8), true), (.cmp .geq (.var 0) (.lit 0), true), (.cmp .leq (.var 0) (.lit 20), true), (.cmp .leq (.var 0) (.rlen 10), true)] := by kernel_rfl
theorem qaf2 : (qaG.tg 2).facts = [(.cmp .leq (.slen 71) (.lit 400), true), (.cmp .geq (.var 0) (.lit 0), true), (.cmp .leq (.var 0) (.lit 20), true), (.cmp .leq (.var 0) (.rlen 10), true), (.cmp .geq (.var 60) (.lit 0), true), (.cmp .leq (.var 60) (.var 0), true), (.cmp .geq (.var 1) (.lit 0), true), (.cmp .leq (.var 1) (.lit 3200), true), (.cmp .geq (.rlen 21) (.lit 1), true), (.cmp .leq (.rlen 21) (.lit 60), true), (.cmp .leq (.slen 7) (.lit 400), true), (.cmp .geq (.slen 7) (.lit 8), true), (.cmp .geq (.var 0) (.lit 0), true), (.cmp .leq (.var 0) (.lit 20), true), (.cmp .leq (.var 0) (.rlen 10), true)] := by kernel_rfl
theorem qaf3 : (qaG.tg 3).facts = [(.cmp .geq (.sbyte 54 (.lit 0)) (.lit 48), true), (.cmp .leq (.sbyte 54 (.lit 0)) (.lit 57), true), (.cmp .leq (.slen 50) (.lit 150), true), (.cmp .leq (.slen 51) (.lit 150), true), (.cmp .leq (.slen 71) (.lit 400), true), (.cmp .geq (.var 0) (.lit 0), true), (.cmp .leq (.var 0) (.lit 20), true), (.cmp .leq (.var 0) (.rlen 10), true), (.cmp .geq (.var 60) (.lit 0), true), (.cmp .leq (.var 60) (.var 0), true), (.cmp .geq (.var 1) (.lit 0), true), (.cmp .leq (.var 1) (.lit 3200), true), (.cmp .geq (.rlen 21) (.lit 1), true), (.cmp .leq (.rlen 21) (.lit 60), true), (.cmp .leq (.slen 7) (.lit 400), true), (.cmp .geq (.slen 7) (.lit 8), true), (.cmp .geq (.var 0) (.lit 0), true), (.cmp .leq (.var 0) (.lit 20), true), (.cmp .leq (.var 0) (.rlen 10), true)] := by kernel_rfl
theorem qaf4 : (qaG.tg 4).facts = [(.cmp .geq (.sbyte 54 (.lit 0)) (.lit 48), true), (.cmp .leq (.sbyte 54 (.lit 0)) (.lit 57), true), (.cmp .geq (.sbyte 54 (.lit 1)) (.lit 48), true), (.cmp .leq (.sbyte 54 (.lit 1)) (.lit 57), true), (.cmp .geq (.slen 54) (.lit 2), true), (.cmp .leq (.slen 50) (.lit 150), true), (.cmp .leq (.slen 51) (.lit 150), true), (.cmp .leq (.slen 71) (.lit 400), true), (.cmp .geq (.var 0) (.lit 0), true), (.cmp .leq (.var 0) (.lit 20), true), (.cmp .leq (.var 0) (.rlen 10), true), (.cmp .geq (.var 60) (.lit 0), true), (.cmp .leq (.var 60) (.var 0), true), (.cmp .geq (.var 1) (.lit 0), true), (.cmp .leq (.var 1) (.lit 3200), true), (.cmp .geq (.rlen 21) (.lit 1), true), (.cmp .leq (.rlen 21) (.lit 60), true), (.cmp .leq (.slen 7) (.lit 400), true), (.cmp .geq (.slen 7) (.lit 8), true), (.cmp .geq (.var 0) (.lit 0), true), (.cmp .leq (.var 0) (.lit 20), true), (.cmp .leq (.var 0) (.rlen 10), true)] := by kernel_rfl
theorem qaf5 : (qaG.tg 5).facts = [(.cmp .leq (.slen 71) (.lit 400), true), (.cmp .geq (.var 0) (.lit 0), true), (.cmp .leq (.var 0) (.lit 20), true), (.cmp .leq (.var 0) (.rlen 10), true), (.cmp .geq (.var 60) (.lit 0), true), (.cmp .leq (.var 60) (.var 0), true), (.cmp .geq (.var 1) (.lit 0), true), (.cmp .leq (.var 1) (.lit 3200), true), (.cmp .geq (.rlen 22) (.lit 1), true), (.cmp .leq (.rlen 22) (.lit 60), true), (.cmp .leq (.slen 7) (.lit 400), true), (.cmp .geq (.slen 7) (.lit 8), true), (.cmp .geq (.var 0) (.lit 0), true), (.cmp .leq (.var 0) (.lit 20), true), (.cmp .leq (.var 0) (.rlen 10), true)] := by kernel_rfl
theorem qast : startF qaC [(.cmp .leq (.slen 7) (.lit 400), true), (.cmp .geq (.slen 7) (.lit 8), true), (.cmp .geq (.var 0) (.lit 0), true), (.cmp .leq (.var 0) (.lit 20), true), (.cmp .leq (.var 0) (.rlen 10), true)] 15 [.str [.lit [34], .var 7, .lit [34]], .agg [.nilSlice, .nilSlice, .str []], .agg [.int .i64 (.lit 0), .int .i64 (.lit 0), .int .i64 (.lit 0), .str [], .nilSlice, .slice 64 0 (.var 0) (.rest 1)]] (hpOf [(64, .rowv true 10 1 (.lit 0) [.str [.var 40]] 9)] 70) = some (qaG.tg 0) := by kernel_rfl
end Go.Sx
namespace Go.Sx
open Go.Proofs
set_option maxRecDepth 100000
noncomputable def o_qa : Orc := { facts := [(.cmp .lss (.var 0) (.var 62), true)], f := 15, args := [.str [.lit [34], .var 7, .lit [34]], .agg [.nilSlice, .nilSlice, .str []], .agg [.int .i64 (.lit 0), .int .i64 (.lit 0), .int .i64 (.lit 0), .str [], .nilSlice, .slice 64 0 (.var 0) (.rest 1)]], pre := [(64, .cells true (some (.v 10, 1)) [] 9)], next := 70, v := .tup [.agg [.nilSlice, .nilSlice, .nilSlice, .str [], .str [.lit [100, 111, 32], .var 74], .bool (.lit true), .str []], .int .i64 (.lit 0)], post := [], next' := 70 }
theorem qa_ok {A : List (List UInt8)} {N i : Nat} {ρ : Env} (L : NL A N i 1 1 ρ) (hi : i < N) : OrcOK Tryz.prog ρ o_qa := by
  have n1 := L.n1
  have n2 := L.n2
  have nA := L.nA

  have hd0 : Lib.decDigits 0 = [48] := by decide +kernel
  have wl : ∀ j n, j + n ≤ 20 → (wsuf j n).length ≤ 180 := fun j n h => by have := wsuf_len n j h; omega
  have wnl : ∀ j, j ≤ N → (wantL A j).length ≤ 151 * j := fun j h => want_len (fun k hk => L.each k (by omega))
  have tl : ∀ j, j < N → (A.getD j []).length ≤ 150 ∧ (trimR (A.getD j [])).length ≤ 150 := fun j h => ⟨L.each j h, Nat.le_trans (trimR_len _) (L.each j h)⟩
  have ctx : ∀ ρ', ρ'.rows 22 = ρ.rows 22 → ρ'.str 75 = ρ.str 75 → ρ'.str 76 = ρ.str 76 → ρ'.int 77 = ρ.int 77 → ρ'.str 7 = ρ.str 7 → ρ'.str 51 = trimR (ρ'.str 50) → (ρ'.str 50).length ≤ 150 → CtxOK qaC Tryz.prog ρ' := by
    intro ρ' a1 a2 a3 a4 a5 a6 a7
    have w := wnl N (Nat.le_refl _)
    refine ctx18 orcs_nil (pors_cons (por_tr a6 (by omega)) (pors_cons (pa_ok n1 n2 (by rw [a5, L.word])) pors_nil))
  refine orc_facts (by kernel_rfl) fun _ => ?_
  refine orc_of_graph (G := qaG) (C := qaC) (I := ttI 1 1 A N i False ρ) (μ := ttμ N) (l0 := [(64, .rowv true 10 1 (.lit 0) [.str [.var 40]] 9)]) ?_ ?_ ?_ ?_ rfl qast rfl rfl rfl rfl (by decide) (by kernel_rfl) ?_
  · intro k ρ' hk
    match k, hk with
    | 0, hk =>
      replace hk : ρ' = ρ := hk
      subst hk; exact ctx _ rfl rfl rfl rfl rfl (by rw [L.s51, L.s50]; rfl) (by rw [L.s50]; simp)
    | 1, hk =>
      replace hk : ρ' = _ := hk
      subst hk; exact ctx _ rfl rfl rfl rfl rfl rfl (tl 0 (by omega)).1
    | 2, hk => obtain ⟨j, _, _, rfl⟩ := hk; exact ctx _ rfl rfl rfl rfl rfl (by show ρ.str 51 = trimR (ρ.str 50); rw [L.s51, L.s50]; rfl) (by show (ρ.str 50).length ≤ 150; rw [L.s50]; simp)
    | 3, hk => obtain ⟨j, _, _, _, h, rfl⟩ := hk; exact ctx _ rfl rfl rfl rfl rfl rfl (tl j h).1
    | 4, hk => obtain ⟨j, _, _, h, rfl⟩ := hk; exact ctx _ rfl rfl rfl rfl rfl rfl (tl j h).1
    | 5, hk => obtain ⟨_, rfl⟩ := hk; exact ctx _ rfl rfl rfl rfl rfl (by show ρ.str 51 = trimR (ρ.str 50); rw [L.s51, L.s50]; rfl) (by show (ρ.str 50).length ≤ 150; rw [L.s50]; simp)
  · intro k ρ' hk
    have w0 := wsuf_len N 0 (by omega)
    match k, hk with
    | 0, hk =>
      replace hk : ρ' = ρ := hk
      subst hk
      rw [qaf0]
      intro p hp
      simp only [List.mem_cons, List.not_mem_nil, or_false] at hp
      rcases hp with rfl | rfl | rfl | rfl | rfl <;> simp [SB.den, SI.den, intCmp, ltInt_iff, L.rows, L.int0, L.word, rows1_lth] <;> omega
    | 1, hk =>
      replace hk : ρ' = _ := hk
      subst hk
      have e1 := tl 0 (by omega)
      have e2 := wl 1 (N - 1) (by omega)
      obtain ⟨x, hx⟩ : ∃ x, x = A.getD 0 [] := ⟨_, rfl⟩
      rw [← hx] at e1
      rw [qaf1]
      have ii := L.ii
      intro p hp
      simp only [List.mem_cons, List.not_mem_nil, or_false] at hp
      rcases hp with rfl | rfl | rfl | rfl | rfl | rfl | rfl | rfl | rfl | rfl | rfl | rfl | rfl <;> simp [-List.getD_eq_getElem?_getD, SB.den, SI.den, intCmp, ltInt_iff, ttS, setS_int, setS_rows, setS_str, L.rows, L.int0, L.word, rows1_lth, hd0, ← hx] <;> omega
    | 2, hk =>
      obtain ⟨j, j1, j2, rfl⟩ := hk
      have e1 := tl j j2
      have e2 := wl (j + 1) (N - j - 1) (by omega)
      have e3 := wnl j (by omega)
      have e4 := rn_len 1 1 A j
      obtain ⟨x, hx⟩ : ∃ x, x = A.getD j [] := ⟨_, rfl⟩
      rw [← hx] at e1
      rw [qaf2]
      have ii := L.ii
      intro p hp
      simp only [List.mem_cons, List.not_mem_nil, or_false] at hp
      rcases hp with rfl | rfl | rfl | rfl | rfl | rfl | rfl | rfl | rfl | rfl | rfl | rfl | rfl | rfl | rfl <;> simp [-List.getD_eq_getElem?_getD, SB.den, SI.den, intCmp, ltInt_iff, ttD, setI_int, setI_rows, setI_str, setR_int, setR_rows, setR_str, setS_int, setS_rows, setS_str, L.rows, L.int0, L.word, rows1_lth, ← hx] <;> omega
    | 3, hk =>
      obtain ⟨j, j0, j1, j3, j2, rfl⟩ := hk
      obtain ⟨d, c0, c1, c2⟩ := dd_1 j1
      have e1 := tl j j2
      have e2 := wl (j + 1) (N - j - 1) (by omega)
      have e3 := wnl j (by omega)
      have e4 := rn_len 1 1 A j
      obtain ⟨x, hx⟩ : ∃ x, x = A.getD j [] := ⟨_, rfl⟩
      rw [← hx] at e1
      rw [qaf3]
      have ii := L.ii
      intro p hp
      simp only [List.mem_cons, List.not_mem_nil, or_false] at hp
      rcases hp with rfl | rfl | rfl | rfl | rfl | rfl | rfl | rfl | rfl | rfl | rfl | rfl | rfl | rfl | rfl | rfl | rfl | rfl | rfl <;> simp [-List.getD_eq_getElem?_getD, SB.den, SI.den, intCmp, ltInt_iff, ttU, setI_int, setI_rows, setI_str, setR_int, setR_rows, setR_str, setS_int, setS_rows, setS_str, L.rows, L.int0, L.word, rows1_lth, c0, ← hx] <;> omega
    | 4, hk =>
      obtain ⟨j, j1, j3, j2, rfl⟩ := hk
      obtain ⟨d, f, c0, c1, c2, c3, c4⟩ := dd_2 j1 (by omega)
      have e1 := tl j j2
      have e2 := wl (j + 1) (N - j - 1) (by omega)
      have e3 := wnl j (by omega)
      have e4 := rn_len 1 1 A j
      obtain ⟨x, hx⟩ : ∃ x, x = A.getD j [] := ⟨_, rfl⟩
      rw [← hx] at e1
      rw [qaf4]
      have ii := L.ii
      intro p hp
      simp only [List.mem_cons, List.not_mem_nil, or_false] at hp
      rcases hp with rfl | rfl | rfl | rfl | rfl | rfl | rfl | rfl | rfl | rfl | rfl | rfl | rfl | rfl | rfl | rfl | rfl | rfl | rfl | rfl | rfl | rfl <;> simp [-List.getD_eq_getElem?_getD, SB.den, SI.den, intCmp, ltInt_iff, ttU, setI_int, setI_rows, setI_str, setR_int, setR_rows, setR_str, setS_int, setS_rows, setS_str, L.rows, L.int0, L.word, rows1_lth, c0, ← hx] <;> omega
    | 5, hk =>
      exact hk.1.elim
  · intro k ρ' hk
    match k, hk with
    | 0, _ => exact qaat0
    | 1, _ => exact qaat1
    | 2, _ => exact qaat2
    | 3, _ => exact qaat3
    | 4, _ => exact qaat4
    | 5, _ => exact qaat5
  · intro k ρ' hk
    have rk := rows1_ok A
    have nk := fun n => nrows_ok (rn 1 1 A n)
    have nkD : ∀ j, ∀ q ∈ ((rn 1 1 A j ++ [(1, trimR (A.getD j []))]).map nrow), q.length = 2 ∧ ∀ v ∈ q, v.oneCell' = true := fun j => nrows_ok _
    match k, hk with
    | 0, hk =>
      replace hk : ρ' = ρ := hk
      subst hk
      show OTok _ _ _ 0 _ qao0
      simp only [qao0, OTok]
      have hw := wsuf_from (j := 0) (N := N) (by omega)
      simp only [Nat.sub_zero, Nat.zero_add, pt', hd0] at hw
      refine ⟨ttS A N ρ', ?_, rfl, by simp [ttμ]⟩
      simp [-List.getD_eq_getElem?_getD, Eqns, Eqn.ok, SI.den, SS.den, SP.den, ttS, setS_int, setS_rows, setS_str, preCells, RX.flat, RX.ok, AV.val, L.word, L.rows, hd0, hw]
      exact ⟨rk, npk3⟩
    | 1, hk =>
      replace hk : ρ' = _ := hk
      subst hk
      show OTok _ _ _ 1 _ qao1
      simp only [qao1, OTok]
      have go : 0 < i → ∃ ρ', Eqns ρ' (ttS A N ρ) [.str [.lit [46], .var 71] [.lit [46], .var 71], .int (.add (.slen 7) (.lit 2)) (.add (.slen 7) (.lit 2)), .str [.lit [34], .var 7, .lit [34]] [.lit [34], .var 7, .lit [34]], .int (.rlen 21) (.lit 1), .int (.var 1) (.slen 51), .row 10 1 (some ((.v 10), 1)) [], .row 21 2 none [.str [.var 51], .int .i64 (.lit 1)], .int (.var 0) (.var 0), .int (.var 60) (.lit 1)] ∧ ttI 1 1 A N i False ρ 2 ρ' ∧ ttμ N 2 ρ' < ttμ N 1 (ttS A N ρ) := by
        intro hM
        refine ⟨ttD 1 1 A N ρ 0, ?_, ⟨0, by omega, by omega, rfl⟩, by simp [ttμ, ttD, setS_int, setR_int, setI_int]; omega⟩
        simp [-List.getD_eq_getElem?_getD, Eqns, Eqn.ok, SI.den, SS.den, SP.den, ttS, ttD, setI_int, setI_rows, setI_str, setR_int, setR_rows, setR_str, setS_int, setS_rows, setS_str, preCells, RX.flat, RX.ok, AV.val, nrow, qrow, vstr, L.word, L.rows, rn, wantL]
        repeat' apply And.intro
        all_goals first | rfl | exact rk
      refine ⟨fun g => ⟨ρ, ?_, rfl⟩, fun g => ⟨fun h => ?_, fun h => ?_⟩⟩
      · have hj : i = 0 := by simp [SB.den, SI.den, intCmp, eqInt_iff, ttS, setS_int, L.int0] at g; omega
        simp [Eqns, Eqn.ok, SI.den, SS.den, SP.den, ttS, setS_str, preCells, RX.ok, L.dig, hj, hd0]
      · have hj : 0 < i := by simp [SB.den, SI.den, intCmp, ltInt_iff, ttS, setS_int, L.int0] at h; omega
        exact go hj
      · have hj : i = 0 := by simp [SB.den, SI.den, intCmp, ltInt_iff, ttS, setS_int, L.int0] at h; omega
        simp [SB.den, SI.den, intCmp, eqInt_iff, ttS, setS_int, L.int0, hj] at g
    | 2, hk =>
      obtain ⟨j, j1, j2, rfl⟩ := hk
      have ii := L.ii
      show OTok _ _ _ 2 _ qao2
      simp only [qao2, OTok]
      refine ⟨fun _ => ?_, fun _ => ?_⟩
      all_goals
        by_cases hN : j + 1 = N
        · omega
        · have hw := wsuf_from (j := j + 1) (N := N) (by omega)
          rw [show N - (j + 1) = N - j - 1 by omega] at hw
          have hm := show N - (j + 1) - 1 = N - j - 1 - 1 by omega
          by_cases g10 : j + 1 < 10
          · obtain ⟨d, c0, c1, c2⟩ := dd_1 g10
            refine .inl ⟨ttU 1 1 A N ρ (j + 1), ?_, ⟨j + 1, by omega, g10, by omega, by omega, rfl⟩, by simp [ttμ, ttU, ttD, setS_int, setR_int, setI_int]; omega⟩
            simp [-List.getD_eq_getElem?_getD, Eqns, Eqn.ok, SI.den, SS.den, SP.den, ttU, ttD, setI_int, setI_rows, setI_str, setR_int, setR_rows, setR_str, setS_int, setS_rows, setS_str, preCells, RX.flat, RX.ok, AV.val, nrow, qrow, vstr, L.word, L.rows, hw, c0, rn, wantL, pt']
            repeat' apply And.intro
            all_goals first | omega | (rw [hm]; done) | exact rk | exact npk3' | exact npk3' | (simpa [Eqns, Eqn.ok, SI.den, SS.den, SP.den, ttS, ttU, ttD, ttZ, setI_int, setI_rows, setI_str, setR_int, setR_rows, setR_str, setS_int, setS_rows, setS_str, preCells, RX.flat, RX.ok, AV.val, nmap_app, nrow, qrow, vstr, rn] using nk (j + 1))
          · obtain ⟨d, f, c0, c1, c2, c3, c4⟩ := dd_2 g10 (by omega)
            refine .inr (.inl ⟨ttU 1 1 A N ρ (j + 1), ?_, ⟨j + 1, g10, by omega, by omega, rfl⟩, by simp [ttμ, ttU, ttD, setS_int, setR_int, setI_int]; omega⟩)
            simp [-List.getD_eq_getElem?_getD, Eqns, Eqn.ok, SI.den, SS.den, SP.den, ttU, ttD, setI_int, setI_rows, setI_str, setR_int, setR_rows, setR_str, setS_int, setS_rows, setS_str, preCells, RX.flat, RX.ok, AV.val, nrow, qrow, vstr, L.word, L.rows, hw, c0, rn, wantL, pt']
            repeat' apply And.intro
            all_goals first | omega | (rw [hm]; done) | exact rk | exact npk3' | exact npk3' | (simpa [Eqns, Eqn.ok, SI.den, SS.den, SP.den, ttS, ttU, ttD, ttZ, setI_int, setI_rows, setI_str, setR_int, setR_rows, setR_str, setS_int, setS_rows, setS_str, preCells, RX.flat, RX.ok, AV.val, nmap_app, nrow, qrow, vstr, rn] using nk (j + 1))
    | 3, hk =>
      obtain ⟨j, j0, j1, j3, j2, rfl⟩ := hk
      obtain ⟨d, c0, c1, c2⟩ := dd_1 j1
      have ii := L.ii
      show OTok _ _ _ 3 _ qao3
      simp only [qao3, OTok]
      refine ⟨fun g => ?_, fun g => ⟨fun h => ?_, fun h => ?_⟩⟩
      · have hj : i = j := by simp [SB.den, SI.den, intCmp, eqInt_iff, ttU, setS_int, setR_int, setI_int, L.int0] at g; omega
        refine ⟨ρ, ?_, rfl⟩
        simp [Eqns, Eqn.ok, SI.den, SS.den, SP.den, ttU, setS_str, preCells, RX.ok, L.dig, hj, c0]
      · have hj : j < i := by simp [SB.den, SI.den, intCmp, ltInt_iff, ttU, setS_int, setR_int, setI_int, L.int0] at h; omega
        refine ⟨ttD 1 1 A N ρ j, ?_, ⟨j, hj, j2, rfl⟩, by simp [ttμ, ttU, ttD, setS_int, setR_int, setI_int]; omega⟩
        simp [-List.getD_eq_getElem?_getD, Eqns, Eqn.ok, SI.den, SS.den, SP.den, ttU, ttD, setI_int, setI_rows, setI_str, setR_int, setR_rows, setR_str, setS_int, setS_rows, setS_str, preCells, RX.flat, RX.ok, AV.val, nrow, qrow, vstr, L.word, L.rows, c0]
        repeat' apply And.intro
        all_goals first | omega | exact rk | (simpa [Eqns, Eqn.ok, SI.den, SS.den, SP.den, ttS, ttU, ttD, ttZ, setI_int, setI_rows, setI_str, setR_int, setR_rows, setR_str, setS_int, setS_rows, setS_str, preCells, RX.flat, RX.ok, AV.val, nmap_app, nrow, qrow, vstr] using nkD j)
      · simp [SB.den, SI.den, intCmp, ltInt_iff, eqInt_iff, ttU, setS_int, setR_int, setI_int, L.int0] at g h; omega
    | 4, hk =>
      obtain ⟨j, j1, j3, j2, rfl⟩ := hk
      obtain ⟨d, f, c0, c1, c2, c3, c4⟩ := dd_2 j1 (by omega)
      have ii := L.ii
      show OTok _ _ _ 4 _ qao4
      simp only [qao4, OTok]
      refine ⟨fun g => ?_, fun g => ⟨fun h => ?_, fun h => ?_⟩⟩
      · have hj : i = j := by simp [SB.den, SI.den, intCmp, eqInt_iff, ttU, setS_int, setR_int, setI_int, L.int0] at g; omega
        refine ⟨ρ, ?_, rfl⟩
        simp [Eqns, Eqn.ok, SI.den, SS.den, SP.den, ttU, setS_str, preCells, RX.ok, L.dig, hj, c0]
      · have hj : j < i := by simp [SB.den, SI.den, intCmp, ltInt_iff, ttU, setS_int, setR_int, setI_int, L.int0] at h; omega
        refine ⟨ttD 1 1 A N ρ j, ?_, ⟨j, hj, j2, rfl⟩, by simp [ttμ, ttU, ttD, setS_int, setR_int, setI_int]; omega⟩
        simp [-List.getD_eq_getElem?_getD, Eqns, Eqn.ok, SI.den, SS.den, SP.den, ttU, ttD, setI_int, setI_rows, setI_str, setR_int, setR_rows, setR_str, setS_int, setS_rows, setS_str, preCells, RX.flat, RX.ok, AV.val, nrow, qrow, vstr, L.word, L.rows, c0]
        repeat' apply And.intro
        all_goals first | omega | exact rk | (simpa [Eqns, Eqn.ok, SI.den, SS.den, SP.den, ttS, ttU, ttD, ttZ, setI_int, setI_rows, setI_str, setR_int, setR_rows, setR_str, setS_int, setS_rows, setS_str, preCells, RX.flat, RX.ok, AV.val, nmap_app, nrow, qrow, vstr] using nkD j)
      · simp [SB.den, SI.den, intCmp, ltInt_iff, eqInt_iff, ttU, setS_int, setR_int, setI_int, L.int0] at g h; omega
    | 5, hk =>
      exact hk.1.elim
  · refine ⟨rfl, .inr ⟨_, _, _, _, _, _, rfl, rfl, rfl, by simp [SI.den], ?_⟩, trivial⟩
    intro xs hx
    simp only [SI.den, L.rows] at hx
    rw [rows1_get hx]
    simp [AV.val, SS.den, SP.den, L.first, vstr]
end Go.Sx
