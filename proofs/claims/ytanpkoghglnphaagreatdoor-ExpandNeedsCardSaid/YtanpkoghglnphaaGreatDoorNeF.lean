import Derived.Test.YtanpkoghglnphaaGreatDoorNeB
import Derived.Test.YtanpkoghglnphaaGreatDoorNeC
namespace Go.Sx
open Go.Proofs
set_option maxRecDepth 1000000

noncomputable def qbC : Ctx := ctxOf Tryz.prog lies18 exts18 [o_tm] [p_tr, p_pa]
noncomputable def qbtg : List AM := [st qbC 15 [.str [.lit [34], .var 7, .lit [34]], .agg [.nilSlice, .nilSlice, .str []], .agg [.int .i64 (.lit 0), .int .i64 (.lit 0), .int .i64 (.lit 0), .str [], .nilSlice, .slice 64 0 (.var 62) (.rest 1)]] (hpOf [(64, .rowv true 10 1 (.lit 0) [.str [.var 40]] 9)] 70) [(.cmp .leq (.slen 7) (.lit 400), true), (.cmp .geq (.slen 7) (.lit 8), true), (.cmp .geq (.var 62) (.lit 1), true), (.cmp .leq (.var 62) (.lit 20), true), (.cmp .leq (.var 62) (.rlen 10), true)],
    ndAt (leafAt (execS qbC (fun m => stopEn 46 6 8 m) 3000 (st qbC 15 [.str [.lit [34], .var 7, .lit [34]], .agg [.nilSlice, .nilSlice, .str []], .agg [.int .i64 (.lit 0), .int .i64 (.lit 0), .int .i64 (.lit 0), .str [], .nilSlice, .slice 64 0 (.var 62) (.rest 1)]] (hpOf [(64, .rowv true 10 1 (.lit 0) [.str [.var 40]] 9)] 70) [(.cmp .leq (.slen 7) (.lit 400), true), (.cmp .geq (.slen 7) (.lit 8), true), (.cmp .geq (.var 62) (.lit 1), true), (.cmp .leq (.var 62) (.lit 20), true), (.cmp .leq (.var 62) (.rlen 10), true)])) []) [] [(0, .ptr 74 0), (1, .ptr 80 0), (2, .str [.lit [36, 40, 100, 111, 32], .chr (.sbyte 54 (.lit 0)), .lit [41, 46], .var 71]), (3, .bool (.lit true))] [[], [0, 1, 2, 3, 8, 9], [5], [0, 1, 2, 3], [0, 2, 4, 5], [6, 7]] [73, 74, 76, 77, 78, 79, 80, 82] []
      [(64, .rowv true 10 1 (.lit 0) [.str [.var 50]] 9)] 83
      [(.cmp .geq (.sbyte 54 (.lit 0)) (.lit 48), true), (.cmp .leq (.sbyte 54 (.lit 0)) (.lit 57), true), (.cmp .leq (.slen 50) (.lit 150), true), (.cmp .leq (.slen 51) (.lit 150), true), (.cmp .leq (.slen 71) (.lit 400), true), (.cmp .geq (.var 62) (.lit 1), true), (.cmp .leq (.var 62) (.lit 20), true), (.cmp .leq (.var 62) (.rlen 10), true), (.cmp .leq (.slen 7) (.lit 400), true), (.cmp .geq (.slen 7) (.lit 8), true), (.cmp .geq (.var 62) (.lit 1), true), (.cmp .leq (.var 62) (.lit 20), true), (.cmp .leq (.var 62) (.rlen 10), true)],
    ndAt (leafAt (execS qbC (stopAny [(46, 6, 3)]) 3000 (ndAt (leafAt (execS qbC (fun m => stopEn 46 6 8 m) 3000 (st qbC 15 [.str [.lit [34], .var 7, .lit [34]], .agg [.nilSlice, .nilSlice, .str []], .agg [.int .i64 (.lit 0), .int .i64 (.lit 0), .int .i64 (.lit 0), .str [], .nilSlice, .slice 64 0 (.var 62) (.rest 1)]] (hpOf [(64, .rowv true 10 1 (.lit 0) [.str [.var 40]] 9)] 70) [(.cmp .leq (.slen 7) (.lit 400), true), (.cmp .geq (.slen 7) (.lit 8), true), (.cmp .geq (.var 62) (.lit 1), true), (.cmp .leq (.var 62) (.lit 20), true), (.cmp .leq (.var 62) (.rlen 10), true)])) []) [] [(0, .ptr 74 0), (1, .ptr 80 0), (2, .str [.lit [36, 40, 100, 111, 32], .chr (.sbyte 54 (.lit 0)), .lit [41, 46], .var 71]), (3, .bool (.lit true))] [[], [0, 1, 2, 3, 8, 9], [5], [0, 1, 2, 3], [0, 2, 4, 5], [6, 7]] [73, 74, 76, 77, 78, 79, 80, 82] []
      [(64, .rowv true 10 1 (.lit 0) [.str [.var 50]] 9)] 83
      [(.cmp .geq (.sbyte 54 (.lit 0)) (.lit 48), true), (.cmp .leq (.sbyte 54 (.lit 0)) (.lit 57), true), (.cmp .leq (.slen 50) (.lit 150), true), (.cmp .leq (.slen 51) (.lit 150), true), (.cmp .leq (.slen 71) (.lit 400), true), (.cmp .geq (.var 62) (.lit 1), true), (.cmp .leq (.var 62) (.lit 20), true), (.cmp .leq (.var 62) (.rlen 10), true), (.cmp .leq (.slen 7) (.lit 400), true), (.cmp .geq (.slen 7) (.lit 8), true), (.cmp .geq (.var 62) (.lit 1), true), (.cmp .leq (.var 62) (.lit 20), true), (.cmp .leq (.var 62) (.rlen 10), true)])) []) [] [(0, .ptr 74 0), (1, .ptr 80 0), (2, .str [.lit [46], .var 71]), (3, .bool (.lit true)), (8, .ptr 83 0)] [[], [0, 1, 2, 3, 8, 9], [5], [0, 1, 2, 3], [0, 2, 4, 5], [6, 7]] [73, 76, 77, 78, 79, 80, 82] []
      [(64, .cells true (some (.v 10, 1)) [] 9), (74, .cells false none [.nilSlice, .nilSlice, .str [], .int .i64 (.lit 0), .int .i64 (.lit 0), .int .i64 (.lit 0), .str [], .nilSlice, .slice 64 0 (.var 62) (.rest 1), .int .i64 (.var 60)] 64), (83, .cells false none [.slice 84 0 (.rlen 21) (.rest 2), .int .i64 (.var 1)] 77), (84, .cells false (some (.v 21, 2)) [] 79)] 85
      [(.cmp .leq (.slen 71) (.lit 400), true), (.cmp .geq (.var 62) (.lit 1), true), (.cmp .leq (.var 62) (.lit 20), true), (.cmp .leq (.var 62) (.rlen 10), true), (.cmp .geq (.var 60) (.lit 0), true), (.cmp .leq (.var 60) (.var 62), true), (.cmp .geq (.var 1) (.lit 0), true), (.cmp .leq (.var 1) (.lit 3200), true), (.cmp .geq (.rlen 21) (.lit 1), true), (.cmp .leq (.rlen 21) (.lit 60), true), (.cmp .leq (.slen 7) (.lit 400), true), (.cmp .geq (.slen 7) (.lit 8), true), (.cmp .geq (.var 62) (.lit 1), true), (.cmp .leq (.var 62) (.lit 20), true), (.cmp .leq (.var 62) (.rlen 10), true)],
    ndAt (leafAt (execS qbC (stopAny [(46, 6, 3)]) 3000 (ndAt (leafAt (execS qbC (fun m => stopEn 46 6 8 m) 3000 (st qbC 15 [.str [.lit [34], .var 7, .lit [34]], .agg [.nilSlice, .nilSlice, .str []], .agg [.int .i64 (.lit 0), .int .i64 (.lit 0), .int .i64 (.lit 0), .str [], .nilSlice, .slice 64 0 (.var 62) (.rest 1)]] (hpOf [(64, .rowv true 10 1 (.lit 0) [.str [.var 40]] 9)] 70) [(.cmp .leq (.slen 7) (.lit 400), true), (.cmp .geq (.slen 7) (.lit 8), true), (.cmp .geq (.var 62) (.lit 1), true), (.cmp .leq (.var 62) (.lit 20), true), (.cmp .leq (.var 62) (.rlen 10), true)])) []) [] [(0, .ptr 74 0), (1, .ptr 80 0), (2, .str [.lit [36, 40, 100, 111, 32], .chr (.sbyte 54 (.lit 0)), .lit [41, 46], .var 71]), (3, .bool (.lit true))] [[], [0, 1, 2, 3, 8, 9], [5], [0, 1, 2, 3], [0, 2, 4, 5], [6, 7]] [73, 74, 76, 77, 78, 79, 80, 82] []
      [(64, .rowv true 10 1 (.lit 0) [.str [.var 50]] 9)] 83
      [(.cmp .geq (.sbyte 54 (.lit 0)) (.lit 48), true), (.cmp .leq (.sbyte 54 (.lit 0)) (.lit 57), true), (.cmp .leq (.slen 50) (.lit 150), true), (.cmp .leq (.slen 51) (.lit 150), true), (.cmp .leq (.slen 71) (.lit 400), true), (.cmp .geq (.var 62) (.lit 1), true), (.cmp .leq (.var 62) (.lit 20), true), (.cmp .leq (.var 62) (.rlen 10), true), (.cmp .leq (.slen 7) (.lit 400), true), (.cmp .geq (.slen 7) (.lit 8), true), (.cmp .geq (.var 62) (.lit 1), true), (.cmp .leq (.var 62) (.lit 20), true), (.cmp .leq (.var 62) (.rlen 10), true)])) []) [] [(0, .ptr 74 0), (1, .ptr 80 0), (2, .str [.lit [36, 40, 100, 111, 32], .chr (.sbyte 54 (.lit 0)), .lit [41, 46], .var 71]), (3, .bool (.lit true)), (8, .ptr 83 0)] [[], [0, 1, 2, 3, 8, 9], [5], [0, 1, 2, 3], [0, 2, 4, 5], [6, 7]] [73, 76, 77, 78, 79, 80, 82] []
      [(64, .rowv true 10 1 (.var 60) [.str [.var 50]] 9), (74, .cells false none [.nilSlice, .nilSlice, .str [], .int .i64 (.lit 0), .int .i64 (.lit 0), .int .i64 (.lit 0), .str [], .nilSlice, .slice 64 0 (.var 62) (.rest 1), .int .i64 (.var 60)] 64), (83, .cells false none [.slice 84 0 (.rlen 21) (.rest 2), .int .i64 (.var 1)] 77), (84, .cells false (some (.v 21, 2)) [] 79)] 85
      [(.cmp .geq (.sbyte 54 (.lit 0)) (.lit 48), true), (.cmp .leq (.sbyte 54 (.lit 0)) (.lit 57), true), (.cmp .leq (.slen 50) (.lit 150), true), (.cmp .leq (.slen 51) (.lit 150), true), (.cmp .leq (.slen 71) (.lit 400), true), (.cmp .geq (.var 62) (.lit 1), true), (.cmp .leq (.var 62) (.lit 20), true), (.cmp .leq (.var 62) (.rlen 10), true), (.cmp .geq (.var 60) (.lit 0), true), (.cmp .leq (.var 60) (.var 62), true), (.cmp .geq (.var 1) (.lit 0), true), (.cmp .leq (.var 1) (.lit 3200), true), (.cmp .geq (.rlen 21) (.lit 1), true), (.cmp .leq (.rlen 21) (.lit 60), true), (.cmp .leq (.slen 7) (.lit 400), true), (.cmp .geq (.slen 7) (.lit 8), true), (.cmp .geq (.var 62) (.lit 1), true), (.cmp .leq (.var 62) (.lit 20), true), (.cmp .leq (.var 62) (.rlen 10), true)],
    ndAt (leafAt (execS qbC (stopAny [(46, 6, 3)]) 3000 (ndAt (leafAt (execS qbC (fun m => stopEn 46 6 8 m) 3000 (st qbC 15 [.str [.lit [34], .var 7, .lit [34]], .agg [.nilSlice, .nilSlice, .str []], .agg [.int .i64 (.lit 0), .int .i64 (.lit 0), .int .i64 (.lit 0), .str [], .nilSlice, .slice 64 0 (.var 62) (.rest 1)]] (hpOf [(64, .rowv true 10 1 (.lit 0) [.str [.var 40]] 9)] 70) [(.cmp .leq (.slen 7) (.lit 400), true), (.cmp .geq (.slen 7) (.lit 8), true), (.cmp .geq (.var 62) (.lit 1), true), (.cmp .leq (.var 62) (.lit 20), true), (.cmp .leq (.var 62) (.rlen 10), true)])) []) [] [(0, .ptr 74 0), (1, .ptr 80 0), (2, .str [.lit [36, 40, 100, 111, 32], .chr (.sbyte 54 (.lit 0)), .lit [41, 46], .var 71]), (3, .bool (.lit true))] [[], [0, 1, 2, 3, 8, 9], [5], [0, 1, 2, 3], [0, 2, 4, 5], [6, 7]] [73, 74, 76, 77, 78, 79, 80, 82] []
      [(64, .rowv true 10 1 (.lit 0) [.str [.var 50]] 9)] 83
      [(.cmp .geq (.sbyte 54 (.lit 0)) (.lit 48), true), (.cmp .leq (.sbyte 54 (.lit 0)) (.lit 57), true), (.cmp .leq (.slen 50) (.lit 150), true), (.cmp .leq (.slen 51) (.lit 150), true), (.cmp .leq (.slen 71) (.lit 400), true), (.cmp .geq (.var 62) (.lit 1), true), (.cmp .leq (.var 62) (.lit 20), true), (.cmp .leq (.var 62) (.rlen 10), true), (.cmp .leq (.slen 7) (.lit 400), true), (.cmp .geq (.slen 7) (.lit 8), true), (.cmp .geq (.var 62) (.lit 1), true), (.cmp .leq (.var 62) (.lit 20), true), (.cmp .leq (.var 62) (.rlen 10), true)])) []) [] [(0, .ptr 74 0), (1, .ptr 80 0), (2, .str [.lit [36, 40, 100, 111, 32], .chr (.sbyte 54 (.lit 0)), .chr (.sbyte 54 (.lit 1)), .lit [41, 46], .var 71]), (3, .bool (.lit true)), (8, .ptr 83 0)] [[], [0, 1, 2, 3, 8, 9], [5], [0, 1, 2, 3], [0, 2, 4, 5], [6, 7]] [73, 76, 77, 78, 79, 80, 82] []
      [(64, .rowv true 10 1 (.var 60) [.str [.var 50]] 9), (74, .cells false none [.nilSlice, .nilSlice, .str [], .int .i64 (.lit 0), .int .i64 (.lit 0), .int .i64 (.lit 0), .str [], .nilSlice, .slice 64 0 (.var 62) (.rest 1), .int .i64 (.var 60)] 64), (83, .cells false none [.slice 84 0 (.rlen 21) (.rest 2), .int .i64 (.var 1)] 77), (84, .cells false (some (.v 21, 2)) [] 79)] 85
      [(.cmp .geq (.sbyte 54 (.lit 0)) (.lit 48), true), (.cmp .leq (.sbyte 54 (.lit 0)) (.lit 57), true), (.cmp .geq (.sbyte 54 (.lit 1)) (.lit 48), true), (.cmp .leq (.sbyte 54 (.lit 1)) (.lit 57), true), (.cmp .geq (.slen 54) (.lit 2), true), (.cmp .leq (.slen 50) (.lit 150), true), (.cmp .leq (.slen 51) (.lit 150), true), (.cmp .leq (.slen 71) (.lit 400), true), (.cmp .geq (.var 62) (.lit 1), true), (.cmp .leq (.var 62) (.lit 20), true), (.cmp .leq (.var 62) (.rlen 10), true), (.cmp .geq (.var 60) (.lit 0), true), (.cmp .leq (.var 60) (.var 62), true), (.cmp .geq (.var 1) (.lit 0), true), (.cmp .leq (.var 1) (.lit 3200), true), (.cmp .geq (.rlen 21) (.lit 1), true), (.cmp .leq (.rlen 21) (.lit 60), true), (.cmp .leq (.slen 7) (.lit 400), true), (.cmp .geq (.slen 7) (.lit 8), true), (.cmp .geq (.var 62) (.lit 1), true), (.cmp .leq (.var 62) (.lit 20), true), (.cmp .leq (.var 62) (.rlen 10), true)],
    ndAt (leafAt (execS qbC (stopAny [(46, 6, 3)]) 3000 (ndAt (leafAt (execS qbC (fun m => stopEn 46 6 8 m) 3000 (st qbC 15 [.str [.lit [34], .var 7, .lit [34]], .agg [.nilSlice, .nilSlice, .str []], .agg [.int .i64 (.lit 0), .int .i64 (.lit 0), .int .i64 (.lit 0), .str [], .nilSlice, .slice 64 0 (.var 62) (.rest 1)]] (hpOf [(64, .rowv true 10 1 (.lit 0) [.str [.var 40]] 9)] 70) [(.cmp .leq (.slen 7) (.lit 400), true), (.cmp .geq (.slen 7) (.lit 8), true), (.cmp .geq (.var 62) (.lit 1), true), (.cmp .leq (.var 62) (.lit 20), true), (.cmp .leq (.var 62) (.rlen 10), true)])) []) [] [(0, .ptr 74 0), (1, .ptr 80 0), (2, .str [.lit [36, 40, 100, 111, 32], .chr (.sbyte 54 (.lit 0)), .lit [41, 46], .var 71]), (3, .bool (.lit true))] [[], [0, 1, 2, 3, 8, 9], [5], [0, 1, 2, 3], [0, 2, 4, 5], [6, 7]] [73, 74, 76, 77, 78, 79, 80, 82] []
      [(64, .rowv true 10 1 (.lit 0) [.str [.var 50]] 9)] 83
      [(.cmp .geq (.sbyte 54 (.lit 0)) (.lit 48), true), (.cmp .leq (.sbyte 54 (.lit 0)) (.lit 57), true), (.cmp .leq (.slen 50) (.lit 150), true), (.cmp .leq (.slen 51) (.lit 150), true), (.cmp .leq (.slen 71) (.lit 400), true), (.cmp .geq (.var 62) (.lit 1), true), (.cmp .leq (.var 62) (.lit 20), true), (.cmp .leq (.var 62) (.rlen 10), true), (.cmp .leq (.slen 7) (.lit 400), true), (.cmp .geq (.slen 7) (.lit 8), true), (.cmp .geq (.var 62) (.lit 1), true), (.cmp .leq (.var 62) (.lit 20), true), (.cmp .leq (.var 62) (.rlen 10), true)])) []) [] [(0, .ptr 74 0), (1, .ptr 80 0), (2, .str []), (3, .bool (.lit true)), (8, .ptr 83 0)] [[], [0, 1, 2, 3, 8, 9], [5], [0, 1, 2, 3], [0, 2, 4, 5], [6, 7]] [73, 76, 77, 78, 79, 80, 82] []
      [(64, .cells true (some (.v 10, 1)) [] 9), (74, .cells false none [.nilSlice, .nilSlice, .str [], .int .i64 (.lit 0), .int .i64 (.lit 0), .int .i64 (.lit 0), .str [], .nilSlice, .slice 64 0 (.var 62) (.rest 1), .int .i64 (.var 60)] 64), (83, .cells false none [.slice 84 0 (.rlen 22) (.rest 2), .int .i64 (.var 1)] 77), (84, .cells false (some (.v 22, 2)) [] 79)] 85
      [(.cmp .leq (.slen 71) (.lit 400), true), (.cmp .geq (.var 62) (.lit 1), true), (.cmp .leq (.var 62) (.lit 20), true), (.cmp .leq (.var 62) (.rlen 10), true), (.cmp .geq (.var 60) (.lit 0), true), (.cmp .leq (.var 60) (.var 62), true), (.cmp .geq (.var 1) (.lit 0), true), (.cmp .leq (.var 1) (.lit 3200), true), (.cmp .geq (.rlen 22) (.lit 1), true), (.cmp .leq (.rlen 22) (.lit 60), true), (.cmp .leq (.slen 7) (.lit 400), true), (.cmp .geq (.slen 7) (.lit 8), true), (.cmp .geq (.var 62) (.lit 1), true), (.cmp .leq (.var 62) (.lit 20), true), (.cmp .leq (.var 62) (.rlen 10), true)]]
noncomputable def qbo0 : OT := (.to 1 ⟨70, 83, [(70, 70), (73, 73), (74, 74), (75, 75), (76, 76), (77, 77), (78, 78), (79, 79), (80, 80), (82, 82)]⟩ [.str [.lit [36, 40, 100, 111, 32], .chr (.sbyte 54 (.lit 0)), .lit [41, 46], .var 71] [.var 7], .int (.add (.slen 7) (.lit 2)) (.add (.slen 7) (.lit 2)), .str [.lit [34], .var 7, .lit [34]] [.lit [34], .var 7, .lit [34]], .row 10 1 (some ((.v 10), 1)) [], .peek 10 (.lit 0) [.str [.var 50]], .int (.var 62) (.var 62)])
noncomputable def qbo1 : OT := (.to 2 ⟨70, 85, [(70, 70), (73, 73), (74, 74), (75, 75), (76, 76), (77, 77), (78, 78), (79, 79), (80, 80), (82, 82), (83, 83), (84, 88)]⟩ [.str [.lit [46], .var 71] [.lit [46], .var 71], .int (.add (.slen 7) (.lit 2)) (.add (.slen 7) (.lit 2)), .str [.lit [34], .var 7, .lit [34]] [.lit [34], .var 7, .lit [34]], .int (.rlen 21) (.lit 1), .int (.var 1) (.slen 51), .row 10 1 (some ((.v 10), 1)) [], .row 21 2 none [.str [.var 51], .int .i64 (.lit 1)], .int (.var 62) (.var 62), .int (.var 60) (.lit 1)])
noncomputable def qbo2 : OT := (.fork (.cmp .geq (.add (.lit 1) (.slen 71)) (.lit 2)) (.alt (.to 3 ⟨70, 85, [(70, 70), (73, 73), (74, 74), (75, 75), (76, 76), (77, 77), (78, 78), (79, 79), (80, 80), (82, 82), (83, 83), (84, 89)]⟩ [.str [.lit [36, 40, 100, 111, 32], .chr (.sbyte 54 (.lit 0)), .lit [41, 46], .var 71] [.var 71], .int (.add (.slen 7) (.lit 2)) (.add (.slen 7) (.lit 2)), .str [.lit [34], .var 7, .lit [34]] [.lit [34], .var 7, .lit [34]], .int (.rlen 21) (.add (.rlen 21) (.lit 1)), .int (.var 1) (.add (.var 1) (.lit 1)), .row 10 1 (some ((.v 10), 1)) [], .peek 10 (.var 60) [.str [.var 50]], .row 21 2 (some ((.v 21), 2)) [.str [.lit [46]], .int .i64 (.lit 1)], .int (.var 62) (.var 62), .int (.var 60) (.var 60)]) (.alt (.to 4 ⟨70, 85, [(70, 70), (73, 73), (74, 74), (75, 75), (76, 76), (77, 77), (78, 78), (79, 79), (80, 80), (82, 82), (83, 83), (84, 89)]⟩ [.str [.lit [36, 40, 100, 111, 32], .chr (.sbyte 54 (.lit 0)), .chr (.sbyte 54 (.lit 1)), .lit [41, 46], .var 71] [.var 71], .int (.add (.slen 7) (.lit 2)) (.add (.slen 7) (.lit 2)), .str [.lit [34], .var 7, .lit [34]] [.lit [34], .var 7, .lit [34]], .int (.rlen 21) (.add (.rlen 21) (.lit 1)), .int (.var 1) (.add (.var 1) (.lit 1)), .row 10 1 (some ((.v 10), 1)) [], .peek 10 (.var 60) [.str [.var 50]], .row 21 2 (some ((.v 21), 2)) [.str [.lit [46]], .int .i64 (.lit 1)], .int (.var 62) (.var 62), .int (.var 60) (.var 60)]) (.to 5 ⟨70, 85, [(70, 70), (73, 73), (74, 74), (75, 75), (76, 76), (77, 77), (78, 78), (79, 79), (80, 80), (82, 82), (83, 83), (84, 89)]⟩ [.str [] [.var 71], .int (.add (.slen 7) (.lit 2)) (.add (.slen 7) (.lit 2)), .str [.lit [34], .var 7, .lit [34]] [.lit [34], .var 7, .lit [34]], .int (.rlen 22) (.add (.rlen 21) (.lit 1)), .int (.var 1) (.add (.var 1) (.lit 1)), .row 10 1 (some ((.v 10), 1)) [], .row 22 2 (some ((.v 21), 2)) [.str [.lit [46]], .int .i64 (.lit 1)], .int (.var 62) (.var 62), .int (.var 60) (.var 60)]))) (.alt (.to 3 ⟨70, 85, [(70, 70), (73, 73), (74, 74), (75, 75), (76, 76), (77, 77), (78, 78), (79, 79), (80, 80), (82, 82), (83, 83), (84, 89)]⟩ [.str [.lit [36, 40, 100, 111, 32], .chr (.sbyte 54 (.lit 0)), .lit [41, 46], .var 71] [.var 71], .int (.add (.slen 7) (.lit 2)) (.add (.slen 7) (.lit 2)), .str [.lit [34], .var 7, .lit [34]] [.lit [34], .var 7, .lit [34]], .int (.rlen 21) (.add (.rlen 21) (.lit 1)), .int (.var 1) (.add (.var 1) (.lit 1)), .row 10 1 (some ((.v 10), 1)) [], .peek 10 (.var 60) [.str [.var 50]], .row 21 2 (some ((.v 21), 2)) [.str [.lit [46]], .int .i64 (.lit 1)], .int (.var 62) (.var 62), .int (.var 60) (.var 60)]) (.alt (.to 4 ⟨70, 85, [(70, 70), (73, 73), (74, 74), (75, 75), (76, 76), (77, 77), (78, 78), (79, 79), (80, 80), (82, 82), (83, 83), (84, 89)]⟩ [.str [.lit [36, 40, 100, 111, 32], .chr (.sbyte 54 (.lit 0)), .chr (.sbyte 54 (.lit 1)), .lit [41, 46], .var 71] [.var 71], .int (.add (.slen 7) (.lit 2)) (.add (.slen 7) (.lit 2)), .str [.lit [34], .var 7, .lit [34]] [.lit [34], .var 7, .lit [34]], .int (.rlen 21) (.add (.rlen 21) (.lit 1)), .int (.var 1) (.add (.var 1) (.lit 1)), .row 10 1 (some ((.v 10), 1)) [], .peek 10 (.var 60) [.str [.var 50]], .row 21 2 (some ((.v 21), 2)) [.str [.lit [46]], .int .i64 (.lit 1)], .int (.var 62) (.var 62), .int (.var 60) (.var 60)]) (.to 5 ⟨70, 85, [(70, 70), (73, 73), (74, 74), (75, 75), (76, 76), (77, 77), (78, 78), (79, 79), (80, 80), (82, 82), (83, 83), (84, 89)]⟩ [.str [] [.var 71], .int (.add (.slen 7) (.lit 2)) (.add (.slen 7) (.lit 2)), .str [.lit [34], .var 7, .lit [34]] [.lit [34], .var 7, .lit [34]], .int (.rlen 22) (.add (.rlen 21) (.lit 1)), .int (.var 1) (.add (.var 1) (.lit 1)), .row 10 1 (some ((.v 10), 1)) [], .row 22 2 (some ((.v 21), 2)) [.str [.lit [46]], .int .i64 (.lit 1)], .int (.var 62) (.var 62), .int (.var 60) (.var 60)]))))
noncomputable def qbo3 : OT := (.fork (.cmp .eql (.var 60) (.var 62)) .no (.fork (.cmp .lss (.sub (.add (.var 60) (.lit 1)) (.lit 1)) (.var 62)) (.to 2 ⟨70, 85, [(70, 70), (73, 73), (74, 74), (75, 75), (76, 76), (77, 77), (78, 78), (79, 79), (80, 80), (82, 82), (83, 83), (84, 89)]⟩ [.str [.lit [46], .var 71] [.lit [46], .var 71], .int (.add (.slen 7) (.lit 2)) (.add (.slen 7) (.lit 2)), .str [.lit [34], .var 7, .lit [34]] [.lit [34], .var 7, .lit [34]], .int (.rlen 21) (.add (.rlen 21) (.lit 1)), .int (.var 1) (.add (.var 1) (.slen 51)), .row 10 1 (some ((.v 10), 1)) [], .row 21 2 (some ((.v 21), 2)) [.str [.var 51], .int .i64 (.lit 1)], .int (.var 62) (.var 62), .int (.var 60) (.add (.var 60) (.lit 1))]) .no))
noncomputable def qbo4 : OT := (.fork (.cmp .eql (.var 60) (.var 62)) .no (.fork (.cmp .lss (.sub (.add (.var 60) (.lit 1)) (.lit 1)) (.var 62)) (.to 2 ⟨70, 85, [(70, 70), (73, 73), (74, 74), (75, 75), (76, 76), (77, 77), (78, 78), (79, 79), (80, 80), (82, 82), (83, 83), (84, 89)]⟩ [.str [.lit [46], .var 71] [.lit [46], .var 71], .int (.add (.slen 7) (.lit 2)) (.add (.slen 7) (.lit 2)), .str [.lit [34], .var 7, .lit [34]] [.lit [34], .var 7, .lit [34]], .int (.rlen 21) (.add (.rlen 21) (.lit 1)), .int (.var 1) (.add (.var 1) (.slen 51)), .row 10 1 (some ((.v 10), 1)) [], .row 21 2 (some ((.v 21), 2)) [.str [.var 51], .int .i64 (.lit 1)], .int (.var 62) (.var 62), .int (.var 60) (.add (.var 60) (.lit 1))]) .no))
noncomputable def qbo5 : OT := (.fin ⟨70, 71, [(70, 89)]⟩ [.str [.var 75] [.var 75]])
noncomputable def qbG : Graph := { tg := pick qbtg, stop := (fun m => stopAny [(46, (6, 3))] m || (fun m => stopEn 46 6 8 m) m), n := (fun _ => 3000), pl := fun k => ([qbo0, qbo1, qbo2, qbo3, qbo4, qbo5].getD k .no).plan, o := fun k => [qbo0, qbo1, qbo2, qbo3, qbo4, qbo5].getD k .no, v := .tup [.agg [.slice 70 0 (.lit 1) (.known 1), .nilSlice, .nilSlice, .str [], .str [], .bool (.lit false), .str []], .int .i64 (.lit 0)], h := (hpOf [(70, .cells false none [.str [.var 75]] 9)] 71), f := 15, N := 70 }
theorem qbat0 : qbG.At qbC 0 := ⟨by kernel_rfl, by kernel_rfl, by kernel_rfl⟩
theorem qbat1 : qbG.At qbC 1 := ⟨by kernel_rfl, by kernel_rfl, by kernel_rfl⟩
theorem qbat2 : qbG.At qbC 2 := ⟨by kernel_rfl, by kernel_rfl, by kernel_rfl⟩
theorem qbat3 : qbG.At qbC 3 := ⟨by kernel_rfl, by kernel_rfl, by kernel_rfl⟩
theorem qbat4 : qbG.At qbC 4 := ⟨by kernel_rfl, by kernel_rfl, by kernel_rfl⟩
theorem qbat5 : qbG.At qbC 5 := ⟨by kernel_rfl, by kernel_rfl, by kernel_rfl⟩
theorem qbf0 : (qbG.tg 0).facts = [(.cmp .leq (.slen 7) (.lit 400), true), (.cmp .geq (.slen 7) (.lit 8), true), (.cmp .geq (.var 62) (.lit 1), true), (.cmp .leq (.var 62) (.lit 20), true), (.cmp .leq (.var 62) (.rlen 10), true)] := by kernel_rfl
theorem qbf1 : (qbG.tg 1).facts = [(.cmp .geq (.sbyte 54 (.lit 0)) (.lit 48), true), (.cmp .leq (.sbyte 54 (.lit 0)) (.lit 57), true), (.cmp .leq (.slen 50) (.lit 150), true), (.cmp .leq (.slen 51) (.lit 150), true), (.cmp .leq (.slen 71) (.lit 400), true), (.cmp .geq (.var 62) (.lit 1), true), (.cmp .leq (.var 62) (.lit 20), true), (.cmp .leq (.var 62) (.rlen 10), true), (.cmp .leq (.slen 7) (.lit 400), true), (.cmp .geq (.slen 7) (.lit 8), true), (.cmp .geq (.var 62) (.lit 1), true), (.cmp .leq (.var 62) (.lit 20), true), (.cmp .leq (.var 62) (.rlen 10), true)] := by kernel_rfl
theorem qbf2 : (qbG.tg 2).facts = [(.cmp .leq (.slen 71) (.lit 400), true), (.cmp .geq (.var 62) (.lit 1), true), (.cmp .leq (.var 62) (.lit 20), true), (.cmp .leq (.var 62) (.rlen 10), true), (.cmp .geq (.var 60) (.lit 0), true), (.cmp .leq (.var 60) (.var 62), true), (.cmp .geq (.var 1) (.lit 0), true), (.cmp .leq (.var 1) (.lit 3200), true), (.cmp .geq (.rlen 21) (.lit 1), true), (.cmp .leq (.rlen 21) (.lit 60), true), (.cmp .leq (.slen 7) (.lit 400), true), (.cmp .geq (.slen 7) (.lit 8), true), (.cmp .geq (.var 62) (.lit 1), true), (.cmp .leq (.var 62) (.lit 20), true), (.cmp .leq (.var 62) (.rlen 10), true)] := by kernel_rfl
theorem qbf3 : (qbG.tg 3).facts = [(.cmp .geq (.sbyte 54 (.lit 0)) (.lit 48), true), (.cmp .leq (.sbyte 54 (.lit 0)) (.lit 57), true), (.cmp .leq (.slen 50) (.lit 150), true), (.cmp .leq (.slen 51) (.lit 150), true), (.cmp .leq (.slen 71) (.lit 400), true), (.cmp .geq (.var 62) (.lit 1), true), (.cmp .leq (.var 62) (.lit 20), true), (.cmp .leq (.var 62) (.rlen 10), true), (.cmp .geq (.var 60) (.lit 0), true), (.cmp .leq (.var 60) (.var 62), true), (.cmp .geq (.var 1) (.lit 0), true), (.cmp .leq (.var 1) (.lit 3200), true), (.cmp .geq (.rlen 21) (.lit 1), true), (.cmp .leq (.rlen 21) (.lit 60), true), (.cmp .leq (.slen 7) (.lit 400), true), (.cmp .geq (.slen 7) (.lit 8), true), (.cmp .geq (.var 62) (.lit 1), true), (.cmp .leq (.var 62) (.lit 20), true), (.cmp .leq (.var 62) (.rlen 10), true)] := by kernel_rfl
theorem qbf4 : (qbG.tg 4).facts = [(.cmp .geq (.sbyte 54 (.lit 0)) (.lit 48), true), (.cmp .leq (.sbyte 54 (.lit 0)) (.lit 57), true), (.cmp .geq (.sbyte 54 (.lit 1)) (.lit 48), true), (.cmp .leq (.sbyte 54 (.lit 1)) (.lit 57), true), (.cmp .geq (.slen 54) (.lit 2), true), (.cmp .leq (.slen 50) (.lit 150), true), (.cmp .leq (.slen 51) (.lit 150), true), (.cmp .leq (.slen 71) (.lit 400), true), (.cmp .geq (.var 62) (.lit 1), true), (.cmp .leq (.var 62) (.lit 20), true), (.cmp .leq (.var 62) (.rlen 10), true), (.cmp .geq (.var 60) (.lit 0), true), (.cmp .leq (.var 60) (.var 62), true), (.cmp .geq (.var 1) (.lit 0), true), (.cmp .leq (.var 1) (.lit 3200), true), (.cmp .geq (.rlen 21) (.lit 1), true), (.cmp .leq (.rlen 21) (.lit 60), true), (.cmp .leq (.slen 7) (.lit 400), true), (.cmp .geq (.slen 7) (.lit 8), true), (.cmp .geq (.var 62) (.lit 1), true), (.cmp .leq (.var 62) (.lit 20), true), (.cmp .leq (.var 62) (.rlen 10), true)] := by kernel_rfl
theorem qbf5 : (qbG.tg 5).facts = [(.cmp .leq (.slen 71) (.lit 400), true), (.cmp .geq (.var 62) (.lit 1), true), (.cmp .leq (.var 62) (.lit 20), true), (.cmp .leq (.var 62) (.rlen 10), true), (.cmp .geq (.var 60) (.lit 0), true), (.cmp .leq (.var 60) (.var 62), true), (.cmp .geq (.var 1) (.lit 0), true), (.cmp .leq (.var 1) (.lit 3200), true), (.cmp .geq (.rlen 22) (.lit 1), true), (.cmp .leq (.rlen 22) (.lit 60), true), (.cmp .leq (.slen 7) (.lit 400), true), (.cmp .geq (.slen 7) (.lit 8), true), (.cmp .geq (.var 62) (.lit 1), true), (.cmp .leq (.var 62) (.lit 20), true), (.cmp .leq (.var 62) (.rlen 10), true)] := by kernel_rfl
theorem qbst : startF qbC [(.cmp .leq (.slen 7) (.lit 400), true), (.cmp .geq (.slen 7) (.lit 8), true), (.cmp .geq (.var 62) (.lit 1), true), (.cmp .leq (.var 62) (.lit 20), true), (.cmp .leq (.var 62) (.rlen 10), true)] 15 [.str [.lit [34], .var 7, .lit [34]], .agg [.nilSlice, .nilSlice, .str []], .agg [.int .i64 (.lit 0), .int .i64 (.lit 0), .int .i64 (.lit 0), .str [], .nilSlice, .slice 64 0 (.var 62) (.rest 1)]] (hpOf [(64, .rowv true 10 1 (.lit 0) [.str [.var 40]] 9)] 70) = some (qbG.tg 0) := by kernel_rfl
end Go.Sx
namespace Go.Sx
open Go.Proofs
set_option maxRecDepth 100000
noncomputable def o_qb : Orc := { facts := [], f := 15, args := [.str [.lit [34], .var 7, .lit [34]], .agg [.nilSlice, .nilSlice, .str []], .agg [.int .i64 (.lit 0), .int .i64 (.lit 0), .int .i64 (.lit 0), .str [], .nilSlice, .slice 64 0 (.var 62) (.rest 1)]], pre := [(64, .cells true (some (.v 10, 1)) [] 9)], next := 70, v := .tup [.agg [.slice 70 0 (.lit 1) (.known 1), .nilSlice, .nilSlice, .str [], .str [], .bool (.lit false), .str []], .int .i64 (.lit 0)], post := [(70, .cells false none [.str [.var 75]] 9)], next' := 71 }
theorem qb_ok {A : List (List UInt8)} {N i : Nat} {ρ : Env} (L : NL A N i 1 1 ρ) : OrcOK Tryz.prog ρ o_qb := by
  have n1 := L.n1
  have n2 := L.n2
  have nA := L.nA
  have rl := rn_len 1 1 A N
  have hd0 : Lib.decDigits 0 = [48] := by decide +kernel
  have wl : ∀ j n, j + n ≤ 20 → (wsuf j n).length ≤ 180 := fun j n h => by have := wsuf_len n j h; omega
  have wnl : ∀ j, j ≤ N → (wantL A j).length ≤ 151 * j := fun j h => want_len (fun k hk => L.each k (by omega))
  have tl : ∀ j, j < N → (A.getD j []).length ≤ 150 ∧ (trimR (A.getD j [])).length ≤ 150 := fun j h => ⟨L.each j h, Nat.le_trans (trimR_len _) (L.each j h)⟩
  have ctx : ∀ ρ', ρ'.rows 22 = ρ.rows 22 → ρ'.str 75 = ρ.str 75 → ρ'.str 76 = ρ.str 76 → ρ'.int 77 = ρ.int 77 → ρ'.str 7 = ρ.str 7 → ρ'.str 51 = trimR (ρ'.str 50) → (ρ'.str 50).length ≤ 150 → CtxOK qbC Tryz.prog ρ' := by
    intro ρ' a1 a2 a3 a4 a5 a6 a7
    have w := wnl N (Nat.le_refl _)
    refine ctx18 (orcs_cons (tm_ok (U := rn 1 1 A N) (by intro c; rw [c] at rl; simp at rl; omega) (by omega) (rn_k (by decide) (by decide) A N) (by rw [ntx_rn]; omega) (by rw [a1, L.runs]) (by rw [a2, L.want, ntx_rn])) orcs_nil) (pors_cons (por_tr a6 (by omega)) (pors_cons (pa_ok n1 n2 (by rw [a5, L.word])) pors_nil))
  refine orc_of_graph (G := qbG) (C := qbC) (I := ttI 1 1 A N N True ρ) (μ := ttμ N) (l0 := [(64, .rowv true 10 1 (.lit 0) [.str [.var 40]] 9)]) ?_ ?_ ?_ ?_ rfl qbst rfl rfl rfl rfl (by decide) (by kernel_rfl) ?_
  · intro k ρ' hk
    match k, hk with
    | 0, hk =>
      replace hk : ρ' = ρ := hk
      subst hk; exact ctx _ rfl rfl rfl rfl rfl (by rw [L.s51, L.s50]; rfl) (by rw [L.s50]; simp)
    | 1, hk =>
      replace hk : ρ' = _ := hk
      subst hk; exact ctx _ rfl rfl rfl rfl rfl rfl (tl 0 (by omega)).1
    | 2, hk => obtain ⟨j, _, _, rfl⟩ := hk; exact ctx _ rfl rfl rfl rfl rfl (by show ρ.str 51 = trimR (ρ.str 50); rw [L.s51, L.s50]; rfl) (by show (ρ.str 50).length ≤ 150; rw [L.s50]; simp)
    | 3, hk => obtain ⟨j, _, _, _, h, rfl⟩ := hk; exact ctx _ rfl rfl rfl rfl rfl rfl (tl j h).1
    | 4, hk => obtain ⟨j, _, _, h, rfl⟩ := hk; exact ctx _ rfl rfl rfl rfl rfl rfl (tl j h).1
    | 5, hk => obtain ⟨_, rfl⟩ := hk; exact ctx _ rfl rfl rfl rfl rfl (by show ρ.str 51 = trimR (ρ.str 50); rw [L.s51, L.s50]; rfl) (by show (ρ.str 50).length ≤ 150; rw [L.s50]; simp)
  · intro k ρ' hk
    have w0 := wsuf_len N 0 (by omega)
    match k, hk with
    | 0, hk =>
      replace hk : ρ' = ρ := hk
      subst hk
      rw [qbf0]
      intro p hp
      simp only [List.mem_cons, List.not_mem_nil, or_false] at hp
      rcases hp with rfl | rfl | rfl | rfl | rfl <;> simp [SB.den, SI.den, intCmp, ltInt_iff, L.rows, L.nn, L.word, rows1_lth] <;> omega
    | 1, hk =>
      replace hk : ρ' = _ := hk
      subst hk
      have e1 := tl 0 (by omega)
      have e2 := wl 1 (N - 1) (by omega)
      obtain ⟨x, hx⟩ : ∃ x, x = A.getD 0 [] := ⟨_, rfl⟩
      rw [← hx] at e1
      rw [qbf1]
      have ii := L.ii
      intro p hp
      simp only [List.mem_cons, List.not_mem_nil, or_false] at hp
      rcases hp with rfl | rfl | rfl | rfl | rfl | rfl | rfl | rfl | rfl | rfl | rfl | rfl | rfl <;> simp [-List.getD_eq_getElem?_getD, SB.den, SI.den, intCmp, ltInt_iff, ttS, setS_int, setS_rows, setS_str, L.rows, L.nn, L.word, rows1_lth, hd0, ← hx] <;> omega
    | 2, hk =>
      obtain ⟨j, j1, j2, rfl⟩ := hk
      have e1 := tl j j2
      have e2 := wl (j + 1) (N - j - 1) (by omega)
      have e3 := wnl j (by omega)
      have e4 := rn_len 1 1 A j
      obtain ⟨x, hx⟩ : ∃ x, x = A.getD j [] := ⟨_, rfl⟩
      rw [← hx] at e1
      rw [qbf2]
      have ii := L.ii
      intro p hp
      simp only [List.mem_cons, List.not_mem_nil, or_false] at hp
      rcases hp with rfl | rfl | rfl | rfl | rfl | rfl | rfl | rfl | rfl | rfl | rfl | rfl | rfl | rfl | rfl <;> simp [-List.getD_eq_getElem?_getD, SB.den, SI.den, intCmp, ltInt_iff, ttD, setI_int, setI_rows, setI_str, setR_int, setR_rows, setR_str, setS_int, setS_rows, setS_str, L.rows, L.nn, L.word, rows1_lth, ← hx] <;> omega
    | 3, hk =>
      obtain ⟨j, j0, j1, j3, j2, rfl⟩ := hk
      obtain ⟨d, c0, c1, c2⟩ := dd_1 j1
      have e1 := tl j j2
      have e2 := wl (j + 1) (N - j - 1) (by omega)
      have e3 := wnl j (by omega)
      have e4 := rn_len 1 1 A j
      obtain ⟨x, hx⟩ : ∃ x, x = A.getD j [] := ⟨_, rfl⟩
      rw [← hx] at e1
      rw [qbf3]
      have ii := L.ii
      intro p hp
      simp only [List.mem_cons, List.not_mem_nil, or_false] at hp
      rcases hp with rfl | rfl | rfl | rfl | rfl | rfl | rfl | rfl | rfl | rfl | rfl | rfl | rfl | rfl | rfl | rfl | rfl | rfl | rfl <;> simp [-List.getD_eq_getElem?_getD, SB.den, SI.den, intCmp, ltInt_iff, ttU, setI_int, setI_rows, setI_str, setR_int, setR_rows, setR_str, setS_int, setS_rows, setS_str, L.rows, L.nn, L.word, rows1_lth, c0, ← hx] <;> omega
    | 4, hk =>
      obtain ⟨j, j1, j3, j2, rfl⟩ := hk
      obtain ⟨d, f, c0, c1, c2, c3, c4⟩ := dd_2 j1 (by omega)
      have e1 := tl j j2
      have e2 := wl (j + 1) (N - j - 1) (by omega)
      have e3 := wnl j (by omega)
      have e4 := rn_len 1 1 A j
      obtain ⟨x, hx⟩ : ∃ x, x = A.getD j [] := ⟨_, rfl⟩
      rw [← hx] at e1
      rw [qbf4]
      have ii := L.ii
      intro p hp
      simp only [List.mem_cons, List.not_mem_nil, or_false] at hp
      rcases hp with rfl | rfl | rfl | rfl | rfl | rfl | rfl | rfl | rfl | rfl | rfl | rfl | rfl | rfl | rfl | rfl | rfl | rfl | rfl | rfl | rfl | rfl <;> simp [-List.getD_eq_getElem?_getD, SB.den, SI.den, intCmp, ltInt_iff, ttU, setI_int, setI_rows, setI_str, setR_int, setR_rows, setR_str, setS_int, setS_rows, setS_str, L.rows, L.nn, L.word, rows1_lth, c0, ← hx] <;> omega
    | 5, hk =>
      obtain ⟨_, rfl⟩ := hk
      have e3 := wnl N (Nat.le_refl _)
      rw [qbf5]
      have ii := L.ii
      intro p hp
      simp only [List.mem_cons, List.not_mem_nil, or_false] at hp
      rcases hp with rfl | rfl | rfl | rfl | rfl | rfl | rfl | rfl | rfl | rfl | rfl | rfl | rfl | rfl | rfl <;> simp [-List.getD_eq_getElem?_getD, SB.den, SI.den, intCmp, ltInt_iff, ttZ, setI_int, setI_rows, setI_str, setS_int, setS_rows, setS_str, L.rows, L.nn, L.word, L.runs, rows1_lth] <;> omega
  · intro k ρ' hk
    match k, hk with
    | 0, _ => exact qbat0
    | 1, _ => exact qbat1
    | 2, _ => exact qbat2
    | 3, _ => exact qbat3
    | 4, _ => exact qbat4
    | 5, _ => exact qbat5
  · intro k ρ' hk
    have rk := rows1_ok A
    have nk := fun n => nrows_ok (rn 1 1 A n)
    have nkD : ∀ j, ∀ q ∈ ((rn 1 1 A j ++ [(1, trimR (A.getD j []))]).map nrow), q.length = 2 ∧ ∀ v ∈ q, v.oneCell' = true := fun j => nrows_ok _
    match k, hk with
    | 0, hk =>
      replace hk : ρ' = ρ := hk
      subst hk
      show OTok _ _ _ 0 _ qbo0
      simp only [qbo0, OTok]
      have hw := wsuf_from (j := 0) (N := N) (by omega)
      simp only [Nat.sub_zero, Nat.zero_add, pt', hd0] at hw
      refine ⟨ttS A N ρ', ?_, rfl, by simp [ttμ]⟩
      simp [-List.getD_eq_getElem?_getD, Eqns, Eqn.ok, SI.den, SS.den, SP.den, ttS, setS_int, setS_rows, setS_str, preCells, RX.flat, RX.ok, AV.val, L.word, L.rows, hd0, hw]
      exact ⟨rk, npk3⟩
    | 1, hk =>
      replace hk : ρ' = _ := hk
      subst hk
      show OTok _ _ _ 1 _ qbo1
      simp only [qbo1, OTok]
      have go : 0 < N → ∃ ρ', Eqns ρ' (ttS A N ρ) [.str [.lit [46], .var 71] [.lit [46], .var 71], .int (.add (.slen 7) (.lit 2)) (.add (.slen 7) (.lit 2)), .str [.lit [34], .var 7, .lit [34]] [.lit [34], .var 7, .lit [34]], .int (.rlen 21) (.lit 1), .int (.var 1) (.slen 51), .row 10 1 (some ((.v 10), 1)) [], .row 21 2 none [.str [.var 51], .int .i64 (.lit 1)], .int (.var 62) (.var 62), .int (.var 60) (.lit 1)] ∧ ttI 1 1 A N N True ρ 2 ρ' ∧ ttμ N 2 ρ' < ttμ N 1 (ttS A N ρ) := by
        intro hM
        refine ⟨ttD 1 1 A N ρ 0, ?_, ⟨0, by omega, by omega, rfl⟩, by simp [ttμ, ttD, setS_int, setR_int, setI_int]; omega⟩
        simp [-List.getD_eq_getElem?_getD, Eqns, Eqn.ok, SI.den, SS.den, SP.den, ttS, ttD, setI_int, setI_rows, setI_str, setR_int, setR_rows, setR_str, setS_int, setS_rows, setS_str, preCells, RX.flat, RX.ok, AV.val, nrow, qrow, vstr, L.word, L.rows, rn, wantL]
        repeat' apply And.intro
        all_goals first | rfl | exact rk
      exact go (by omega)
    | 2, hk =>
      obtain ⟨j, j1, j2, rfl⟩ := hk
      have ii := L.ii
      show OTok _ _ _ 2 _ qbo2
      simp only [qbo2, OTok]
      refine ⟨fun _ => ?_, fun _ => ?_⟩
      all_goals
        by_cases hN : j + 1 = N
        · subst hN
          refine .inr (.inr ⟨ttZ A (j + 1) ρ, ?_, ⟨trivial, rfl⟩, by simp [ttμ, ttD, setS_int, setR_int, setI_int]⟩)
          have hz : wsuf (j + 1) 0 = [] := rfl
          simp [-List.getD_eq_getElem?_getD, Eqns, Eqn.ok, SI.den, SS.den, SP.den, ttD, ttZ, setI_int, setI_rows, setI_str, setR_int, setR_rows, setR_str, setS_int, setS_rows, setS_str, preCells, RX.flat, RX.ok, AV.val, nrow, qrow, vstr, L.word, L.rows, L.runs, hz, rn, wantL]
          repeat' apply And.intro
          all_goals first | omega | exact rk | exact npk3' | (simpa [Eqns, Eqn.ok, SI.den, SS.den, SP.den, ttS, ttU, ttD, ttZ, setI_int, setI_rows, setI_str, setR_int, setR_rows, setR_str, setS_int, setS_rows, setS_str, preCells, RX.flat, RX.ok, AV.val, nmap_app, nrow, qrow, vstr, rn] using nk (j + 1))
        · have hw := wsuf_from (j := j + 1) (N := N) (by omega)
          rw [show N - (j + 1) = N - j - 1 by omega] at hw
          have hm := show N - (j + 1) - 1 = N - j - 1 - 1 by omega
          by_cases g10 : j + 1 < 10
          · obtain ⟨d, c0, c1, c2⟩ := dd_1 g10
            refine .inl ⟨ttU 1 1 A N ρ (j + 1), ?_, ⟨j + 1, by omega, g10, by omega, by omega, rfl⟩, by simp [ttμ, ttU, ttD, setS_int, setR_int, setI_int]; omega⟩
            simp [-List.getD_eq_getElem?_getD, Eqns, Eqn.ok, SI.den, SS.den, SP.den, ttU, ttD, setI_int, setI_rows, setI_str, setR_int, setR_rows, setR_str, setS_int, setS_rows, setS_str, preCells, RX.flat, RX.ok, AV.val, nrow, qrow, vstr, L.word, L.rows, hw, c0, rn, wantL, pt']
            repeat' apply And.intro
            all_goals first | omega | (rw [hm]; done) | exact rk | exact npk3' | exact npk3' | (simpa [Eqns, Eqn.ok, SI.den, SS.den, SP.den, ttS, ttU, ttD, ttZ, setI_int, setI_rows, setI_str, setR_int, setR_rows, setR_str, setS_int, setS_rows, setS_str, preCells, RX.flat, RX.ok, AV.val, nmap_app, nrow, qrow, vstr, rn] using nk (j + 1))
          · obtain ⟨d, f, c0, c1, c2, c3, c4⟩ := dd_2 g10 (by omega)
            refine .inr (.inl ⟨ttU 1 1 A N ρ (j + 1), ?_, ⟨j + 1, g10, by omega, by omega, rfl⟩, by simp [ttμ, ttU, ttD, setS_int, setR_int, setI_int]; omega⟩)
            simp [-List.getD_eq_getElem?_getD, Eqns, Eqn.ok, SI.den, SS.den, SP.den, ttU, ttD, setI_int, setI_rows, setI_str, setR_int, setR_rows, setR_str, setS_int, setS_rows, setS_str, preCells, RX.flat, RX.ok, AV.val, nrow, qrow, vstr, L.word, L.rows, hw, c0, rn, wantL, pt']
            repeat' apply And.intro
            all_goals first | omega | (rw [hm]; done) | exact rk | exact npk3' | exact npk3' | (simpa [Eqns, Eqn.ok, SI.den, SS.den, SP.den, ttS, ttU, ttD, ttZ, setI_int, setI_rows, setI_str, setR_int, setR_rows, setR_str, setS_int, setS_rows, setS_str, preCells, RX.flat, RX.ok, AV.val, nmap_app, nrow, qrow, vstr, rn] using nk (j + 1))
    | 3, hk =>
      obtain ⟨j, j0, j1, j3, j2, rfl⟩ := hk
      obtain ⟨d, c0, c1, c2⟩ := dd_1 j1
      have ii := L.ii
      show OTok _ _ _ 3 _ qbo3
      simp only [qbo3, OTok]
      refine ⟨fun g => ?_, fun g => ⟨fun h => ?_, fun h => ?_⟩⟩
      · simp [SB.den, SI.den, intCmp, eqInt_iff, ttU, setS_int, setR_int, setI_int, L.nn] at g; omega
      · have hj : j < N := by simp [SB.den, SI.den, intCmp, ltInt_iff, ttU, setS_int, setR_int, setI_int, L.nn] at h; omega
        refine ⟨ttD 1 1 A N ρ j, ?_, ⟨j, hj, j2, rfl⟩, by simp [ttμ, ttU, ttD, setS_int, setR_int, setI_int]; omega⟩
        simp [-List.getD_eq_getElem?_getD, Eqns, Eqn.ok, SI.den, SS.den, SP.den, ttU, ttD, setI_int, setI_rows, setI_str, setR_int, setR_rows, setR_str, setS_int, setS_rows, setS_str, preCells, RX.flat, RX.ok, AV.val, nrow, qrow, vstr, L.word, L.rows, c0]
        repeat' apply And.intro
        all_goals first | omega | exact rk | (simpa [Eqns, Eqn.ok, SI.den, SS.den, SP.den, ttS, ttU, ttD, ttZ, setI_int, setI_rows, setI_str, setR_int, setR_rows, setR_str, setS_int, setS_rows, setS_str, preCells, RX.flat, RX.ok, AV.val, nmap_app, nrow, qrow, vstr] using nkD j)
      · simp [SB.den, SI.den, intCmp, ltInt_iff, eqInt_iff, ttU, setS_int, setR_int, setI_int, L.nn] at g h; omega
    | 4, hk =>
      obtain ⟨j, j1, j3, j2, rfl⟩ := hk
      obtain ⟨d, f, c0, c1, c2, c3, c4⟩ := dd_2 j1 (by omega)
      have ii := L.ii
      show OTok _ _ _ 4 _ qbo4
      simp only [qbo4, OTok]
      refine ⟨fun g => ?_, fun g => ⟨fun h => ?_, fun h => ?_⟩⟩
      · simp [SB.den, SI.den, intCmp, eqInt_iff, ttU, setS_int, setR_int, setI_int, L.nn] at g; omega
      · have hj : j < N := by simp [SB.den, SI.den, intCmp, ltInt_iff, ttU, setS_int, setR_int, setI_int, L.nn] at h; omega
        refine ⟨ttD 1 1 A N ρ j, ?_, ⟨j, hj, j2, rfl⟩, by simp [ttμ, ttU, ttD, setS_int, setR_int, setI_int]; omega⟩
        simp [-List.getD_eq_getElem?_getD, Eqns, Eqn.ok, SI.den, SS.den, SP.den, ttU, ttD, setI_int, setI_rows, setI_str, setR_int, setR_rows, setR_str, setS_int, setS_rows, setS_str, preCells, RX.flat, RX.ok, AV.val, nrow, qrow, vstr, L.word, L.rows, c0]
        repeat' apply And.intro
        all_goals first | omega | exact rk | (simpa [Eqns, Eqn.ok, SI.den, SS.den, SP.den, ttS, ttU, ttD, ttZ, setI_int, setI_rows, setI_str, setR_int, setR_rows, setR_str, setS_int, setS_rows, setS_str, preCells, RX.flat, RX.ok, AV.val, nmap_app, nrow, qrow, vstr] using nkD j)
      · simp [SB.den, SI.den, intCmp, ltInt_iff, eqInt_iff, ttU, setS_int, setR_int, setI_int, L.nn] at g h; omega
    | 5, hk =>
      obtain ⟨_, rfl⟩ := hk
      show OTok _ _ _ 5 _ qbo5
      simp only [qbo5, OTok]
      refine ⟨ρ, ?_, rfl⟩
      simp [Eqns, Eqn.ok, SS.den, SP.den, ttZ, setI_str, setS_str, preCells, RX.ok]
  · refine ⟨rfl, .inr ⟨_, _, _, _, _, _, rfl, rfl, rfl, by simp [SI.den], ?_⟩, trivial⟩
    intro xs hx
    simp only [SI.den, L.rows] at hx
    rw [rows1_get hx]
    simp [AV.val, SS.den, SP.den, L.first, vstr]
end Go.Sx
