import Derived.Test.YtanpkoghglnphaaGreatDoorArgD
import Derived.Test.YtanpkoghglnphaaGreatDoorEnv
import Derived.Test.YtanpkoghglnphaaGreatDoorArgC
namespace Go.Sx
open Go.Proofs
set_option maxRecDepth 1000000

noncomputable def lanC : Ctx := ctxOf Tryz.prog lies18 exts18 [] [p_sh, p_at]
noncomputable def lantg : List AM := [st lanC 9 [.nilSlice, .str [.var 6]] (hpOf [] 65) []]
noncomputable def lano0 : OT := (.fork (.cmp .gtr (.slen 6) (.lit 1024)) (.fin ⟨65, 65, []⟩ []) (.fin ⟨65, 65, []⟩ []))
noncomputable def lanG : Graph := { tg := pick lantg, stop := (stopAny []), n := (fun _ => 12000), pl := fun k => ([lano0].getD k .no).plan, o := fun k => [lano0].getD k .no, v := .bool (.lit true), h := (hpOf [] 65), f := 9, N := 65 }
theorem lanat0 : lanG.At lanC 0 := ⟨by kernel_rfl, by kernel_rfl, by kernel_rfl⟩
theorem lanf0 : (lanG.tg 0).facts = [] := by kernel_rfl
theorem lanst : startF lanC [] 9 [.nilSlice, .str [.var 6]] (hpOf [] 65) = some (lanG.tg 0) := by kernel_rfl
end Go.Sx
namespace Go.Sx
open Go.Proofs
set_option maxRecDepth 1000000

noncomputable def laeC : Ctx := ctxOf Tryz.prog lies18 exts18 [] [p_sh, p_at]
noncomputable def laetg : List AM := [st laeC 9 [.eslice 64 1, .str [.var 6]] (hpOf [] 65) []]
noncomputable def laeo0 : OT := (.fork (.cmp .gtr (.slen 6) (.lit 1024)) (.fin ⟨65, 65, []⟩ []) (.fin ⟨65, 65, []⟩ []))
noncomputable def laeG : Graph := { tg := pick laetg, stop := (stopAny []), n := (fun _ => 12000), pl := fun k => ([laeo0].getD k .no).plan, o := fun k => [laeo0].getD k .no, v := .bool (.lit true), h := (hpOf [] 65), f := 9, N := 65 }
theorem laeat0 : laeG.At laeC 0 := ⟨by kernel_rfl, by kernel_rfl, by kernel_rfl⟩
theorem laef0 : (laeG.tg 0).facts = [] := by kernel_rfl
theorem laest : startF laeC [] 9 [.eslice 64 1, .str [.var 6]] (hpOf [] 65) = some (laeG.tg 0) := by kernel_rfl
end Go.Sx
namespace Go.Sx
open Go.Proofs
set_option maxRecDepth 1000000

noncomputable def lbC : Ctx := ctxOf Tryz.prog lies18 exts18 [] [p_sh]
noncomputable def lbtg : List AM := [st lbC 9 [.slice 64 0 (.rlen 10) (.rest 1), .str [.var 6]] (hpOf [(64, .rowv true 10 1 (.lit 0) [.str [.var 40]] 9)] 65) [(.cmp .geq (.rlen 10) (.lit 1), true)],
    nd lbC 9 0 [(0, .slice 64 0 (.rlen 10) (.rest 1)), (5, .bool (.lit true)), (6, .int .i64 (.var 1)), (7, .int .i64 (.var 0))]
      [(64, .rowv true 10 1 (.var 0) [.str [.var 9]] 9)] 65
      [(.cmp .geq (.var 0) (.lit 1), true), (.cmp .leq (.var 0) (.rlen 10), true), (.cmp .leq (.var 0) (.lit 63), true), (.cmp .geq (.var 1) (.lit 0), true), (.cmp .leq (.var 1) (.lit 3000), true)]]
noncomputable def lbo0 : OT := (.fork (.cmp .lss (.lit 4000) (.slen 40)) (.fin ⟨65, 65, []⟩ []) (.fork (.cmp .gtr (.slen 40) (.lit 3000)) (.fin ⟨65, 65, []⟩ []) (.to 1 ⟨65, 65, []⟩ [.int (.rlen 10) (.rlen 10), .int (.var 0) (.lit 1), .int (.var 1) (.slen 40), .row 10 1 (some ((.v 10), 1)) [], .peek 10 (.var 0) [.str [.var 9]]])))
noncomputable def lbo1 : OT := (.fork (.cmp .lss (.var 0) (.rlen 10)) (.fork (.cmp .lss (.lit 4000) (.slen 9)) (.fin ⟨65, 65, []⟩ []) (.fork (.cmp .gtr (.add (.var 1) (.slen 9)) (.lit 3000)) (.fin ⟨65, 65, []⟩ []) (.fork (.cmp .geq (.var 0) (.lit 63)) (.fin ⟨65, 65, []⟩ []) (.to 1 ⟨65, 65, []⟩ [.int (.rlen 10) (.rlen 10), .int (.var 0) (.add (.var 0) (.lit 1)), .int (.var 1) (.add (.var 1) (.slen 9)), .row 10 1 (some ((.v 10), 1)) [], .peek 10 (.var 0) [.str [.var 9]]])))) .no)
noncomputable def lbG : Graph := { tg := pick lbtg, stop := (fun m => stopAny [(9, (0, 3))] m || (fun m => stopBk 9 1 7 40 m) m), n := (fun _ => 400), pl := fun k => ([lbo0, lbo1].getD k .no).plan, o := fun k => [lbo0, lbo1].getD k .no, v := .bool (.lit true), h := (hpOf [] 65), f := 9, N := 65 }
theorem lbat0 : lbG.At lbC 0 := ⟨by kernel_rfl, by kernel_rfl, by kernel_rfl⟩
theorem lbat1 : lbG.At lbC 1 := ⟨by kernel_rfl, by kernel_rfl, by kernel_rfl⟩
theorem lbf0 : (lbG.tg 0).facts = [(.cmp .geq (.rlen 10) (.lit 1), true)] := by kernel_rfl
theorem lbf1 : (lbG.tg 1).facts = [(.cmp .geq (.var 0) (.lit 1), true), (.cmp .leq (.var 0) (.rlen 10), true), (.cmp .leq (.var 0) (.lit 63), true), (.cmp .geq (.var 1) (.lit 0), true), (.cmp .leq (.var 1) (.lit 3000), true)] := by kernel_rfl
theorem lbst : startF lbC [(.cmp .geq (.rlen 10) (.lit 1), true)] 9 [.slice 64 0 (.rlen 10) (.rest 1), .str [.var 6]] (hpOf [(64, .rowv true 10 1 (.lit 0) [.str [.var 40]] 9)] 65) = some (lbG.tg 0) := by kernel_rfl
end Go.Sx
namespace Go.Sx
open Go.Proofs
set_option maxRecDepth 1000000

noncomputable def laC : Ctx := ctxOf Tryz.prog lies18 exts18 [o_wa] [p_sh, p_pl0, p_pl, p_ha0, p_ha, p_at, p_it, p_di]
noncomputable def latg : List AM := [st laC 9 [.slice 64 0 (.rlen 10) (.rest 1), .str [.var 6]] (hpOf [(64, .rowv true 10 1 (.lit 0) [.str [.var 40]] 9)] 65) [(.cmp .geq (.rlen 10) (.lit 1), true), (.cmp .leq (.rlen 10) (.lit 63), true), (.cmp .eql (.rlen 22) (.rlen 10), true), (.cmp .geq (.slen 74) (.lit 1), true), (.cmp .leq (.slen 74) (.lit 20), true), (.cmp .leq (.var 21) (.lit 3000), true), (.cmp .geq (.var 21) (.lit 0), true), (.cmp .leq (.rlen 21) (.lit 200), true), (.cmp .geq (.rlen 21) (.lit 1), true), (.cmp .leq (.slen 40) (.lit 3000), true)],
    nd laC 9 0 [(0, .slice 64 0 (.rlen 10) (.rest 1)), (1, .str [.var 6]), (5, .bool (.lit true)), (6, .int .i64 (.var 1)), (7, .int .i64 (.var 0))]
      [(64, .rowv true 10 1 (.var 0) [.str [.var 9]] 9)] 65
      [(.cmp .geq (.rlen 10) (.lit 1), true), (.cmp .leq (.rlen 10) (.lit 63), true), (.cmp .eql (.rlen 22) (.rlen 10), true), (.cmp .geq (.slen 74) (.lit 1), true), (.cmp .leq (.slen 74) (.lit 20), true), (.cmp .leq (.var 21) (.lit 3000), true), (.cmp .geq (.var 21) (.lit 0), true), (.cmp .leq (.rlen 21) (.lit 200), true), (.cmp .geq (.rlen 21) (.lit 1), true), (.cmp .leq (.slen 40) (.lit 3000), true), (.cmp .geq (.var 0) (.lit 1), true), (.cmp .leq (.var 0) (.rlen 10), true), (.cmp .geq (.var 1) (.lit 0), true), (.cmp .leq (.add (.var 1) (.slen 9)) (.lit 3000), true)],
    bk laC 9 0 [(0, .slice 64 0 (.rlen 10) (.rest 1)), (1, .str [.var 6]), (5, .bool (.lit true)), (7, .int .i64 (.var 0))]
      [(64, .rowv true 10 1 (.lit 0) [.str [.var 40]] 9)] 65
      [(.cmp .geq (.rlen 10) (.lit 1), true), (.cmp .leq (.rlen 10) (.lit 63), true), (.cmp .eql (.rlen 22) (.rlen 10), true), (.cmp .geq (.slen 74) (.lit 1), true), (.cmp .leq (.slen 74) (.lit 20), true), (.cmp .leq (.var 21) (.lit 3000), true), (.cmp .geq (.var 21) (.lit 0), true), (.cmp .leq (.rlen 21) (.lit 200), true), (.cmp .geq (.rlen 21) (.lit 1), true), (.cmp .leq (.slen 40) (.lit 3000), true)],
    nd laC 9 1 [(0, .slice 64 0 (.rlen 10) (.rest 1)), (5, .bool (.lit true)), (8, .ptr 66 0), (10, .ptr 68 0), (12, .int .i64 (.var 0))]
      [(64, .rowv true 10 1 (.var 0) [.str [.var 9]] 9), (65, .cells false none [.str [.lit [73, 70, 83]], .str [.var 6], .bool (.lit false), .bool (.lit false)] 61), (66, .cells false none [.slice 65 0 (.lit 1) (.rest 4), .slice 64 0 (.rlen 10) (.rest 1), .str []] 27), (67, .rowv false 22 1 (.var 0) [.str [.var 33]] 9), (68, .cells false none [.slice 67 0 (.rlen 22) .full, .slice 65 0 (.lit 1) (.rest 4), .slice 64 0 (.rlen 10) (.rest 1), .str [], .str [], .bool (.lit false), .str []] 32)] 69
      [(.cmp .geq (.rlen 10) (.lit 1), true), (.cmp .leq (.rlen 10) (.lit 63), true), (.cmp .eql (.rlen 22) (.rlen 10), true), (.cmp .geq (.slen 74) (.lit 1), true), (.cmp .leq (.slen 74) (.lit 20), true), (.cmp .leq (.var 21) (.lit 3000), true), (.cmp .geq (.var 21) (.lit 0), true), (.cmp .leq (.rlen 21) (.lit 200), true), (.cmp .geq (.rlen 21) (.lit 1), true), (.cmp .leq (.slen 40) (.lit 3000), true), (.cmp .geq (.var 0) (.lit 1), true), (.cmp .leq (.var 0) (.rlen 10), true)],
    bk laC 9 1 [(0, .slice 64 0 (.rlen 10) (.rest 1)), (5, .bool (.lit true)), (8, .ptr 66 0), (12, .int .i64 (.var 0))]
      [(64, .rowv true 10 1 (.lit 0) [.str [.var 40]] 9), (65, .cells false none [.str [.lit [73, 70, 83]], .str [.var 6], .bool (.lit false), .bool (.lit false)] 61), (66, .cells false none [.slice 65 0 (.lit 1) (.rest 4), .slice 64 0 (.rlen 10) (.rest 1), .str []] 27)] 67
      [(.cmp .geq (.rlen 10) (.lit 1), true), (.cmp .leq (.rlen 10) (.lit 63), true), (.cmp .eql (.rlen 22) (.rlen 10), true), (.cmp .geq (.slen 74) (.lit 1), true), (.cmp .leq (.slen 74) (.lit 20), true), (.cmp .leq (.var 21) (.lit 3000), true), (.cmp .geq (.var 21) (.lit 0), true), (.cmp .leq (.rlen 21) (.lit 200), true), (.cmp .geq (.rlen 21) (.lit 1), true), (.cmp .leq (.slen 40) (.lit 3000), true)]]
noncomputable def lao0 : OT := (.to 1 ⟨65, 65, []⟩ [.int (.rlen 10) (.rlen 10), .str [.var 6] [.var 6], .int (.var 0) (.lit 1), .int (.var 1) (.slen 40), .row 10 1 (some ((.v 10), 1)) [], .peek 10 (.var 0) [.str [.var 9]]])
noncomputable def lao1 : OT := (.fork (.cmp .lss (.var 0) (.rlen 10)) (.to 1 ⟨65, 65, []⟩ [.int (.rlen 10) (.rlen 10), .str [.var 6] [.var 6], .int (.var 0) (.add (.var 0) (.lit 1)), .int (.var 1) (.add (.var 1) (.slen 9)), .row 10 1 (some ((.v 10), 1)) [], .peek 10 (.var 0) [.str [.var 9]]]) (.to 2 ⟨65, 65, []⟩ [.int (.rlen 10) (.rlen 10), .str [.var 6] [.var 6], .int (.var 0) (.var 0), .row 10 1 (some ((.v 10), 1)) [], .peek 10 (.lit 0) [.str [.var 40]]]))
noncomputable def lao2 : OT := (.fork (.cmp .gtr (.slen 6) (.lit 1024)) (.fin ⟨65, 65, []⟩ []) (.to 3 ⟨65, 69, [(65, 73), (66, 75), (67, 86), (68, 87)]⟩ [.int (.rlen 10) (.rlen 10), .int (.var 0) (.lit 1), .row 22 1 (some ((.v 22), 1)) [], .peek 22 (.var 0) [.str [.var 33]], .str [.var 6] [.var 6], .row 10 1 (some ((.v 10), 1)) [], .peek 10 (.var 0) [.str [.var 9]], .int (.rlen 22) (.rlen 22), .int (.rlen 10) (.rlen 10), .int (.rlen 10) (.rlen 10)]))
noncomputable def lao3 : OT := (.fork (.cmp .lss (.var 0) (.rlen 10)) (.to 3 ⟨65, 69, [(65, 65), (66, 66), (67, 67), (68, 68)]⟩ [.int (.rlen 10) (.rlen 10), .int (.var 0) (.add (.var 0) (.lit 1)), .row 22 1 (some ((.v 22), 1)) [], .peek 22 (.var 0) [.str [.var 33]], .str [.var 6] [.var 6], .row 10 1 (some ((.v 10), 1)) [], .peek 10 (.var 0) [.str [.var 9]], .int (.rlen 22) (.rlen 22), .int (.rlen 10) (.rlen 10), .int (.rlen 10) (.rlen 10)]) (.to 4 ⟨65, 67, [(65, 65), (66, 66)]⟩ [.int (.rlen 10) (.rlen 10), .int (.var 0) (.var 0), .str [.var 6] [.var 6], .row 10 1 (some ((.v 10), 1)) [], .peek 10 (.lit 0) [.str [.var 40]], .int (.rlen 10) (.rlen 10)]))
noncomputable def lao4 : OT := (.fork (.cmp .eql (.slen 40) (.lit 0)) (.fin ⟨65, 65, []⟩ [.boo (.lit true) (.cmp .eql (.slen 40) (.lit 0))]) (.fin ⟨65, 65, []⟩ []))
noncomputable def laG : Graph := { tg := pick latg, stop := (fun m => stopAny [(9, (0, 3)), (9, (0, 3))] m || (fun m => stopBk 9 1 7 40 m || stopBk 9 1 12 94 m) m), n := (fun _ => 12000), pl := fun k => ([lao0, lao1, lao2, lao3, lao4].getD k .no).plan, o := fun k => [lao0, lao1, lao2, lao3, lao4].getD k .no, v := .bool (.lit true), h := (hpOf [] 65), f := 9, N := 65 }
theorem laat0 : laG.At laC 0 := ⟨by kernel_rfl, by kernel_rfl, by kernel_rfl⟩
theorem laat1 : laG.At laC 1 := ⟨by kernel_rfl, by kernel_rfl, by kernel_rfl⟩
theorem laat2 : laG.At laC 2 := ⟨by kernel_rfl, by kernel_rfl, by kernel_rfl⟩
theorem laat3 : laG.At laC 3 := ⟨by kernel_rfl, by kernel_rfl, by kernel_rfl⟩
theorem laat4 : laG.At laC 4 := ⟨by kernel_rfl, by kernel_rfl, by kernel_rfl⟩
theorem laf0 : (laG.tg 0).facts = [(.cmp .geq (.rlen 10) (.lit 1), true), (.cmp .leq (.rlen 10) (.lit 63), true), (.cmp .eql (.rlen 22) (.rlen 10), true), (.cmp .geq (.slen 74) (.lit 1), true), (.cmp .leq (.slen 74) (.lit 20), true), (.cmp .leq (.var 21) (.lit 3000), true), (.cmp .geq (.var 21) (.lit 0), true), (.cmp .leq (.rlen 21) (.lit 200), true), (.cmp .geq (.rlen 21) (.lit 1), true), (.cmp .leq (.slen 40) (.lit 3000), true)] := by kernel_rfl
theorem laf1 : (laG.tg 1).facts = [(.cmp .geq (.rlen 10) (.lit 1), true), (.cmp .leq (.rlen 10) (.lit 63), true), (.cmp .eql (.rlen 22) (.rlen 10), true), (.cmp .geq (.slen 74) (.lit 1), true), (.cmp .leq (.slen 74) (.lit 20), true), (.cmp .leq (.var 21) (.lit 3000), true), (.cmp .geq (.var 21) (.lit 0), true), (.cmp .leq (.rlen 21) (.lit 200), true), (.cmp .geq (.rlen 21) (.lit 1), true), (.cmp .leq (.slen 40) (.lit 3000), true), (.cmp .geq (.var 0) (.lit 1), true), (.cmp .leq (.var 0) (.rlen 10), true), (.cmp .geq (.var 1) (.lit 0), true), (.cmp .leq (.add (.var 1) (.slen 9)) (.lit 3000), true)] := by kernel_rfl
theorem laf2 : (laG.tg 2).facts = [(.cmp .geq (.rlen 10) (.lit 1), true), (.cmp .leq (.rlen 10) (.lit 63), true), (.cmp .eql (.rlen 22) (.rlen 10), true), (.cmp .geq (.slen 74) (.lit 1), true), (.cmp .leq (.slen 74) (.lit 20), true), (.cmp .leq (.var 21) (.lit 3000), true), (.cmp .geq (.var 21) (.lit 0), true), (.cmp .leq (.rlen 21) (.lit 200), true), (.cmp .geq (.rlen 21) (.lit 1), true), (.cmp .leq (.slen 40) (.lit 3000), true)] := by kernel_rfl
theorem laf3 : (laG.tg 3).facts = [(.cmp .geq (.rlen 10) (.lit 1), true), (.cmp .leq (.rlen 10) (.lit 63), true), (.cmp .eql (.rlen 22) (.rlen 10), true), (.cmp .geq (.slen 74) (.lit 1), true), (.cmp .leq (.slen 74) (.lit 20), true), (.cmp .leq (.var 21) (.lit 3000), true), (.cmp .geq (.var 21) (.lit 0), true), (.cmp .leq (.rlen 21) (.lit 200), true), (.cmp .geq (.rlen 21) (.lit 1), true), (.cmp .leq (.slen 40) (.lit 3000), true), (.cmp .geq (.var 0) (.lit 1), true), (.cmp .leq (.var 0) (.rlen 10), true)] := by kernel_rfl
theorem laf4 : (laG.tg 4).facts = [(.cmp .geq (.rlen 10) (.lit 1), true), (.cmp .leq (.rlen 10) (.lit 63), true), (.cmp .eql (.rlen 22) (.rlen 10), true), (.cmp .geq (.slen 74) (.lit 1), true), (.cmp .leq (.slen 74) (.lit 20), true), (.cmp .leq (.var 21) (.lit 3000), true), (.cmp .geq (.var 21) (.lit 0), true), (.cmp .leq (.rlen 21) (.lit 200), true), (.cmp .geq (.rlen 21) (.lit 1), true), (.cmp .leq (.slen 40) (.lit 3000), true)] := by kernel_rfl
theorem last : startF laC [(.cmp .geq (.rlen 10) (.lit 1), true), (.cmp .leq (.rlen 10) (.lit 63), true), (.cmp .eql (.rlen 22) (.rlen 10), true), (.cmp .geq (.slen 74) (.lit 1), true), (.cmp .leq (.slen 74) (.lit 20), true), (.cmp .leq (.var 21) (.lit 3000), true), (.cmp .geq (.var 21) (.lit 0), true), (.cmp .leq (.rlen 21) (.lit 200), true), (.cmp .geq (.rlen 21) (.lit 1), true), (.cmp .leq (.slen 40) (.lit 3000), true)] 9 [.slice 64 0 (.rlen 10) (.rest 1), .str [.var 6]] (hpOf [(64, .rowv true 10 1 (.lit 0) [.str [.var 40]] 9)] 65) = some (laG.tg 0) := by kernel_rfl
end Go.Sx
