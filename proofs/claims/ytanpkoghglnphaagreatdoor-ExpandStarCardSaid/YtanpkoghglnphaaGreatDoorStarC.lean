import Derived.Test.YtanpkoghglnphaaGreatDoorStarB
import Derived.SliceStrings
import Derived.WideShapes
namespace Go.Sx
open Go.Proofs
set_option maxRecDepth 1000000

noncomputable def slC : Ctx := ctxOf Tryz.prog lies18 exts18 [o_te, o_wo] [p_shown]
noncomputable def sltg : List AM := [st slC 7 [.slice 64 0 (.var 60) (.rest 1), .str [.var 6], .bool (.lit true)] (hpOf [(64, .rowv true 10 1 (.lit 0) [.str [.var 40]] 9)] 70) [(.cmp .geq (.var 60) (.lit 1), true), (.cmp .geq (.rlen 10) (.lit 1), true), (.cmp .leq (.slen 6) (.lit 1024), true), (.cmp .leq (.slen 40) (.lit 100), true)],
    nd slC 7 0 [(0, .slice 64 0 (.rlen 10) (.rest 1)), (7, .bool (.lit true)), (8, .ptr 70 0), (9, .str [.var 7]), (12, .str [.var 8]), (13, .int .i64 (.var 0))]
      [(64, .rowv true 10 1 (.var 0) [.str [.var 9]] 9), (70, .cells false none [.slice 71 0 (.lit 1) (.rest 4), .slice 64 0 (.rlen 10) (.rest 1), .str []] 27), (71, .cells false none [.str [.lit [73, 70, 83]], .str [.var 6], .bool (.lit false), .bool (.lit false)] 61)] 72
      [(.cmp .leq (.rlen 10) (.lit 20), true), (.cmp .geq (.rlen 10) (.lit 1), true), (.cmp .leq (.var 21) (.lit 3000), true), (.cmp .geq (.var 21) (.lit 0), true), (.cmp .leq (.rlen 21) (.lit 1000), true), (.cmp .geq (.rlen 21) (.lit 1), true), (.cmp .geq (.var 0) (.lit 1), true), (.cmp .leq (.var 0) (.rlen 10), true), (.cmp .leq (.slen 7) (.lit 1), true), (.cmp .leq (.slen 8) (.lit 4000), true), (.cmp .leq (.slen 9) (.lit 100), true)]]
noncomputable def slo0 : OT := (.fork (.cmp .lss (.slen 6) (.lit 1)) (.fork (.cmp .gtr (.var 60) (.lit 20)) (.to 1 ⟨70, 72, [(70, 70), (71, 79)]⟩ [.int (.rlen 10) (.lit 20), .str [.var 7] [.var 6], .int (.var 0) (.lit 1), .str [.var 8] [.var 40], .str [.var 6] [.var 6], .row 10 1 (some ((.v 10), 1)) [], .peek 10 (.var 0) [.str [.var 9]], .int (.rlen 10) (.lit 20)]) (.to 1 ⟨70, 72, [(70, 70), (71, 79)]⟩ [.int (.rlen 10) (.var 60), .str [.var 7] [.var 6], .int (.var 0) (.lit 1), .str [.var 8] [.var 40], .str [.var 6] [.var 6], .row 10 1 (some ((.v 10), 1)) [], .peek 10 (.var 0) [.str [.var 9]], .int (.rlen 10) (.var 60)])) (.fork (.cmp .gtr (.var 60) (.lit 20)) (.to 1 ⟨70, 72, [(70, 70), (71, 79)]⟩ [.int (.rlen 10) (.lit 20), .str [.var 7] [.chr (.sbyte 6 (.lit 0))], .int (.var 0) (.lit 1), .str [.var 8] [.var 40], .str [.var 6] [.var 6], .row 10 1 (some ((.v 10), 1)) [], .peek 10 (.var 0) [.str [.var 9]], .int (.rlen 10) (.lit 20)]) (.to 1 ⟨70, 72, [(70, 70), (71, 79)]⟩ [.int (.rlen 10) (.var 60), .str [.var 7] [.chr (.sbyte 6 (.lit 0))], .int (.var 0) (.lit 1), .str [.var 8] [.var 40], .str [.var 6] [.var 6], .row 10 1 (some ((.v 10), 1)) [], .peek 10 (.var 0) [.str [.var 9]], .int (.rlen 10) (.var 60)])))
noncomputable def slo1 : OT := (.fork (.cmp .lss (.var 0) (.rlen 10)) (.to 1 ⟨70, 72, [(70, 70), (71, 71)]⟩ [.int (.rlen 10) (.rlen 10), .str [.var 7] [.var 7], .int (.var 0) (.add (.var 0) (.lit 1)), .str [.var 8] [.var 8, .var 7, .var 9], .str [.var 6] [.var 6], .row 10 1 (some ((.v 10), 1)) [], .peek 10 (.var 0) [.str [.var 9]], .int (.rlen 10) (.rlen 10)]) (.fork (.seq [.var 22] [.var 8]) (.fin ⟨70, 70, []⟩ []) (.fin ⟨70, 70, []⟩ [.boo (.lit true) (.lit false)])))
noncomputable def slG : Graph := { tg := pick sltg, stop := stopAny [(7, (0, 3))], n := fun _ => 3000, pl := fun k => ([slo0, slo1].getD k .no).plan, o := fun k => [slo0, slo1].getD k .no, v := .bool (.lit true), h := (hpOf [] 70), f := 7, N := 70 }
theorem slat0 : slG.At slC 0 := ⟨by kernel_rfl, by kernel_rfl, by kernel_rfl⟩
theorem slat1 : slG.At slC 1 := ⟨by kernel_rfl, by kernel_rfl, by kernel_rfl⟩
theorem slf0 : (slG.tg 0).facts = [(.cmp .geq (.var 60) (.lit 1), true), (.cmp .geq (.rlen 10) (.lit 1), true), (.cmp .leq (.slen 6) (.lit 1024), true), (.cmp .leq (.slen 40) (.lit 100), true)] := by kernel_rfl
theorem slf1 : (slG.tg 1).facts = [(.cmp .leq (.rlen 10) (.lit 20), true), (.cmp .geq (.rlen 10) (.lit 1), true), (.cmp .leq (.var 21) (.lit 3000), true), (.cmp .geq (.var 21) (.lit 0), true), (.cmp .leq (.rlen 21) (.lit 1000), true), (.cmp .geq (.rlen 21) (.lit 1), true), (.cmp .geq (.var 0) (.lit 1), true), (.cmp .leq (.var 0) (.rlen 10), true), (.cmp .leq (.slen 7) (.lit 1), true), (.cmp .leq (.slen 8) (.lit 4000), true), (.cmp .leq (.slen 9) (.lit 100), true)] := by kernel_rfl
theorem slst : startF slC [(.cmp .geq (.var 60) (.lit 1), true), (.cmp .geq (.rlen 10) (.lit 1), true), (.cmp .leq (.slen 6) (.lit 1024), true), (.cmp .leq (.slen 40) (.lit 100), true)] 7 [.slice 64 0 (.var 60) (.rest 1), .str [.var 6], .bool (.lit true)] (hpOf [(64, .rowv true 10 1 (.lit 0) [.str [.var 40]] 9)] 70) = some (slG.tg 0) := by kernel_rfl
end Go.Sx
namespace Go.Sx
open Go.Proofs
set_option maxRecDepth 1000000

noncomputable def usC : Ctx := ctxOf Tryz.prog lies18 exts18 [o_ue, o_uo] [p_shown]
noncomputable def ustg : List AM := [st usC 7 [.slice 64 0 (.var 60) (.rest 1), .str [.var 6], .bool (.lit false)] (hpOf [(64, .rowv true 10 1 (.lit 0) [.str [.var 40]] 9)] 70) [(.cmp .geq (.var 60) (.lit 1), true), (.cmp .geq (.rlen 10) (.lit 1), true), (.cmp .leq (.slen 40) (.lit 100), true)],
    nd usC 7 0 [(0, .slice 64 0 (.rlen 10) (.rest 1)), (7, .bool (.lit true)), (8, .ptr 70 0), (9, .str [.lit [32]]), (12, .str [.var 8]), (13, .int .i64 (.var 0))]
      [(64, .rowv true 10 1 (.var 0) [.str [.var 9]] 9), (70, .cells false none [.nilSlice, .slice 64 0 (.rlen 10) (.rest 1), .str []] 27)] 71
      [(.cmp .leq (.rlen 10) (.lit 20), true), (.cmp .geq (.rlen 10) (.lit 1), true), (.cmp .leq (.var 21) (.lit 3000), true), (.cmp .geq (.var 21) (.lit 0), true), (.cmp .leq (.rlen 21) (.lit 1000), true), (.cmp .geq (.rlen 21) (.lit 1), true), (.cmp .geq (.var 0) (.lit 1), true), (.cmp .leq (.var 0) (.rlen 10), true), (.cmp .leq (.slen 8) (.lit 4000), true), (.cmp .leq (.slen 9) (.lit 100), true)]]
noncomputable def uso0 : OT := (.fork (.cmp .gtr (.var 60) (.lit 20)) (.to 1 ⟨70, 71, [(70, 70)]⟩ [.int (.rlen 10) (.lit 20), .int (.var 0) (.lit 1), .str [.var 8] [.var 40], .row 10 1 (some ((.v 10), 1)) [], .peek 10 (.var 0) [.str [.var 9]], .int (.rlen 10) (.lit 20)]) (.to 1 ⟨70, 71, [(70, 70)]⟩ [.int (.rlen 10) (.var 60), .int (.var 0) (.lit 1), .str [.var 8] [.var 40], .row 10 1 (some ((.v 10), 1)) [], .peek 10 (.var 0) [.str [.var 9]], .int (.rlen 10) (.var 60)]))
noncomputable def uso1 : OT := (.fork (.cmp .lss (.var 0) (.rlen 10)) (.to 1 ⟨70, 71, [(70, 70)]⟩ [.int (.rlen 10) (.rlen 10), .int (.var 0) (.add (.var 0) (.lit 1)), .str [.var 8] [.var 8, .lit [32], .var 9], .row 10 1 (some ((.v 10), 1)) [], .peek 10 (.var 0) [.str [.var 9]], .int (.rlen 10) (.rlen 10)]) (.fork (.seq [.var 22] [.var 8]) (.fin ⟨70, 70, []⟩ []) (.fin ⟨70, 70, []⟩ [.boo (.lit true) (.lit false)])))
noncomputable def usG : Graph := { tg := pick ustg, stop := stopAny [(7, (0, 3))], n := fun _ => 3000, pl := fun k => ([uso0, uso1].getD k .no).plan, o := fun k => [uso0, uso1].getD k .no, v := .bool (.lit true), h := (hpOf [] 70), f := 7, N := 70 }
theorem usat0 : usG.At usC 0 := ⟨by kernel_rfl, by kernel_rfl, by kernel_rfl⟩
theorem usat1 : usG.At usC 1 := ⟨by kernel_rfl, by kernel_rfl, by kernel_rfl⟩
theorem usf0 : (usG.tg 0).facts = [(.cmp .geq (.var 60) (.lit 1), true), (.cmp .geq (.rlen 10) (.lit 1), true), (.cmp .leq (.slen 40) (.lit 100), true)] := by kernel_rfl
theorem usf1 : (usG.tg 1).facts = [(.cmp .leq (.rlen 10) (.lit 20), true), (.cmp .geq (.rlen 10) (.lit 1), true), (.cmp .leq (.var 21) (.lit 3000), true), (.cmp .geq (.var 21) (.lit 0), true), (.cmp .leq (.rlen 21) (.lit 1000), true), (.cmp .geq (.rlen 21) (.lit 1), true), (.cmp .geq (.var 0) (.lit 1), true), (.cmp .leq (.var 0) (.rlen 10), true), (.cmp .leq (.slen 8) (.lit 4000), true), (.cmp .leq (.slen 9) (.lit 100), true)] := by kernel_rfl
theorem usst : startF usC [(.cmp .geq (.var 60) (.lit 1), true), (.cmp .geq (.rlen 10) (.lit 1), true), (.cmp .leq (.slen 40) (.lit 100), true)] 7 [.slice 64 0 (.var 60) (.rest 1), .str [.var 6], .bool (.lit false)] (hpOf [(64, .rowv true 10 1 (.lit 0) [.str [.var 40]] 9)] 70) = some (usG.tg 0) := by kernel_rfl
end Go.Sx
namespace Go.Sx
open Go.Proofs
set_option maxRecDepth 1000000

noncomputable def sbC : Ctx := ctxOf Tryz.prog lies18 exts18 [] [p_shown]
noncomputable def sbtg : List AM := [st sbC 7 [.slice 64 0 (.var 60) (.rest 1), .str [.var 6], .bool (.lit true)] (hpOf [(64, .rowv true 10 1 (.lit 0) [.str [.var 40]] 9)] 70) [(.cmp .geq (.var 60) (.lit 1), true), (.cmp .geq (.rlen 10) (.lit 1), true), (.cmp .leq (.slen 6) (.lit 1024), true)],
    nd sbC 7 0 [(0, .slice 64 0 (.rlen 10) (.rest 1)), (7, .bool (.lit true)), (8, .ptr 70 0), (9, .str [.var 7]), (12, .str [.var 8]), (13, .int .i64 (.var 0))]
      [(64, .rowv true 10 1 (.var 0) [.str [.var 9]] 9), (70, .cells false none [.slice 71 0 (.lit 1) (.rest 4), .slice 64 0 (.rlen 10) (.rest 1), .str []] 27), (71, .cells false none [.str [.lit [73, 70, 83]], .str [.var 6], .bool (.lit false), .bool (.lit false)] 61)] 72
      [(.cmp .geq (.var 0) (.lit 1), true), (.cmp .lss (.var 0) (.rlen 10), true), (.cmp .leq (.rlen 10) (.lit 20), true), (.cmp .leq (.slen 7) (.lit 1), true), (.cmp .leq (.slen 8) (.lit 4000), true)]]
noncomputable def sbo0 : OT := (.fork (.cmp .lss (.slen 6) (.lit 1)) (.fork (.cmp .gtr (.var 60) (.lit 20)) (.fork (.cmp .gtr (.slen 40) (.lit 100)) (.fin ⟨70, 70, []⟩ []) (.to 1 ⟨70, 72, [(70, 70), (71, 79)]⟩ [.int (.rlen 10) (.lit 20), .str [.var 7] [.var 6], .int (.var 0) (.lit 1), .str [.var 8] [.var 40], .str [.var 6] [.var 6], .row 10 1 (some ((.v 10), 1)) [], .peek 10 (.var 0) [.str [.var 9]], .int (.rlen 10) (.lit 20)])) (.fork (.cmp .gtr (.slen 40) (.lit 100)) (.fin ⟨70, 70, []⟩ []) (.to 1 ⟨70, 72, [(70, 70), (71, 79)]⟩ [.int (.rlen 10) (.var 60), .str [.var 7] [.var 6], .int (.var 0) (.lit 1), .str [.var 8] [.var 40], .str [.var 6] [.var 6], .row 10 1 (some ((.v 10), 1)) [], .peek 10 (.var 0) [.str [.var 9]], .int (.rlen 10) (.var 60)]))) (.fork (.cmp .gtr (.var 60) (.lit 20)) (.fork (.cmp .gtr (.slen 40) (.lit 100)) (.fin ⟨70, 70, []⟩ []) (.to 1 ⟨70, 72, [(70, 70), (71, 79)]⟩ [.int (.rlen 10) (.lit 20), .str [.var 7] [.chr (.sbyte 6 (.lit 0))], .int (.var 0) (.lit 1), .str [.var 8] [.var 40], .str [.var 6] [.var 6], .row 10 1 (some ((.v 10), 1)) [], .peek 10 (.var 0) [.str [.var 9]], .int (.rlen 10) (.lit 20)])) (.fork (.cmp .gtr (.slen 40) (.lit 100)) (.fin ⟨70, 70, []⟩ []) (.to 1 ⟨70, 72, [(70, 70), (71, 79)]⟩ [.int (.rlen 10) (.var 60), .str [.var 7] [.chr (.sbyte 6 (.lit 0))], .int (.var 0) (.lit 1), .str [.var 8] [.var 40], .str [.var 6] [.var 6], .row 10 1 (some ((.v 10), 1)) [], .peek 10 (.var 0) [.str [.var 9]], .int (.rlen 10) (.var 60)]))))
noncomputable def sbo1 : OT := (.fork (.cmp .gtr (.slen 9) (.lit 100)) (.fin ⟨70, 70, []⟩ []) (.to 1 ⟨70, 72, [(70, 70), (71, 71)]⟩ [.int (.rlen 10) (.rlen 10), .str [.var 7] [.var 7], .int (.var 0) (.add (.var 0) (.lit 1)), .str [.var 8] [.var 8, .var 7, .var 9], .str [.var 6] [.var 6], .row 10 1 (some ((.v 10), 1)) [], .peek 10 (.var 0) [.str [.var 9]], .int (.rlen 10) (.rlen 10)]))
noncomputable def sbG : Graph := { tg := pick sbtg, stop := stopAny [(7, (0, 3))], n := fun _ => 3000, pl := fun k => ([sbo0, sbo1].getD k .no).plan, o := fun k => [sbo0, sbo1].getD k .no, v := .bool (.lit true), h := (hpOf [] 70), f := 7, N := 70 }
theorem sbat0 : sbG.At sbC 0 := ⟨by kernel_rfl, by kernel_rfl, by kernel_rfl⟩
theorem sbat1 : sbG.At sbC 1 := ⟨by kernel_rfl, by kernel_rfl, by kernel_rfl⟩
theorem sbf0 : (sbG.tg 0).facts = [(.cmp .geq (.var 60) (.lit 1), true), (.cmp .geq (.rlen 10) (.lit 1), true), (.cmp .leq (.slen 6) (.lit 1024), true)] := by kernel_rfl
theorem sbf1 : (sbG.tg 1).facts = [(.cmp .geq (.var 0) (.lit 1), true), (.cmp .lss (.var 0) (.rlen 10), true), (.cmp .leq (.rlen 10) (.lit 20), true), (.cmp .leq (.slen 7) (.lit 1), true), (.cmp .leq (.slen 8) (.lit 4000), true)] := by kernel_rfl
theorem sbst : startF sbC [(.cmp .geq (.var 60) (.lit 1), true), (.cmp .geq (.rlen 10) (.lit 1), true), (.cmp .leq (.slen 6) (.lit 1024), true)] 7 [.slice 64 0 (.var 60) (.rest 1), .str [.var 6], .bool (.lit true)] (hpOf [(64, .rowv true 10 1 (.lit 0) [.str [.var 40]] 9)] 70) = some (sbG.tg 0) := by kernel_rfl
end Go.Sx
namespace Go.Sx
open Go.Proofs
set_option maxRecDepth 1000000

noncomputable def ubC : Ctx := ctxOf Tryz.prog lies18 exts18 [] [p_shown]
noncomputable def ubtg : List AM := [st ubC 7 [.slice 64 0 (.var 60) (.rest 1), .str [.var 6], .bool (.lit false)] (hpOf [(64, .rowv true 10 1 (.lit 0) [.str [.var 40]] 9)] 70) [(.cmp .geq (.var 60) (.lit 1), true), (.cmp .geq (.rlen 10) (.lit 1), true)],
    nd ubC 7 0 [(0, .slice 64 0 (.rlen 10) (.rest 1)), (7, .bool (.lit true)), (8, .ptr 70 0), (9, .str [.lit [32]]), (12, .str [.var 8]), (13, .int .i64 (.var 0))]
      [(64, .rowv true 10 1 (.var 0) [.str [.var 9]] 9), (70, .cells false none [.nilSlice, .slice 64 0 (.rlen 10) (.rest 1), .str []] 27)] 71
      [(.cmp .geq (.var 0) (.lit 1), true), (.cmp .lss (.var 0) (.rlen 10), true), (.cmp .leq (.rlen 10) (.lit 20), true), (.cmp .leq (.slen 8) (.lit 4000), true)]]
noncomputable def ubo0 : OT := (.fork (.cmp .gtr (.var 60) (.lit 20)) (.fork (.cmp .gtr (.slen 40) (.lit 100)) (.fin ⟨70, 70, []⟩ []) (.to 1 ⟨70, 71, [(70, 70)]⟩ [.int (.rlen 10) (.lit 20), .int (.var 0) (.lit 1), .str [.var 8] [.var 40], .row 10 1 (some ((.v 10), 1)) [], .peek 10 (.var 0) [.str [.var 9]], .int (.rlen 10) (.lit 20)])) (.fork (.cmp .gtr (.slen 40) (.lit 100)) (.fin ⟨70, 70, []⟩ []) (.to 1 ⟨70, 71, [(70, 70)]⟩ [.int (.rlen 10) (.var 60), .int (.var 0) (.lit 1), .str [.var 8] [.var 40], .row 10 1 (some ((.v 10), 1)) [], .peek 10 (.var 0) [.str [.var 9]], .int (.rlen 10) (.var 60)])))
noncomputable def ubo1 : OT := (.fork (.cmp .gtr (.slen 9) (.lit 100)) (.fin ⟨70, 70, []⟩ []) (.to 1 ⟨70, 71, [(70, 70)]⟩ [.int (.rlen 10) (.rlen 10), .int (.var 0) (.add (.var 0) (.lit 1)), .str [.var 8] [.var 8, .lit [32], .var 9], .row 10 1 (some ((.v 10), 1)) [], .peek 10 (.var 0) [.str [.var 9]], .int (.rlen 10) (.rlen 10)]))
noncomputable def ubG : Graph := { tg := pick ubtg, stop := stopAny [(7, (0, 3))], n := fun _ => 3000, pl := fun k => ([ubo0, ubo1].getD k .no).plan, o := fun k => [ubo0, ubo1].getD k .no, v := .bool (.lit true), h := (hpOf [] 70), f := 7, N := 70 }
theorem ubat0 : ubG.At ubC 0 := ⟨by kernel_rfl, by kernel_rfl, by kernel_rfl⟩
theorem ubat1 : ubG.At ubC 1 := ⟨by kernel_rfl, by kernel_rfl, by kernel_rfl⟩
theorem ubf0 : (ubG.tg 0).facts = [(.cmp .geq (.var 60) (.lit 1), true), (.cmp .geq (.rlen 10) (.lit 1), true)] := by kernel_rfl
theorem ubf1 : (ubG.tg 1).facts = [(.cmp .geq (.var 0) (.lit 1), true), (.cmp .lss (.var 0) (.rlen 10), true), (.cmp .leq (.rlen 10) (.lit 20), true), (.cmp .leq (.slen 8) (.lit 4000), true)] := by kernel_rfl
theorem ubst : startF ubC [(.cmp .geq (.var 60) (.lit 1), true), (.cmp .geq (.rlen 10) (.lit 1), true)] 7 [.slice 64 0 (.var 60) (.rest 1), .str [.var 6], .bool (.lit false)] (hpOf [(64, .rowv true 10 1 (.lit 0) [.str [.var 40]] 9)] 70) = some (ubG.tg 0) := by kernel_rfl
end Go.Sx
namespace Go.Sx
open Go.Proofs
set_option maxRecDepth 1000000

noncomputable def sxC : Ctx := ctxOf Tryz.prog lies18 exts18 [] [p_shown]
noncomputable def sxtg : List AM := [st sxC 7 [.slice 64 0 (.var 60) (.rest 1), .str [.var 6], .bool (.lit true)] (hpOf [] 70) [(.cmp .gtr (.slen 6) (.lit 1024), true)]]
noncomputable def sxo0 : OT := (.fin ⟨70, 70, []⟩ [])
noncomputable def sxG : Graph := { tg := pick sxtg, stop := stopAny [], n := fun _ => 9000, pl := fun k => ([sxo0].getD k .no).plan, o := fun k => [sxo0].getD k .no, v := .bool (.lit true), h := (hpOf [] 70), f := 7, N := 70 }
theorem sxat0 : sxG.At sxC 0 := ⟨by kernel_rfl, by kernel_rfl, by kernel_rfl⟩
theorem sxf0 : (sxG.tg 0).facts = [(.cmp .gtr (.slen 6) (.lit 1024), true)] := by kernel_rfl
theorem sxst : startF sxC [(.cmp .gtr (.slen 6) (.lit 1024), true)] 7 [.slice 64 0 (.var 60) (.rest 1), .str [.var 6], .bool (.lit true)] (hpOf [] 70) = some (sxG.tg 0) := by kernel_rfl
end Go.Sx
namespace Go.Sx
open Go.Proofs
set_option maxRecDepth 1000000

noncomputable def znC : Ctx := ctxOf Tryz.prog lies18 exts18 [] [p_shown]
noncomputable def zntg : List AM := [st znC 7 [.nilSlice, .str [.var 6], .bool (.lit true)] (hpOf [] 70) []]
noncomputable def zno0 : OT := (.fork (.cmp .gtr (.slen 6) (.lit 1024)) (.fin ⟨70, 70, []⟩ []) (.fork (.cmp .lss (.slen 6) (.lit 1)) (.fin ⟨70, 70, []⟩ []) (.fin ⟨70, 70, []⟩ [])))
noncomputable def znG : Graph := { tg := pick zntg, stop := stopAny [], n := fun _ => 9000, pl := fun k => ([zno0].getD k .no).plan, o := fun k => [zno0].getD k .no, v := .bool (.lit true), h := (hpOf [] 70), f := 7, N := 70 }
theorem znat0 : znG.At znC 0 := ⟨by kernel_rfl, by kernel_rfl, by kernel_rfl⟩
theorem znf0 : (znG.tg 0).facts = [] := by kernel_rfl
theorem znst : startF znC [] 7 [.nilSlice, .str [.var 6], .bool (.lit true)] (hpOf [] 70) = some (znG.tg 0) := by kernel_rfl
end Go.Sx
namespace Go.Sx
open Go.Proofs
set_option maxRecDepth 1000000

noncomputable def zeC : Ctx := ctxOf Tryz.prog lies18 exts18 [] [p_shown]
noncomputable def zetg : List AM := [st zeC 7 [.eslice 64 1, .str [.var 6], .bool (.lit true)] (hpOf [] 70) []]
noncomputable def zeo0 : OT := (.fork (.cmp .gtr (.slen 6) (.lit 1024)) (.fin ⟨70, 70, []⟩ []) (.fork (.cmp .lss (.slen 6) (.lit 1)) (.fin ⟨70, 70, []⟩ []) (.fin ⟨70, 70, []⟩ [])))
noncomputable def zeG : Graph := { tg := pick zetg, stop := stopAny [], n := fun _ => 9000, pl := fun k => ([zeo0].getD k .no).plan, o := fun k => [zeo0].getD k .no, v := .bool (.lit true), h := (hpOf [] 70), f := 7, N := 70 }
theorem zeat0 : zeG.At zeC 0 := ⟨by kernel_rfl, by kernel_rfl, by kernel_rfl⟩
theorem zef0 : (zeG.tg 0).facts = [] := by kernel_rfl
theorem zest : startF zeC [] 7 [.eslice 64 1, .str [.var 6], .bool (.lit true)] (hpOf [] 70) = some (zeG.tg 0) := by kernel_rfl
end Go.Sx
namespace Go.Sx
open Go.Proofs
set_option maxRecDepth 1000000

noncomputable def ynC : Ctx := ctxOf Tryz.prog lies18 exts18 [] [p_shown]
noncomputable def yntg : List AM := [st ynC 7 [.nilSlice, .str [.var 6], .bool (.lit false)] (hpOf [] 70) []]
noncomputable def yno0 : OT := (.fin ⟨70, 70, []⟩ [])
noncomputable def ynG : Graph := { tg := pick yntg, stop := stopAny [], n := fun _ => 9000, pl := fun k => ([yno0].getD k .no).plan, o := fun k => [yno0].getD k .no, v := .bool (.lit true), h := (hpOf [] 70), f := 7, N := 70 }
theorem ynat0 : ynG.At ynC 0 := ⟨by kernel_rfl, by kernel_rfl, by kernel_rfl⟩
theorem ynf0 : (ynG.tg 0).facts = [] := by kernel_rfl
theorem ynst : startF ynC [] 7 [.nilSlice, .str [.var 6], .bool (.lit false)] (hpOf [] 70) = some (ynG.tg 0) := by kernel_rfl
end Go.Sx
namespace Go.Sx
open Go.Proofs
set_option maxRecDepth 1000000

noncomputable def yeC : Ctx := ctxOf Tryz.prog lies18 exts18 [] [p_shown]
noncomputable def yetg : List AM := [st yeC 7 [.eslice 64 1, .str [.var 6], .bool (.lit false)] (hpOf [] 70) []]
noncomputable def yeo0 : OT := (.fin ⟨70, 70, []⟩ [])
noncomputable def yeG : Graph := { tg := pick yetg, stop := stopAny [], n := fun _ => 9000, pl := fun k => ([yeo0].getD k .no).plan, o := fun k => [yeo0].getD k .no, v := .bool (.lit true), h := (hpOf [] 70), f := 7, N := 70 }
theorem yeat0 : yeG.At yeC 0 := ⟨by kernel_rfl, by kernel_rfl, by kernel_rfl⟩
theorem yef0 : (yeG.tg 0).facts = [] := by kernel_rfl
theorem yest : startF yeC [] 7 [.eslice 64 1, .str [.var 6], .bool (.lit false)] (hpOf [] 70) = some (yeG.tg 0) := by kernel_rfl
end Go.Sx
namespace Go.Sx
open Go.Proofs
set_option maxRecDepth 100000
theorem rows1_len (A : List (List UInt8)) : (rows1 A).length = A.length := by simp [rows1]
theorem eqns_nil {ρ' ρ : Env} : Eqns ρ' ρ [] := fun e he => (by cases he)
/-! the letters of the law -/
structure LK (A : List (List UInt8)) (by' : List UInt8) (ρ : Env) : Prop where
  ne : A ≠ []
  len : A.length ≤ 20
  rows : ρ.rows 10 = rows1 A
  first : ρ.str 40 = A.getD 0 []
  star : ρ.rows 21 = starR by' A
  starn : ρ.int 21 = starN by' A
  res : ρ.str 22 = (starS by' A).flatten
  e30 : ρ.str 30 = []
  e32 : ρ.str 32 = []
  n60 : 1 ≤ ρ.int 60 ∧ (if 20 < ρ.int 60 then (A.length : Int) = 20 else (A.length : Int) = ρ.int 60)
def sE (A : List (List UInt8)) (by' : List UInt8) (ρ : Env) (i : Nat) : Env := (((ρ.setI 0 i).setS 7 by').setS 8 (starS by' (A.take i)).flatten).setS 9 (A.getD i [])
def sI (A : List (List UInt8)) (by' : List UInt8) (m : Nat) (ρ0 : Env) : Nat → Env → Prop
  | 0, ρ => ρ = ρ0
  | 1, ρ => ∃ i : Nat, 1 ≤ i ∧ i ≤ m ∧ ρ = sE A by' ρ0 i
  | _, _ => False
theorem LK.lc {A : List (List UInt8)} {by' : List UInt8} {ρ ρ' : Env} {ifs : List UInt8} (K : LK A by' ρ) (hA : ∀ a ∈ A, a.length ≤ 100) (hb : by'.length ≤ 1) (h1 : ρ'.rows 10 = ρ.rows 10) (h2 : ρ'.str 40 = ρ.str 40) (h3 : ρ'.rows 21 = ρ.rows 21) (h4 : ρ'.int 21 = ρ.int 21) : LC A ifs by' ρ' :=
  ⟨K.ne, K.len, hA, hb, by rw [h1, K.rows], by rw [h2, K.first], by rw [h3, K.star], by rw [h4, K.starn]⟩
theorem pos_of_ne {α : Type} {A : List α} (h : A ≠ []) : 1 ≤ A.length := by
  cases A with
  | nil => exact absurd rfl h
  | cons a l => simp
theorem tx_conds {A : List (List UInt8)} {by' : List UInt8} (hne : A ≠ []) (hl : A.length ≤ 20) (hA : ∀ a ∈ A, a.length ≤ 100) (hb : by'.length ≤ 1) :
    1 ≤ (starS by' A).length ∧ (starS by' A).length ≤ 1000 ∧ (starS by' A).flatten.length ≤ 4000 := by
  have e1 := starR_len by' A
  have e2 := e1.2 hne
  have e4 := starN_le by' hb A hA
  have e5 := starS_sum by' A
  have e6 := starS_len by' A
  omega
theorem want_le {A : List (List UInt8)} {by' : List UInt8} (hb : by'.length ≤ 1) {i : Nat} (hA : ∀ a ∈ A.take i, a.length ≤ 100) (hi : (A.take i).length ≤ 20) : (starS by' (A.take i)).flatten.length ≤ 4000 := by
  have e4 := starN_le by' hb (A.take i) hA
  have e5 := starS_sum by' (A.take i)
  omega
theorem start_take {A : List (List UInt8)} (h : A ≠ []) : A.take 1 = [A.getD 0 []] := by
  cases A with
  | nil => exact absurd rfl h
  | cons a l => rfl
theorem slC_ok {A : List (List UInt8)} {ifs by' : List UInt8} {ρ ρ' : Env} (K : LK A by' ρ) (hA : ∀ a ∈ A, a.length ≤ 100) (hifs : ρ.str 6 = ifs) (hil : ifs.length ≤ 1024) (hby : by' = ifs.take 1)
    (h1 : ρ'.rows = ρ.rows) (h2 : ∀ j, j = 6 ∨ j = 40 ∨ j = 22 ∨ j = 30 ∨ j = 32 → ρ'.str j = ρ.str j) (h3 : ρ'.int 21 = ρ.int 21) : CtxOK slC Tryz.prog ρ' := by
  have hb : by'.length ≤ 1 := by rw [hby]; simp; omega
  have L : LC A ifs by' ρ' := K.lc hA hb (by rw [h1]) (h2 40 (by simp)) (by rw [h1]) h3
  obtain ⟨t1, t2, t3⟩ := tx_conds K.ne K.len hA hb
  have h6 : ρ'.str 6 = ifs := by rw [h2 6 (by simp), hifs]
  refine ctx18 (orcs_cons (te_ok (al_ok L h6 hil hby) (tx_ok t1 t2 t3 (by rw [L.star, starR_map]) (by rw [h2 22 (by simp), K.res]))) (orcs_cons (wo_ok (wd_ok L h6 hil hby ?_ ?_)) orcs_nil)) (pors_cons shown_ok pors_nil)
  · rw [h2 30 (by simp), h2 32 (by simp), K.e30, K.e32]; rfl
  · rw [h2 30 (by simp), K.e30]; simp
theorem usC_ok {A : List (List UInt8)} {by' : List UInt8} {ρ ρ' : Env} (K : LK A by' ρ) (hA : ∀ a ∈ A, a.length ≤ 100) (hby : by' = [32])
    (h1 : ρ'.rows = ρ.rows) (h2 : ∀ j, j = 6 ∨ j = 40 ∨ j = 22 ∨ j = 30 ∨ j = 32 → ρ'.str j = ρ.str j) (h3 : ρ'.int 21 = ρ.int 21) : CtxOK usC Tryz.prog ρ' := by
  have hb : by'.length ≤ 1 := by rw [hby]; simp
  have L : LC A [] by' ρ' := K.lc hA hb (by rw [h1]) (h2 40 (by simp)) (by rw [h1]) h3
  obtain ⟨t1, t2, t3⟩ := tx_conds K.ne K.len hA hb
  refine ctx18 (orcs_cons (ue_ok (ul_ok L hby) (ux_ok t1 t2 t3 (by rw [L.star, starR_map]) (by rw [h2 22 (by simp), K.res]))) (orcs_cons (uo_ok (uw_ok L hby ?_ ?_)) orcs_nil)) (pors_cons shown_ok pors_nil)
  · rw [h2 30 (by simp), h2 32 (by simp), K.e30, K.e32]; rfl
  · rw [h2 30 (by simp), K.e30]; simp
theorem shC_ok {ρ : Env} : CtxOK (ctxOf Tryz.prog lies18 exts18 [] [p_shown]) Tryz.prog ρ := ctx18 orcs_nil (pors_cons shown_ok pors_nil)
/-- the world of the law: the arguments' row -/
structure LW (φ : Pl) (ρ : Env) (l : List (Nat × ABlk)) (W : World) : Prop where
  wr : WR ρ φ (hpOf l 70) W
  glob : Glob φ
  own : ∀ b, ¬ Own φ (hpOf l 70) b
/-- a graph of the law that ends in true -/
theorem law_of {G : Graph} {C : Ctx} {I : Nat → Env → Prop} {μ : Nat → Env → Nat} {ρ : Env} {F : Facts} {args : List AV} {l : List (Nat × ABlk)} {φ : Pl} {W : World} {xs : List Value} (hC : ∀ k ρ, I k ρ → CtxOK C Tryz.prog ρ) (hfacts : ∀ k ρ, I k ρ → (G.tg k).facts.ok ρ)
    (hat : ∀ k ρ, I k ρ → G.At C k) (hok : ∀ k ρ, I k ρ → OTok I μ (fun _ => True) k ρ (G.o k)) (hi : I 0 ρ) (hf : G.f = 7) (hv : G.v = .bool (.lit true)) (hs : startF C F 7 args (hpOf l 70) = some (G.tg 0)) (hw : LW φ ρ l W) (ha : VRs ρ φ args xs) :
    Calls Tryz.prog 7 ⟨xs⟩ W fun e W' => e = .returned (.bool true) ∧ Kept W W' := by
  have := Graph.calls hC hfacts hat hok hi (F := F) (args := args) (h := hpOf l 70) (by rw [hf]; exact hs) hw.wr hw.glob ha
  rw [hf] at this
  refine this.mono fun e w' ⟨ρ', ψ, z, he, _, hz, _, hev⟩ => ?_
  rw [hv] at hz
  simp only [VR, SB.den] at hz
  subst hz
  exact ⟨he, fun b hb => hev.keep b hb (hw.own b), hev.same, hev.size⟩
theorem cons_of {ifs : List UInt8} (h : ¬ ((ifs.length : Int) < 1)) : ∃ c l, ifs = c :: l := by
  cases ifs with
  | nil => simp at h
  | cons c l => exact ⟨c, l, rfl⟩
theorem slt {A : List (List UInt8)} {by' : List UInt8} {ρ : Env} {i : Nat} (K : LK A by' ρ) (h : SB.den (sE A by' ρ i) (.cmp .lss (.var 0) (.rlen 10)) = true) : i < A.length := by
  simp [SB.den, SI.den, intCmp, ltInt_iff, sE, setS_int, setI_int, setS_rows, setI_rows, K.rows, rows1] at h
  omega
theorem send {A : List (List UInt8)} {by' : List UInt8} {ρ : Env} {i : Nat} (K : LK A by' ρ) (h2 : i ≤ A.length) (h : SB.den (sE A by' ρ i) (.cmp .lss (.var 0) (.rlen 10)) = false) : i = A.length := by
  simp [SB.den, SI.den, intCmp, ltInt_iff, sE, setS_int, setI_int, setS_rows, setI_rows, K.rows, rows1] at h
  omega
section
variable {A : List (List UInt8)} {ifs by' : List UInt8} {ρ : Env} {φ : Pl} {W : World} {xs : List Value}
theorem star_set (K : LK A by' ρ) (hA : ∀ a ∈ A, a.length ≤ 100) (hifs : ρ.str 6 = ifs) (hil : ifs.length ≤ 1024) (hby : by' = ifs.take 1) (hw : LW φ ρ [(64, .rowv true 10 1 (.lit 0) [.str [.var 40]] 9)] W)
    (ha : VRs ρ φ [.slice 64 0 (.var 60) (.rest 1), .str [.var 6], .bool (.lit true)] xs) : Calls Tryz.prog 7 ⟨xs⟩ W fun e W' => e = .returned (.bool true) ∧ Kept W W' := by
  have hb : by'.length ≤ 1 := by rw [hby]; simp; omega
  have hA0 := pos_of_ne K.ne
  have hK := K.n60
  refine law_of (G := slG) (C := slC) (I := sI A by' A.length ρ) (μ := aμ A) ?_ ?_ ?_ ?_ rfl rfl rfl slst hw ha
  · intro k ρ' hi
    match k, hi with
    | 0, hi => subst hi; exact slC_ok K hA hifs hil hby rfl (fun _ _ => rfl) rfl
    | 1, hi => obtain ⟨i, _, _, rfl⟩ := hi; exact slC_ok K hA hifs hil hby rfl (fun j hj => by rcases hj with rfl | rfl | rfl | rfl | rfl <;> rfl) rfl
  · intro k ρ' hi
    match k, hi with
    | 0, hi =>
      subst hi
      rw [slf0]
      have e0 : (A[0]?.getD []).length ≤ 100 := each_getD hA 0
      intro p hp
      simp only [List.mem_cons, List.not_mem_nil, or_false] at hp
      rcases hp with rfl | rfl | rfl | rfl <;> simp [SB.den, SI.den, intCmp, ltInt_iff, K.rows, K.first, hifs, rows1] <;> omega
    | 1, hi =>
      obtain ⟨i, h1, h2, rfl⟩ := hi
      rw [slf1]
      have e0 : (A[i]?.getD []).length ≤ 100 := each_getD hA i
      have e1 := starR_len by' A
      have e2 := e1.2 K.ne
      have e3 := starN_le by' hb A hA
      have e4 := want_le hb (i := i) (fun a ha => hA a (List.mem_of_mem_take ha)) (by rw [List.length_take]; have := K.len; omega)
      have e5 := K.len
      intro p hp
      simp only [List.mem_cons, List.not_mem_nil, or_false] at hp
      rcases hp with rfl | rfl | rfl | rfl | rfl | rfl | rfl | rfl | rfl | rfl | rfl <;> simp [-List.length_flatten, SB.den, SI.den, intCmp, ltInt_iff, sE, setI_int, setI_rows, setS_int, setS_rows, setS_str, K.rows, K.star, K.starn, rows1] <;> omega
  · intro k ρ' hi
    match k, hi with
    | 0, _ => exact slat0
    | 1, _ => exact slat1
  · intro k ρ' hi
    match k, hi with
    | 0, hi =>
      subst hi
      show OTok _ _ _ 0 ρ' slo0
      simp only [slo0, OTok]
      have ht := start_take K.ne
      refine ⟨fun h => ⟨fun g => ?_, fun g => ?_⟩, fun h => ⟨fun g => ?_, fun g => ?_⟩⟩
      all_goals refine ⟨sE A by' ρ' 1, ?_, ⟨1, by omega, hA0, rfl⟩, by simp [aμ, sE, setS_int, setI_int]⟩
      all_goals simp only [SB.den, SI.den, intCmp, ltInt_iff, Option.getD_some, decide_eq_true_eq, decide_eq_false_iff_not, hifs] at h g
      all_goals simp only [g, if_true, if_false] at hK
      · have hq : ifs = [] := List.eq_nil_of_length_eq_zero (by omega)
        have hb : by' = [] := by rw [hby, hq]; rfl
        simp [Eqns, Eqn.ok, sE, SI.den, SS.den, SP.den, setI_int, setI_rows, setI_str, setS_int, setS_rows, setS_str, preCells, RX.flat, RX.ok, AV.val, K.rows, K.first, ht, hb, hifs, hq, starS, rows1_len]
        repeat' apply And.intro
        all_goals first | omega | exact rows1_ok A | (intro xs hx; simpa [vstr, List.getD] using rows1_get (A := A) hx)
      · have hq : ifs = [] := List.eq_nil_of_length_eq_zero (by omega)
        have hb : by' = [] := by rw [hby, hq]; rfl
        simp [Eqns, Eqn.ok, sE, SI.den, SS.den, SP.den, setI_int, setI_rows, setI_str, setS_int, setS_rows, setS_str, preCells, RX.flat, RX.ok, AV.val, K.rows, K.first, ht, hb, hifs, hq, starS, rows1_len]
        repeat' apply And.intro
        all_goals first | omega | exact rows1_ok A | (intro xs hx; simpa [vstr, List.getD] using rows1_get (A := A) hx)
      · obtain ⟨c, l, hq⟩ := cons_of h
        have hb : by' = [c] := by rw [hby, hq]; rfl
        simp [Eqns, Eqn.ok, sE, SI.den, SS.den, SP.den, setI_int, setI_rows, setI_str, setS_int, setS_rows, setS_str, preCells, RX.flat, RX.ok, AV.val, K.rows, K.first, ht, hb, hifs, hq, starS, rows1_len]
        repeat' apply And.intro
        all_goals first | omega | exact rows1_ok A | (intro xs hx; simpa [vstr, List.getD] using rows1_get (A := A) hx)
      · obtain ⟨c, l, hq⟩ := cons_of h
        have hb : by' = [c] := by rw [hby, hq]; rfl
        simp [Eqns, Eqn.ok, sE, SI.den, SS.den, SP.den, setI_int, setI_rows, setI_str, setS_int, setS_rows, setS_str, preCells, RX.flat, RX.ok, AV.val, K.rows, K.first, ht, hb, hifs, hq, starS, rows1_len]
        repeat' apply And.intro
        all_goals first | omega | exact rows1_ok A | (intro xs hx; simpa [vstr, List.getD] using rows1_get (A := A) hx)
    | 1, hi =>
      obtain ⟨i, h1, h2, rfl⟩ := hi
      show OTok _ _ _ 1 _ slo1
      simp only [slo1, OTok]
      refine ⟨fun h => ?_, fun h => ⟨fun _ => ⟨ρ, eqns_nil, trivial⟩, fun g => ?_⟩⟩
      · have hlt := slt K h
        have hne := take_ne K.ne h1
        have ht := take_getD hlt
        refine ⟨sE A by' ρ (i + 1), ?_, ⟨i + 1, by omega, by omega, rfl⟩, by simp [aμ, sE, setS_int, setI_int]; omega⟩
        simp [Eqns, Eqn.ok, sE, SI.den, SS.den, SP.den, setI_int, setI_rows, setI_str, setS_int, setS_rows, setS_str, preCells, RX.flat, RX.ok, AV.val, K.rows, K.first, ht, starS_snoc _ hne, rows1_len]
        repeat' apply And.intro
        all_goals first | omega | exact rows1_ok A | (intro xs hx; simpa [vstr, List.getD] using rows1_get (A := A) hx)
      · have hend := send K h2 h
        subst hend
        simp [SB.den, SS.den, SP.den, sE, setI_str, setS_str, K.res] at g
theorem star_unset (K : LK A by' ρ) (hA : ∀ a ∈ A, a.length ≤ 100) (hby : by' = [32]) (hw : LW φ ρ [(64, .rowv true 10 1 (.lit 0) [.str [.var 40]] 9)] W)
    (ha : VRs ρ φ [.slice 64 0 (.var 60) (.rest 1), .str [.var 6], .bool (.lit false)] xs) : Calls Tryz.prog 7 ⟨xs⟩ W fun e W' => e = .returned (.bool true) ∧ Kept W W' := by
  have hb : by'.length ≤ 1 := by rw [hby]; simp
  have hA0 := pos_of_ne K.ne
  have hK := K.n60
  refine law_of (G := usG) (C := usC) (I := sI A by' A.length ρ) (μ := aμ A) ?_ ?_ ?_ ?_ rfl rfl rfl usst hw ha
  · intro k ρ' hi
    match k, hi with
    | 0, hi => subst hi; exact usC_ok K hA hby rfl (fun _ _ => rfl) rfl
    | 1, hi => obtain ⟨i, _, _, rfl⟩ := hi; exact usC_ok K hA hby rfl (fun j hj => by rcases hj with rfl | rfl | rfl | rfl | rfl <;> rfl) rfl
  · intro k ρ' hi
    match k, hi with
    | 0, hi =>
      subst hi
      rw [usf0]
      have e0 : (A[0]?.getD []).length ≤ 100 := each_getD hA 0
      intro p hp
      simp only [List.mem_cons, List.not_mem_nil, or_false] at hp
      rcases hp with rfl | rfl | rfl <;> simp [SB.den, SI.den, intCmp, ltInt_iff, K.rows, K.first, rows1] <;> omega
    | 1, hi =>
      obtain ⟨i, h1, h2, rfl⟩ := hi
      rw [usf1]
      have e0 : (A[i]?.getD []).length ≤ 100 := each_getD hA i
      have e1 := starR_len by' A
      have e2 := e1.2 K.ne
      have e3 := starN_le by' hb A hA
      have e4 := want_le hb (i := i) (fun a ha => hA a (List.mem_of_mem_take ha)) (by rw [List.length_take]; have := K.len; omega)
      have e5 := K.len
      intro p hp
      simp only [List.mem_cons, List.not_mem_nil, or_false] at hp
      rcases hp with rfl | rfl | rfl | rfl | rfl | rfl | rfl | rfl | rfl | rfl <;> simp [-List.length_flatten, SB.den, SI.den, intCmp, ltInt_iff, sE, setI_int, setI_rows, setS_int, setS_rows, setS_str, K.rows, K.star, K.starn, rows1] <;> omega
  · intro k ρ' hi
    match k, hi with
    | 0, _ => exact usat0
    | 1, _ => exact usat1
  · intro k ρ' hi
    match k, hi with
    | 0, hi =>
      subst hi
      show OTok _ _ _ 0 ρ' uso0
      simp only [uso0, OTok]
      have ht := start_take K.ne
      refine ⟨fun g => ?_, fun g => ?_⟩
      all_goals refine ⟨sE A by' ρ' 1, ?_, ⟨1, by omega, hA0, rfl⟩, by simp [aμ, sE, setS_int, setI_int]⟩
      all_goals simp only [SB.den, SI.den, intCmp, ltInt_iff, Option.getD_some, decide_eq_true_eq, decide_eq_false_iff_not] at g
      all_goals simp only [g, if_true, if_false] at hK
      · simp [Eqns, Eqn.ok, sE, SI.den, SS.den, SP.den, setI_int, setI_rows, setI_str, setS_int, setS_rows, setS_str, preCells, RX.flat, RX.ok, AV.val, K.rows, K.first, ht, hby, starS, rows1_len]
        repeat' apply And.intro
        all_goals first | omega | exact rows1_ok A | (intro xs hx; simpa [vstr, List.getD] using rows1_get (A := A) hx)
      · simp [Eqns, Eqn.ok, sE, SI.den, SS.den, SP.den, setI_int, setI_rows, setI_str, setS_int, setS_rows, setS_str, preCells, RX.flat, RX.ok, AV.val, K.rows, K.first, ht, hby, starS, rows1_len]
        repeat' apply And.intro
        all_goals first | omega | exact rows1_ok A | (intro xs hx; simpa [vstr, List.getD] using rows1_get (A := A) hx)
    | 1, hi =>
      obtain ⟨i, h1, h2, rfl⟩ := hi
      show OTok _ _ _ 1 _ uso1
      simp only [uso1, OTok]
      refine ⟨fun h => ?_, fun h => ⟨fun _ => ⟨ρ, eqns_nil, trivial⟩, fun g => ?_⟩⟩
      · have hlt := slt K h
        have hne := take_ne K.ne h1
        have ht := take_getD hlt
        refine ⟨sE A by' ρ (i + 1), ?_, ⟨i + 1, by omega, by omega, rfl⟩, by simp [aμ, sE, setS_int, setI_int]; omega⟩
        simp [Eqns, Eqn.ok, sE, SI.den, SS.den, SP.den, setI_int, setI_rows, setI_str, setS_int, setS_rows, setS_str, preCells, RX.flat, RX.ok, AV.val, K.rows, K.first, ht, starS_snoc _ hne, rows1_len, hby]
        repeat' apply And.intro
        all_goals first | omega | exact rows1_ok A | (intro xs hx; simpa [vstr, List.getD] using rows1_get (A := A) hx)
      · have hend := send K h2 h
        subst hend
        simp [SB.den, SS.den, SP.den, sE, setI_str, setS_str, K.res] at g
theorem star_set_bad (K : LK A by' ρ) {j : Nat} (hj : j < A.length) (hbig : 100 < (A.getD j []).length) (hpre : ∀ a ∈ A.take j, a.length ≤ 100) (hifs : ρ.str 6 = ifs) (hil : ifs.length ≤ 1024) (hby : by' = ifs.take 1) (hw : LW φ ρ [(64, .rowv true 10 1 (.lit 0) [.str [.var 40]] 9)] W)
    (ha : VRs ρ φ [.slice 64 0 (.var 60) (.rest 1), .str [.var 6], .bool (.lit true)] xs) : Calls Tryz.prog 7 ⟨xs⟩ W fun e W' => e = .returned (.bool true) ∧ Kept W W' := by
  have hb : by'.length ≤ 1 := by rw [hby]; simp; omega
  have hA0 := pos_of_ne K.ne
  have hK := K.n60
  have hstep : ∀ i, i ≤ j → (A.getD i []).length ≤ 100 → i + 1 ≤ j := by
    intro i hi hl
    rcases Nat.lt_or_ge i j with h | h
    · exact h
    · have : i = j := by omega
      subst this; omega
  refine law_of (G := sbG) (C := sbC) (I := sI A by' j ρ) (μ := aμ A) (fun _ _ _ => shC_ok) ?_ ?_ ?_ rfl rfl rfl sbst hw ha
  · intro k ρ' hi
    match k, hi with
    | 0, hi =>
      subst hi
      rw [sbf0]
      intro p hp
      simp only [List.mem_cons, List.not_mem_nil, or_false] at hp
      rcases hp with rfl | rfl | rfl <;> simp [SB.den, SI.den, intCmp, ltInt_iff, K.rows, hifs, rows1] <;> omega
    | 1, hi =>
      obtain ⟨i, h1, h2, rfl⟩ := hi
      rw [sbf1]
      have e5 := K.len
      have e4 := want_le hb (A := A) (i := i) (fun a ha => hpre a (List.mem_of_mem_take (show a ∈ (A.take j).take i by rw [List.take_take, Nat.min_eq_left h2]; exact ha))) (by rw [List.length_take]; omega)
      intro p hp
      simp only [List.mem_cons, List.not_mem_nil, or_false] at hp
      rcases hp with rfl | rfl | rfl | rfl | rfl <;> simp [-List.length_flatten, SB.den, SI.den, intCmp, ltInt_iff, sE, setI_int, setI_rows, setS_int, setS_rows, setS_str, K.rows, rows1] <;> omega
  · intro k ρ' hi
    match k, hi with
    | 0, _ => exact sbat0
    | 1, _ => exact sbat1
  · intro k ρ' hi
    match k, hi with
    | 0, hi =>
      subst hi
      show OTok _ _ _ 0 ρ' sbo0
      simp only [sbo0, OTok]
      have ht := start_take K.ne
      refine ⟨fun h => ?_, fun h => ?_⟩
      · simp only [SB.den, SI.den, intCmp, ltInt_iff, Option.getD_some, decide_eq_true_eq, hifs] at h
        have hq : ifs = [] := List.eq_nil_of_length_eq_zero (by omega)
        have hb : by' = [] := by rw [hby, hq]; rfl
        refine ⟨fun g => ⟨fun f => ?_, fun f => ?_⟩, fun g => ⟨fun f => ?_, fun f => ?_⟩⟩
        · exact ⟨ρ', eqns_nil, trivial⟩
        · simp only [SB.den, SI.den, intCmp, ltInt_iff, Option.getD_some, decide_eq_true_eq, decide_eq_false_iff_not] at g f
          simp only [g, if_true, if_false] at hK
          refine ⟨sE A by' ρ' 1, ?_, ⟨1, by omega, hstep 0 (by omega) (by rw [← K.first]; omega), rfl⟩, by simp [aμ, sE, setS_int, setI_int]⟩
          simp [Eqns, Eqn.ok, sE, SI.den, SS.den, SP.den, setI_int, setI_rows, setI_str, setS_int, setS_rows, setS_str, preCells, RX.flat, RX.ok, AV.val, K.rows, K.first, ht, hb, hifs, hq, starS, rows1_len]
          repeat' apply And.intro
          all_goals first | omega | exact rows1_ok A | (intro xs hx; simpa [vstr, List.getD] using rows1_get (A := A) hx)
        · exact ⟨ρ', eqns_nil, trivial⟩
        · simp only [SB.den, SI.den, intCmp, ltInt_iff, Option.getD_some, decide_eq_true_eq, decide_eq_false_iff_not] at g f
          simp only [g, if_true, if_false] at hK
          refine ⟨sE A by' ρ' 1, ?_, ⟨1, by omega, hstep 0 (by omega) (by rw [← K.first]; omega), rfl⟩, by simp [aμ, sE, setS_int, setI_int]⟩
          simp [Eqns, Eqn.ok, sE, SI.den, SS.den, SP.den, setI_int, setI_rows, setI_str, setS_int, setS_rows, setS_str, preCells, RX.flat, RX.ok, AV.val, K.rows, K.first, ht, hb, hifs, hq, starS, rows1_len]
          repeat' apply And.intro
          all_goals first | omega | exact rows1_ok A | (intro xs hx; simpa [vstr, List.getD] using rows1_get (A := A) hx)
      · simp only [SB.den, SI.den, intCmp, ltInt_iff, Option.getD_some, decide_eq_false_iff_not, hifs] at h
        obtain ⟨c, l, hq⟩ := cons_of h
        have hb : by' = [c] := by rw [hby, hq]; rfl
        refine ⟨fun g => ⟨fun f => ?_, fun f => ?_⟩, fun g => ⟨fun f => ?_, fun f => ?_⟩⟩
        · exact ⟨ρ', eqns_nil, trivial⟩
        · simp only [SB.den, SI.den, intCmp, ltInt_iff, Option.getD_some, decide_eq_true_eq, decide_eq_false_iff_not] at g f
          simp only [g, if_true, if_false] at hK
          refine ⟨sE A by' ρ' 1, ?_, ⟨1, by omega, hstep 0 (by omega) (by rw [← K.first]; omega), rfl⟩, by simp [aμ, sE, setS_int, setI_int]⟩
          simp [Eqns, Eqn.ok, sE, SI.den, SS.den, SP.den, setI_int, setI_rows, setI_str, setS_int, setS_rows, setS_str, preCells, RX.flat, RX.ok, AV.val, K.rows, K.first, ht, hb, hifs, hq, starS, rows1_len]
          repeat' apply And.intro
          all_goals first | omega | exact rows1_ok A | (intro xs hx; simpa [vstr, List.getD] using rows1_get (A := A) hx)
        · exact ⟨ρ', eqns_nil, trivial⟩
        · simp only [SB.den, SI.den, intCmp, ltInt_iff, Option.getD_some, decide_eq_true_eq, decide_eq_false_iff_not] at g f
          simp only [g, if_true, if_false] at hK
          refine ⟨sE A by' ρ' 1, ?_, ⟨1, by omega, hstep 0 (by omega) (by rw [← K.first]; omega), rfl⟩, by simp [aμ, sE, setS_int, setI_int]⟩
          simp [Eqns, Eqn.ok, sE, SI.den, SS.den, SP.den, setI_int, setI_rows, setI_str, setS_int, setS_rows, setS_str, preCells, RX.flat, RX.ok, AV.val, K.rows, K.first, ht, hb, hifs, hq, starS, rows1_len]
          repeat' apply And.intro
          all_goals first | omega | exact rows1_ok A | (intro xs hx; simpa [vstr, List.getD] using rows1_get (A := A) hx)
    | 1, hi =>
      obtain ⟨i, h1, h2, rfl⟩ := hi
      show OTok _ _ _ 1 _ sbo1
      simp only [sbo1, OTok]
      refine ⟨fun h => ⟨ρ, eqns_nil, trivial⟩, fun h => ?_⟩
      have hl : (A.getD i []).length ≤ 100 := by
        simp [SB.den, SI.den, intCmp, ltInt_iff, sE, setS_str] at h
        simp only [List.getD]
        omega
      have hij := hstep i h2 hl
      have hne := take_ne K.ne h1
      have ht := take_getD (A := A) (i := i) (by omega)
      refine ⟨sE A by' ρ (i + 1), ?_, ⟨i + 1, by omega, by omega, rfl⟩, by simp [aμ, sE, setS_int, setI_int]; omega⟩
      simp [Eqns, Eqn.ok, sE, SI.den, SS.den, SP.den, setI_int, setI_rows, setI_str, setS_int, setS_rows, setS_str, preCells, RX.flat, RX.ok, AV.val, K.rows, K.first, ht, starS_snoc _ hne, rows1_len]
      repeat' apply And.intro
      all_goals first | omega | exact rows1_ok A | (intro xs hx; simpa [vstr, List.getD] using rows1_get (A := A) hx)
theorem star_unset_bad (K : LK A by' ρ) {j : Nat} (hj : j < A.length) (hbig : 100 < (A.getD j []).length) (hpre : ∀ a ∈ A.take j, a.length ≤ 100) (hby : by' = [32]) (hw : LW φ ρ [(64, .rowv true 10 1 (.lit 0) [.str [.var 40]] 9)] W)
    (ha : VRs ρ φ [.slice 64 0 (.var 60) (.rest 1), .str [.var 6], .bool (.lit false)] xs) : Calls Tryz.prog 7 ⟨xs⟩ W fun e W' => e = .returned (.bool true) ∧ Kept W W' := by
  have hb : by'.length ≤ 1 := by rw [hby]; simp
  have hA0 := pos_of_ne K.ne
  have hK := K.n60
  have hstep : ∀ i, i ≤ j → (A.getD i []).length ≤ 100 → i + 1 ≤ j := by
    intro i hi hl
    rcases Nat.lt_or_ge i j with h | h
    · exact h
    · have : i = j := by omega
      subst this; omega
  refine law_of (G := ubG) (C := ubC) (I := sI A by' j ρ) (μ := aμ A) (fun _ _ _ => shC_ok) ?_ ?_ ?_ rfl rfl rfl ubst hw ha
  · intro k ρ' hi
    match k, hi with
    | 0, hi =>
      subst hi
      rw [ubf0]
      intro p hp
      simp only [List.mem_cons, List.not_mem_nil, or_false] at hp
      rcases hp with rfl | rfl <;> simp [SB.den, SI.den, intCmp, ltInt_iff, K.rows, rows1] <;> omega
    | 1, hi =>
      obtain ⟨i, h1, h2, rfl⟩ := hi
      rw [ubf1]
      have e5 := K.len
      have e4 := want_le hb (A := A) (i := i) (fun a ha => hpre a (List.mem_of_mem_take (show a ∈ (A.take j).take i by rw [List.take_take, Nat.min_eq_left h2]; exact ha))) (by rw [List.length_take]; omega)
      intro p hp
      simp only [List.mem_cons, List.not_mem_nil, or_false] at hp
      rcases hp with rfl | rfl | rfl | rfl <;> simp [-List.length_flatten, SB.den, SI.den, intCmp, ltInt_iff, sE, setI_int, setI_rows, setS_int, setS_rows, setS_str, K.rows, rows1] <;> omega
  · intro k ρ' hi
    match k, hi with
    | 0, _ => exact ubat0
    | 1, _ => exact ubat1
  · intro k ρ' hi
    match k, hi with
    | 0, hi =>
      subst hi
      show OTok _ _ _ 0 ρ' ubo0
      simp only [ubo0, OTok]
      have ht := start_take K.ne
      refine ⟨fun g => ⟨fun f => ?_, fun f => ?_⟩, fun g => ⟨fun f => ?_, fun f => ?_⟩⟩
      · exact ⟨ρ', eqns_nil, trivial⟩
      · simp only [SB.den, SI.den, intCmp, ltInt_iff, Option.getD_some, decide_eq_true_eq, decide_eq_false_iff_not] at g f
        simp only [g, if_true, if_false] at hK
        refine ⟨sE A by' ρ' 1, ?_, ⟨1, by omega, hstep 0 (by omega) (by rw [← K.first]; omega), rfl⟩, by simp [aμ, sE, setS_int, setI_int]⟩
        simp [Eqns, Eqn.ok, sE, SI.den, SS.den, SP.den, setI_int, setI_rows, setI_str, setS_int, setS_rows, setS_str, preCells, RX.flat, RX.ok, AV.val, K.rows, K.first, ht, hby, starS, rows1_len]
        repeat' apply And.intro
        all_goals first | omega | exact rows1_ok A | (intro xs hx; simpa [vstr, List.getD] using rows1_get (A := A) hx)
      · exact ⟨ρ', eqns_nil, trivial⟩
      · simp only [SB.den, SI.den, intCmp, ltInt_iff, Option.getD_some, decide_eq_true_eq, decide_eq_false_iff_not] at g f
        simp only [g, if_true, if_false] at hK
        refine ⟨sE A by' ρ' 1, ?_, ⟨1, by omega, hstep 0 (by omega) (by rw [← K.first]; omega), rfl⟩, by simp [aμ, sE, setS_int, setI_int]⟩
        simp [Eqns, Eqn.ok, sE, SI.den, SS.den, SP.den, setI_int, setI_rows, setI_str, setS_int, setS_rows, setS_str, preCells, RX.flat, RX.ok, AV.val, K.rows, K.first, ht, hby, starS, rows1_len]
        repeat' apply And.intro
        all_goals first | omega | exact rows1_ok A | (intro xs hx; simpa [vstr, List.getD] using rows1_get (A := A) hx)
    | 1, hi =>
      obtain ⟨i, h1, h2, rfl⟩ := hi
      show OTok _ _ _ 1 _ ubo1
      simp only [ubo1, OTok]
      refine ⟨fun h => ⟨ρ, eqns_nil, trivial⟩, fun h => ?_⟩
      have hl : (A.getD i []).length ≤ 100 := by
        simp [SB.den, SI.den, intCmp, ltInt_iff, sE, setS_str] at h
        simp only [List.getD]
        omega
      have hij := hstep i h2 hl
      have hne := take_ne K.ne h1
      have ht := take_getD (A := A) (i := i) (by omega)
      refine ⟨sE A by' ρ (i + 1), ?_, ⟨i + 1, by omega, by omega, rfl⟩, by simp [aμ, sE, setS_int, setI_int]; omega⟩
      simp [Eqns, Eqn.ok, sE, SI.den, SS.den, SP.den, setI_int, setI_rows, setI_str, setS_int, setS_rows, setS_str, preCells, RX.flat, RX.ok, AV.val, K.rows, K.first, ht, starS_snoc _ hne, rows1_len, hby]
      repeat' apply And.intro
      all_goals first | omega | exact rows1_ok A | (intro xs hx; simpa [vstr, List.getD] using rows1_get (A := A) hx)
theorem star_nil_set (hw : LW φ ρ [] W) (ha : VRs ρ φ [.nilSlice, .str [.var 6], .bool (.lit true)] xs) : Calls Tryz.prog 7 ⟨xs⟩ W fun e W' => e = .returned (.bool true) ∧ Kept W W' := by
  refine law_of (G := znG) (C := znC) (I := fun k ρ' => k = 0 ∧ ρ' = ρ) (μ := fun _ _ => 0) (fun _ _ _ => shC_ok) ?_ ?_ ?_ ⟨rfl, rfl⟩ rfl rfl znst hw ha
  · rintro k ρ' ⟨rfl, rfl⟩
    rw [znf0]
    intro p hp; cases hp
  · rintro k ρ' ⟨rfl, rfl⟩; exact znat0
  · rintro k ρ' ⟨rfl, rfl⟩
    show OTok _ _ _ 0 ρ' zno0
    simp only [zno0, OTok]
    exact ⟨fun _ => ⟨ρ', eqns_nil, trivial⟩, fun _ => ⟨fun _ => ⟨ρ', eqns_nil, trivial⟩, fun _ => ⟨ρ', eqns_nil, trivial⟩⟩⟩
theorem star_empty_set (hw : LW φ ρ [] W) (ha : VRs ρ φ [.eslice 64 1, .str [.var 6], .bool (.lit true)] xs) : Calls Tryz.prog 7 ⟨xs⟩ W fun e W' => e = .returned (.bool true) ∧ Kept W W' := by
  refine law_of (G := zeG) (C := zeC) (I := fun k ρ' => k = 0 ∧ ρ' = ρ) (μ := fun _ _ => 0) (fun _ _ _ => shC_ok) ?_ ?_ ?_ ⟨rfl, rfl⟩ rfl rfl zest hw ha
  · rintro k ρ' ⟨rfl, rfl⟩
    rw [zef0]
    intro p hp; cases hp
  · rintro k ρ' ⟨rfl, rfl⟩; exact zeat0
  · rintro k ρ' ⟨rfl, rfl⟩
    show OTok _ _ _ 0 ρ' zeo0
    simp only [zeo0, OTok]
    exact ⟨fun _ => ⟨ρ', eqns_nil, trivial⟩, fun _ => ⟨fun _ => ⟨ρ', eqns_nil, trivial⟩, fun _ => ⟨ρ', eqns_nil, trivial⟩⟩⟩
theorem star_nil_unset (hw : LW φ ρ [] W) (ha : VRs ρ φ [.nilSlice, .str [.var 6], .bool (.lit false)] xs) : Calls Tryz.prog 7 ⟨xs⟩ W fun e W' => e = .returned (.bool true) ∧ Kept W W' := by
  refine law_of (G := ynG) (C := ynC) (I := fun k ρ' => k = 0 ∧ ρ' = ρ) (μ := fun _ _ => 0) (fun _ _ _ => shC_ok) ?_ ?_ ?_ ⟨rfl, rfl⟩ rfl rfl ynst hw ha
  · rintro k ρ' ⟨rfl, rfl⟩
    rw [ynf0]
    intro p hp; cases hp
  · rintro k ρ' ⟨rfl, rfl⟩; exact ynat0
  · rintro k ρ' ⟨rfl, rfl⟩
    show OTok _ _ _ 0 ρ' yno0
    simp only [yno0, OTok]
    exact ⟨ρ', eqns_nil, trivial⟩
theorem star_empty_unset (hw : LW φ ρ [] W) (ha : VRs ρ φ [.eslice 64 1, .str [.var 6], .bool (.lit false)] xs) : Calls Tryz.prog 7 ⟨xs⟩ W fun e W' => e = .returned (.bool true) ∧ Kept W W' := by
  refine law_of (G := yeG) (C := yeC) (I := fun k ρ' => k = 0 ∧ ρ' = ρ) (μ := fun _ _ => 0) (fun _ _ _ => shC_ok) ?_ ?_ ?_ ⟨rfl, rfl⟩ rfl rfl yest hw ha
  · rintro k ρ' ⟨rfl, rfl⟩
    rw [yef0]
    intro p hp; cases hp
  · rintro k ρ' ⟨rfl, rfl⟩; exact yeat0
  · rintro k ρ' ⟨rfl, rfl⟩
    show OTok _ _ _ 0 ρ' yeo0
    simp only [yeo0, OTok]
    exact ⟨ρ', eqns_nil, trivial⟩
theorem star_long (hlong : 1024 < (ρ.str 6).length) (hw : LW φ ρ [] W) (ha : VRs ρ φ [.slice 64 0 (.var 60) (.rest 1), .str [.var 6], .bool (.lit true)] xs) : Calls Tryz.prog 7 ⟨xs⟩ W fun e W' => e = .returned (.bool true) ∧ Kept W W' := by
  refine law_of (G := sxG) (C := sxC) (I := fun k ρ' => k = 0 ∧ ρ' = ρ) (μ := fun _ _ => 0) (fun _ _ _ => shC_ok) ?_ ?_ ?_ ⟨rfl, rfl⟩ rfl rfl sxst hw ha
  · rintro k ρ' ⟨rfl, rfl⟩
    rw [sxf0]
    intro p hp; rcases List.mem_singleton.1 hp with rfl; simp [SB.den, SI.den, intCmp, ltInt_iff]; omega
  · rintro k ρ' ⟨rfl, rfl⟩; exact sxat0
  · rintro k ρ' ⟨rfl, rfl⟩
    show OTok _ _ _ 0 ρ' sxo0
    simp only [sxo0, OTok]
    exact ⟨ρ', eqns_nil, trivial⟩
end
end Go.Sx
namespace Go.Sx
open Go.Proofs
set_option maxRecDepth 100000
theorem first_big : ∀ A : List (List UInt8), (∀ a ∈ A, a.length ≤ 100) ∨ ∃ j, j < A.length ∧ 100 < (A.getD j []).length ∧ ∀ a ∈ A.take j, a.length ≤ 100
  | [] => .inl (fun a h => by cases h)
  | a :: l => by
    by_cases ha : a.length ≤ 100
    · rcases first_big l with h | ⟨j, h1, h2, h3⟩
      · refine .inl fun x hx => ?_
        rcases List.mem_cons.1 hx with rfl | hx
        · exact ha
        · exact h x hx
      · refine .inr ⟨j + 1, by simpa using h1, by simpa using h2, fun x hx => ?_⟩
        simp only [List.take_succ_cons] at hx
        rcases List.mem_cons.1 hx with rfl | hx
        · exact ha
        · exact h3 x hx
    · exact .inr ⟨0, by simp, by simpa using ha, fun x hx => by simp at hx⟩
def lawEnv (A : List (List UInt8)) (ifs by' : List UInt8) (n : Int) : Env :=
  { int := fun i => if i = 60 then n else if i = 21 then starN by' A else 0
    str := fun i => if i = 6 then ifs else if i = 40 then A.getD 0 [] else if i = 22 then (starS by' A).flatten else []
    boo := fun _ => false
    rows := fun i => if i = 10 then rows1 A else if i = 21 then starR by' A else [] }
theorem lawEnv_ok {A : List (List UInt8)} {ifs by' : List UInt8} {n : Nat} (hne : A ≠ []) (h1 : 1 ≤ n) (hlen : A.length = min n 20) : LK A by' (lawEnv A ifs by' n) := by
  refine ⟨hne, by omega, rfl, rfl, rfl, rfl, rfl, rfl, rfl, ?_⟩
  show 1 ≤ (n : Int) ∧ (if 20 < (n : Int) then (A.length : Int) = 20 else (A.length : Int) = (n : Int))
  refine ⟨by omega, ?_⟩
  split <;> omega
def plS (b off cap : Nat) : Pl := pl0.with 64 ⟨b, off, cap⟩
theorem globS (b off cap : Nat) : Glob (plS b off cap) := fun g hg => by
  refine ⟨0, ?_⟩
  unfold plS
  rw [Pl.with_ne _ _ (by omega)]
  simp [pl0, hg]
theorem freshS (b off cap : Nat) : ∀ i, 70 ≤ i → plS b off cap i = none := by
  intro i hi
  unfold plS
  rw [Pl.with_ne _ _ (by omega)]
  simp [pl0]; omega
theorem lw_nil (ρ : Env) (b off cap : Nat) (W : World) : LW (plS b off cap) ρ [] W :=
  ⟨⟨(fun i c h => by cases h), (fun i j c d L M h => by cases h), freshS b off cap, (fun i c L h => by cases h)⟩, globS b off cap, fun k ⟨id, c, L, h, _⟩ => by cases h⟩
theorem one_get {b : ABlk} {i : Nat} {c : ABlk} (h : (hpOf [(64, b)] 70).t.get i = some c) : i = 64 ∧ c = b := by
  simp only [hpOf, List.foldr] at h
  rw [PT.get_set] at h
  split at h
  · cases h; exact ⟨by assumption, rfl⟩
  · cases h
theorem rows1_flat : ∀ A : List (List UInt8), (rows1 A).flatten = A.map vstr
  | [] => rfl
  | a :: l => by
    have := rows1_flat l
    simp only [rows1, List.map_cons, List.flatten_cons] at this ⊢
    rw [this]; rfl
theorem lw_row {ρ : Env} {A : List (List UInt8)} {b off cap : Nat} {W : World} {c : Array Value} {ek : Nat} {fz : Nat × Nat} (hR : ρ.rows 10 = rows1 A) (hS : ρ.str 40 = A.getD 0 []) (hb : W.heap[b]? = some (.cells c ek fz)) (hcap : off + cap ≤ c.size) (hA : A.length ≤ cap)
    (hc : ∀ i, i < A.length → c[off + i]? = some (vstr (A.getD i []))) : LW (plS b off cap) ρ [(64, .rowv true 10 1 (.lit 0) [.str [.var 40]] 9)] W := by
  have hfl := rows1_flat A
  refine ⟨⟨fun i d h => ?_, fun i j d e L M h1 h2 ho => ?_, freshS b off cap, fun i d L h ho => ?_⟩, globS b off cap, fun k ⟨id, d, L, h, ho, _⟩ => ?_⟩
  · obtain ⟨rfl, rfl⟩ := one_get h
    refine ⟨⟨b, off, cap⟩, _, Pl.with_same _ _ _, hb, ?_⟩
    obtain ⟨lo, hi⟩ := fz
    refine ⟨⟨ek, c, lo, hi, (c.toList.drop off).drop A.length, rfl, .inl rfl, .inr ⟨rfl, hcap, ?_⟩, ?_⟩, ?_, by simp [SI.den], ?_⟩
    · rw [hR, hfl]; simpa using hA
    · rw [hR, hfl]
      show c.toList.drop off = _
      have : (c.toList.drop off).take A.length = A.map vstr := by
        apply List.ext_getElem?
        intro i
        by_cases hi : i < A.length
        · rw [List.getElem?_take, if_pos hi, List.getElem?_drop, Array.getElem?_toList, hc i hi, List.getElem?_map, List.getElem?_eq_getElem hi]
          simp [List.getD, List.getElem?_eq_getElem hi]
        · rw [List.getElem?_eq_none (by simp; omega), List.getElem?_eq_none (by simp; omega)]
      rw [← this, List.take_append_drop]
    · intro q hq; rw [hR] at hq; exact rows1_ok A q hq
    · intro xs hx
      rw [hR] at hx
      have hx := rows1_get hx
      simp only [SI.den, Int.toNat_zero] at hx
      subst hx
      refine VRs.cons ?_ VRs.nil
      simp only [VR, SS.den, SP.den, List.append_nil, hS]; rfl
  · obtain ⟨rfl, rfl⟩ := one_get h1; cases ho
  · obtain ⟨rfl, rfl⟩ := one_get h; cases ho
  · obtain ⟨rfl, rfl⟩ := one_get h; cases ho
theorem vr_str6 {ρ : Env} {φ : Pl} {s : ByteArray} (h : ρ.str 6 = s.data.toList) : VR ρ φ (.str [.var 6]) (.string s) := by
  simp only [VR, SS.den, SP.den, List.append_nil, h]
theorem vr_slice {ρ : Env} {b off n cap : Nat} (h : ρ.int 60 = n) (hl : n ≤ cap) : VR ρ (plS b off cap) (.slice 64 0 (.var 60) (.rest 1)) (.slice (some ⟨b, off, none⟩) n cap) := by
  simp only [VR, SI.den, h, Cap.val]
  exact ⟨⟨b, off, cap⟩, Pl.with_same _ _ _, by omega, by simpa using hl, by simp⟩
theorem vr_bool {ρ : Env} {φ : Pl} (b : Bool) : VR ρ φ (.bool (.lit b)) (.bool b) := by simp only [VR, SB.den]
theorem star_row {b off n cap : Nat} {c : Array Value} {ek : Nat} {fz : Nat × Nat} {ss : List ByteArray} {W : World} (hb : W.heap[b]? = some (.cells c ek fz)) (hl : n ≤ cap) (hss : ss.length = cap) (hc : ∀ i, i < cap → c[off + i]? = some (.string (ss.getD i ByteArray.empty))) (ifs : ByteArray) (set : Bool) :
    Calls Tryz.prog 7 #[.slice (some ⟨b, off, none⟩) n cap, .string ifs, .bool set] W fun e W' => e = .returned (.bool true) ∧ Kept W W' := by
  by_cases hn : n = 0
  · subst hn
    have he : ∀ ρ : Env, VR ρ (plS b 0 (off + cap)) (.eslice 64 1) (.slice (some ⟨b, off, none⟩) 0 cap) := by
      intro ρ
      simp only [VR]
      exact ⟨⟨b, 0, off + cap⟩, off, cap, Pl.with_same _ _ _, Nat.zero_le _, by simp, rfl⟩
    cases set with
    | true => exact star_empty_set (ρ := lawEnv [] ifs.data.toList [] 0) (lw_nil _ b 0 (off + cap) W) (VRs.cons (he _) (VRs.cons (vr_str6 rfl) (VRs.cons (vr_bool _) VRs.nil)))
    | false => exact star_empty_unset (ρ := lawEnv [] ifs.data.toList [] 0) (lw_nil _ b 0 (off + cap) W) (VRs.cons (he _) (VRs.cons (vr_str6 rfl) (VRs.cons (vr_bool _) VRs.nil)))
  · obtain ⟨A, hA⟩ : ∃ A, A = (ss.take (min n 20)).map (fun s => s.data.toList) := ⟨_, rfl⟩
    have hAl : A.length = min n 20 := by rw [hA]; simp; omega
    have hne : A ≠ [] := fun h => by rw [h] at hAl; simp at hAl; omega
    have hget : ∀ i, i < A.length → c[off + i]? = some (vstr (A.getD i [])) := by
      intro i hi
      rw [hc i (by omega)]
      have hi2 : i < min n 20 := by omega
      have hi3 : i < ss.length := by omega
      rw [hA]
      simp only [List.getD, List.getElem?_map, List.getElem?_take, if_pos hi2, List.getElem?_eq_getElem hi3, Option.map_some, Option.getD_some, vstr]
    have hcap : off + cap ≤ c.size := by
      have := hc (cap - 1) (by omega)
      rcases Nat.lt_or_ge (off + (cap - 1)) c.size with h | h
      · omega
      · rw [Array.getElem?_eq_none h] at this; cases this
    have hK : ∀ by', LK A by' (lawEnv A ifs.data.toList by' n) := fun by' => lawEnv_ok hne (by omega) hAl
    have hW : ∀ by', LW (plS b off cap) (lawEnv A ifs.data.toList by' n) [(64, .rowv true 10 1 (.lit 0) [.str [.var 40]] 9)] W := fun by' => lw_row rfl rfl hb hcap (by omega) hget
    have ha : ∀ by' (s : Bool), VRs (lawEnv A ifs.data.toList by' n) (plS b off cap) [.slice 64 0 (.var 60) (.rest 1), .str [.var 6], .bool (.lit s)] [.slice (some ⟨b, off, none⟩) n cap, .string ifs, .bool s] :=
      fun by' s => VRs.cons (vr_slice rfl hl) (VRs.cons (vr_str6 rfl) (VRs.cons (vr_bool _) VRs.nil))
    cases set with
    | true =>
      by_cases hlong : 1024 < ifs.data.toList.length
      · exact star_long (ρ := lawEnv A ifs.data.toList [] n) hlong (lw_nil _ b off cap W) (ha _ _)
      · rcases first_big A with h | ⟨j, h1, h2, h3⟩
        · exact star_set (ifs := ifs.data.toList) (by' := ifs.data.toList.take 1) (hK _) h rfl (Nat.le_of_not_lt hlong) rfl (hW _) (ha _ _)
        · exact star_set_bad (ifs := ifs.data.toList) (by' := ifs.data.toList.take 1) (hK _) h1 h2 h3 rfl (Nat.le_of_not_lt hlong) rfl (hW _) (ha _ _)
    | false =>
      rcases first_big A with h | ⟨j, h1, h2, h3⟩
      · exact star_unset (hK _) h rfl (hW _) (ha _ _)
      · exact star_unset_bad (hK _) h1 h2 h3 rfl (hW _) (ha _ _)
theorem star_nil (ifs : ByteArray) (set : Bool) (W : World) : Calls Tryz.prog 7 #[.slice none 0 0, .string ifs, .bool set] W fun e W' => e = .returned (.bool true) ∧ Kept W W' := by
  have he : ∀ ρ : Env, VR ρ (plS 0 0 0) .nilSlice (.slice none 0 0) := fun ρ => by simp only [VR]
  cases set with
  | true => exact star_nil_set (ρ := lawEnv [] ifs.data.toList [] 0) (lw_nil _ 0 0 0 W) (VRs.cons (he _) (VRs.cons (vr_str6 rfl) (VRs.cons (vr_bool _) VRs.nil)))
  | false => exact star_nil_unset (ρ := lawEnv [] ifs.data.toList [] 0) (lw_nil _ 0 0 0 W) (VRs.cons (he _) (VRs.cons (vr_str6 rfl) (VRs.cons (vr_bool _) VRs.nil)))
end Go.Sx
