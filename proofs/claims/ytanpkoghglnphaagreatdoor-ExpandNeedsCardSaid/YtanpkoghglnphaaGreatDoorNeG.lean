import Derived.Test.YtanpkoghglnphaaGreatDoorNeD
import Derived.Test.YtanpkoghglnphaaGreatDoorNeE
import Derived.Test.YtanpkoghglnphaaGreatDoorNeF
import Derived.Test.YtanpkoghglnphaaGreatDoorEnv
namespace Go.Sx
open Go.Proofs
set_option maxRecDepth 100000
noncomputable def p_d0 : POrc := { facts := [], f := 17, args := [.int .i64 (.var 0)], pre := [], v := .str [.var 74] }
theorem d0_ok {ρ : Env} {i : Nat} (h : ρ.int 0 = i) (hi : i ≤ 20) (h2 : ρ.str 74 = Lib.decDigits i) : POrcOK Tryz.prog ρ p_d0 := by
  intro φ w xs n _ _ _ ha
  obtain ⟨x, ys, rfl, h1, h3⟩ := VRs.cons_left ha
  have := VRs.nil_left h3; subst this
  simp only [VR, SI.den, h] at h1
  subst h1
  refine (digits_calls _ (by omega) (by omega) w).mono fun e w' ⟨he, hk⟩ => ⟨_, he, ?_, hk⟩
  show VR ρ φ (.str [.var 74]) _
  have : Lib.itoa (i : Int) = Lib.decDigits i := by
    rw [Lib.itoa, if_neg (by omega)]; rfl
  simp only [VR, SS.den, SP.den, List.append_nil, h2, this]
end Go.Sx
namespace Go.Sx
open Go.Proofs
set_option maxRecDepth 1000000

noncomputable def nuC : Ctx := ctxOf Tryz.prog lies18 exts18 [o_ta, o_tb] [p_sh, p_d0]
noncomputable def nutg : List AM := [st nuC 5 [.slice 64 0 (.rlen 10) (.rest 1), .bool (.lit false)] (hpOf [(64, .rowv true 10 1 (.lit 0) [.str [.var 40]] 9)] 70) [(.cmp .geq (.rlen 10) (.lit 1), true)],
    nd nuC 5 0 [(0, .slice 64 0 (.var 62) (.rest 1)), (1, .bool (.lit false)), (5, .bool (.lit true)), (6, .str [.var 6]), (7, .str [.var 8]), (8, .int .i64 (.var 0))]
      [(64, .rowv true 10 1 (.var 0) [.str [.var 9]] 9)] 70
      [(.cmp .geq (.var 62) (.lit 1), true), (.cmp .leq (.var 62) (.lit 20), true), (.cmp .leq (.var 62) (.rlen 10), true), (.cmp .geq (.slen 74) (.lit 1), true), (.cmp .leq (.slen 74) (.lit 2), true), (.cmp .leq (.slen 6) (.lit 200), true), (.cmp .leq (.slen 8) (.lit 3100), true), (.cmp .geq (.var 0) (.lit 0), true), (.cmp .leq (.var 0) (.var 62), true)],
    nd nuC 5 1 [(0, .slice 64 0 (.var 62) (.rest 1)), (1, .bool (.lit false)), (5, .bool (.lit true)), (6, .str [.var 6]), (7, .str [.var 8]), (8, .int .i64 (.var 0)), (9, .int .i64 (.slen 80))]
      [(64, .rowv true 10 1 (.var 0) [.str [.var 80, .var 82]] 9)] 70
      [(.cmp .geq (.var 62) (.lit 1), true), (.cmp .leq (.var 62) (.lit 20), true), (.cmp .leq (.var 62) (.rlen 10), true), (.cmp .geq (.slen 74) (.lit 1), true), (.cmp .leq (.slen 74) (.lit 2), true), (.cmp .leq (.slen 6) (.lit 200), true), (.cmp .leq (.slen 8) (.lit 3100), true), (.cmp .geq (.var 0) (.lit 0), true), (.cmp .leq (.var 0) (.var 62), true), (.cmp .lss (.var 0) (.var 62), true), (.cmp .leq (.slen 80) (.lit 150), true)],
    ndAt (leafAt (execS nuC (fun m => stopBk 5 3 10 72 m) 600 (nd nuC 5 0 [(0, .slice 64 0 (.var 62) (.rest 1)), (1, .bool (.lit false)), (5, .bool (.lit true)), (6, .str [.var 6]), (7, .str [.var 8]), (8, .int .i64 (.var 0))] [(64, .rowv true 10 1 (.var 0) [.str [.var 9]] 9)] 65 [(.cmp .geq (.var 62) (.lit 1), true), (.cmp .leq (.var 62) (.lit 20), true), (.cmp .leq (.var 62) (.rlen 10), true), (.cmp .geq (.slen 74) (.lit 1), true), (.cmp .leq (.slen 74) (.lit 2), true), (.cmp .leq (.slen 6) (.lit 200), true), (.cmp .leq (.slen 8) (.lit 3100), true), (.cmp .geq (.var 0) (.lit 0), true), (.cmp .leq (.var 0) (.var 62), true), (.cmp .eql (.var 0) (.var 62), true)])) []) [] [(0, .slice 64 0 (.var 62) (.rest 1)), (5, .bool (.lit true)), (6, .str [.var 7]), (7, .str [.var 75]), (10, .int .i64 (.var 0))] [] [] [] [(64, .cells true (some (.v 10, 1)) [] 9)] 70
      [(.cmp .geq (.var 62) (.lit 1), true), (.cmp .leq (.var 62) (.lit 20), true), (.cmp .leq (.var 62) (.rlen 10), true), (.cmp .geq (.slen 74) (.lit 1), true), (.cmp .leq (.slen 74) (.lit 2), true), (.cmp .leq (.slen 7) (.lit 200), true), (.cmp .geq (.slen 7) (.lit 8), true), (.cmp .leq (.slen 75) (.lit 3100), true), (.cmp .geq (.var 0) (.lit 0), true), (.cmp .leq (.var 0) (.var 62), true)],
    nd nuC 5 2 [(0, .slice 64 0 (.var 62) (.rest 1)), (5, .bool (.lit true)), (6, .str [.var 7]), (7, .str [.var 75]), (10, .int .i64 (.var 0))]
      [(64, .cells true (some (.v 10, 1)) [] 9)] 70
      [(.cmp .geq (.var 62) (.lit 1), true), (.cmp .leq (.var 62) (.lit 20), true), (.cmp .leq (.var 62) (.rlen 10), true), (.cmp .geq (.slen 74) (.lit 1), true), (.cmp .leq (.slen 74) (.lit 2), true), (.cmp .leq (.slen 7) (.lit 200), true), (.cmp .geq (.slen 7) (.lit 8), true), (.cmp .leq (.slen 75) (.lit 3100), true), (.cmp .geq (.var 0) (.lit 0), true), (.cmp .leq (.var 0) (.var 62), true)]]
noncomputable def nuo0 : OT := (.fork (.cmp .gtr (.rlen 10) (.lit 20)) (.fork (.cmp .gtr (.slen 40) (.lit 150)) (.fin ⟨65, 70, []⟩ []) (.fork (.cmp .gtr (.slen 40) (.lit 0)) (.fork (.cmp .eql (.sbyte 40 (.sub (.slen 40) (.lit 1))) (.lit 10)) (.to 2 ⟨65, 70, []⟩ [.int (.var 62) (.lit 20), .str [.var 8] [], .int (.slen 80) (.sub (.slen 40) (.lit 1)), .int (.var 0) (.lit 0), .str [.var 6] [.lit [36, 40, 100, 111, 32, 48, 41, 46]], .row 10 1 (some ((.v 10), 1)) [], .peek 10 (.var 0) [.str [.var 80, .var 82]]]) (.to 1 ⟨65, 70, []⟩ [.int (.var 62) (.lit 20), .str [.var 8] [.var 40, .lit [46]], .int (.var 0) (.lit 1), .str [.var 6] [.lit [36, 40, 100, 111, 32, 48, 41, 46]], .row 10 1 (some ((.v 10), 1)) [], .peek 10 (.var 0) [.str [.var 9]]])) (.to 1 ⟨65, 70, []⟩ [.int (.var 62) (.lit 20), .str [.var 8] [.var 40, .lit [46]], .int (.var 0) (.lit 1), .str [.var 6] [.lit [36, 40, 100, 111, 32, 48, 41, 46]], .row 10 1 (some ((.v 10), 1)) [], .peek 10 (.var 0) [.str [.var 9]]]))) (.fork (.cmp .gtr (.slen 40) (.lit 150)) (.fin ⟨65, 70, []⟩ []) (.fork (.cmp .gtr (.slen 40) (.lit 0)) (.fork (.cmp .eql (.sbyte 40 (.sub (.slen 40) (.lit 1))) (.lit 10)) (.to 2 ⟨65, 70, []⟩ [.int (.var 62) (.rlen 10), .str [.var 8] [], .int (.slen 80) (.sub (.slen 40) (.lit 1)), .int (.var 0) (.lit 0), .str [.var 6] [.lit [36, 40, 100, 111, 32, 48, 41, 46]], .row 10 1 (some ((.v 10), 1)) [], .peek 10 (.var 0) [.str [.var 80, .var 82]]]) (.to 1 ⟨65, 70, []⟩ [.int (.var 62) (.rlen 10), .str [.var 8] [.var 40, .lit [46]], .int (.var 0) (.lit 1), .str [.var 6] [.lit [36, 40, 100, 111, 32, 48, 41, 46]], .row 10 1 (some ((.v 10), 1)) [], .peek 10 (.var 0) [.str [.var 9]]])) (.to 1 ⟨65, 70, []⟩ [.int (.var 62) (.rlen 10), .str [.var 8] [.var 40, .lit [46]], .int (.var 0) (.lit 1), .str [.var 6] [.lit [36, 40, 100, 111, 32, 48, 41, 46]], .row 10 1 (some ((.v 10), 1)) [], .peek 10 (.var 0) [.str [.var 9]]]))))
noncomputable def nuo1 : OT := (.fork (.cmp .lss (.var 0) (.var 62)) (.fork (.cmp .gtr (.slen 9) (.lit 150)) (.fin ⟨65, 70, []⟩ []) (.fork (.cmp .gtr (.slen 9) (.lit 0)) (.fork (.cmp .eql (.sbyte 9 (.sub (.slen 9) (.lit 1))) (.lit 10)) (.to 2 ⟨65, 70, []⟩ [.int (.var 62) (.var 62), .str [.var 8] [.var 8], .int (.slen 80) (.sub (.slen 9) (.lit 1)), .int (.var 0) (.var 0), .str [.var 6] [.var 6, .lit [36, 40, 100, 111, 32], .var 74, .lit [41, 46]], .row 10 1 (some ((.v 10), 1)) [], .peek 10 (.var 0) [.str [.var 80, .var 82]]]) (.to 1 ⟨65, 70, []⟩ [.int (.var 62) (.var 62), .str [.var 8] [.var 8, .var 9, .lit [46]], .int (.var 0) (.add (.var 0) (.lit 1)), .str [.var 6] [.var 6, .lit [36, 40, 100, 111, 32], .var 74, .lit [41, 46]], .row 10 1 (some ((.v 10), 1)) [], .peek 10 (.var 0) [.str [.var 9]]])) (.to 1 ⟨65, 70, []⟩ [.int (.var 62) (.var 62), .str [.var 8] [.var 8, .var 9, .lit [46]], .int (.var 0) (.add (.var 0) (.lit 1)), .str [.var 6] [.var 6, .lit [36, 40, 100, 111, 32], .var 74, .lit [41, 46]], .row 10 1 (some ((.v 10), 1)) [], .peek 10 (.var 0) [.str [.var 9]]]))) (.to 3 ⟨65, 70, []⟩ [.int (.var 62) (.var 62), .str [.var 75] [.var 8], .str [.var 7] [.var 6], .int (.var 0) (.lit 0), .row 10 1 (some ((.v 10), 1)) []]))
noncomputable def nuo2 : OT := (.fork (.cmp .gtr (.slen 80) (.lit 0)) (.fork (.cmp .eql (.sbyte 80 (.sub (.slen 80) (.lit 1))) (.lit 10)) (.to 2 ⟨65, 70, []⟩ [.int (.var 62) (.var 62), .str [.var 8] [.var 8], .int (.slen 80) (.sub (.slen 80) (.lit 1)), .int (.var 0) (.var 0), .str [.var 6] [.var 6], .row 10 1 (some ((.v 10), 1)) [], .peek 10 (.var 0) [.str [.var 80, .var 82]]]) (.to 1 ⟨65, 70, []⟩ [.int (.var 62) (.var 62), .str [.var 8] [.var 8, .var 80, .lit [46]], .int (.var 0) (.add (.var 0) (.lit 1)), .str [.var 6] [.var 6], .row 10 1 (some ((.v 10), 1)) [], .peek 10 (.var 0) [.str [.var 9]]])) (.to 1 ⟨65, 70, []⟩ [.int (.var 62) (.var 62), .str [.var 8] [.var 8, .var 80, .lit [46]], .int (.var 0) (.add (.var 0) (.lit 1)), .str [.var 6] [.var 6], .row 10 1 (some ((.v 10), 1)) [], .peek 10 (.var 0) [.str [.var 9]]]))
noncomputable def nuo3 : OT := (.fork (.cmp .lss (.var 0) (.var 62)) (.to 4 ⟨65, 70, []⟩ [.int (.var 62) (.var 62), .str [.var 75] [.var 75], .str [.var 7] [.var 7], .int (.var 0) (.add (.var 0) (.lit 1)), .row 10 1 (some ((.v 10), 1)) []]) (.fin ⟨65, 70, []⟩ []))
noncomputable def nuo4 : OT := (.fork (.cmp .lss (.var 0) (.var 62)) (.to 4 ⟨65, 70, []⟩ [.int (.var 62) (.var 62), .str [.var 75] [.var 75], .str [.var 7] [.var 7], .int (.var 0) (.add (.var 0) (.lit 1)), .row 10 1 (some ((.v 10), 1)) []]) (.fin ⟨65, 70, []⟩ []))
noncomputable def nuG : Graph := { tg := pick nutg, stop := (fun m => stopAny [(5, (0, 3)), (5, (0, 8)), (5, (0, 3))] m || (fun m => stopBk 5 3 10 72 m) m), n := (fun _ => 1500), pl := fun k => ([nuo0, nuo1, nuo2, nuo3, nuo4].getD k .no).plan, o := fun k => [nuo0, nuo1, nuo2, nuo3, nuo4].getD k .no, v := .bool (.lit true), h := (hpOf [] 70), f := 5, N := 65 }
theorem nuat0 : nuG.At nuC 0 := ⟨by kernel_rfl, by kernel_rfl, by kernel_rfl⟩
theorem nuat1 : nuG.At nuC 1 := ⟨by kernel_rfl, by kernel_rfl, by kernel_rfl⟩
theorem nuat2 : nuG.At nuC 2 := ⟨by kernel_rfl, by kernel_rfl, by kernel_rfl⟩
theorem nuat3 : nuG.At nuC 3 := ⟨by kernel_rfl, by kernel_rfl, by kernel_rfl⟩
theorem nuat4 : nuG.At nuC 4 := ⟨by kernel_rfl, by kernel_rfl, by kernel_rfl⟩
theorem nuf0 : (nuG.tg 0).facts = [(.cmp .geq (.rlen 10) (.lit 1), true)] := by kernel_rfl
theorem nuf1 : (nuG.tg 1).facts = [(.cmp .geq (.var 62) (.lit 1), true), (.cmp .leq (.var 62) (.lit 20), true), (.cmp .leq (.var 62) (.rlen 10), true), (.cmp .geq (.slen 74) (.lit 1), true), (.cmp .leq (.slen 74) (.lit 2), true), (.cmp .leq (.slen 6) (.lit 200), true), (.cmp .leq (.slen 8) (.lit 3100), true), (.cmp .geq (.var 0) (.lit 0), true), (.cmp .leq (.var 0) (.var 62), true)] := by kernel_rfl
theorem nuf2 : (nuG.tg 2).facts = [(.cmp .geq (.var 62) (.lit 1), true), (.cmp .leq (.var 62) (.lit 20), true), (.cmp .leq (.var 62) (.rlen 10), true), (.cmp .geq (.slen 74) (.lit 1), true), (.cmp .leq (.slen 74) (.lit 2), true), (.cmp .leq (.slen 6) (.lit 200), true), (.cmp .leq (.slen 8) (.lit 3100), true), (.cmp .geq (.var 0) (.lit 0), true), (.cmp .leq (.var 0) (.var 62), true), (.cmp .lss (.var 0) (.var 62), true), (.cmp .leq (.slen 80) (.lit 150), true)] := by kernel_rfl
theorem nuf3 : (nuG.tg 3).facts = [(.cmp .geq (.var 62) (.lit 1), true), (.cmp .leq (.var 62) (.lit 20), true), (.cmp .leq (.var 62) (.rlen 10), true), (.cmp .geq (.slen 74) (.lit 1), true), (.cmp .leq (.slen 74) (.lit 2), true), (.cmp .leq (.slen 7) (.lit 200), true), (.cmp .geq (.slen 7) (.lit 8), true), (.cmp .leq (.slen 75) (.lit 3100), true), (.cmp .geq (.var 0) (.lit 0), true), (.cmp .leq (.var 0) (.var 62), true)] := by kernel_rfl
theorem nuf4 : (nuG.tg 4).facts = [(.cmp .geq (.var 62) (.lit 1), true), (.cmp .leq (.var 62) (.lit 20), true), (.cmp .leq (.var 62) (.rlen 10), true), (.cmp .geq (.slen 74) (.lit 1), true), (.cmp .leq (.slen 74) (.lit 2), true), (.cmp .leq (.slen 7) (.lit 200), true), (.cmp .geq (.slen 7) (.lit 8), true), (.cmp .leq (.slen 75) (.lit 3100), true), (.cmp .geq (.var 0) (.lit 0), true), (.cmp .leq (.var 0) (.var 62), true)] := by kernel_rfl
theorem nust : startF nuC [(.cmp .geq (.rlen 10) (.lit 1), true)] 5 [.slice 64 0 (.rlen 10) (.rest 1), .bool (.lit false)] (hpOf [(64, .rowv true 10 1 (.lit 0) [.str [.var 40]] 9)] 70) = some (nuG.tg 0) := by kernel_rfl
end Go.Sx
namespace Go.Sx
open Go.Proofs
set_option maxRecDepth 1000000

noncomputable def nqC : Ctx := ctxOf Tryz.prog lies18 exts18 [o_qa, o_qb] [p_sh, p_d0]
noncomputable def nqtg : List AM := [st nqC 5 [.slice 64 0 (.rlen 10) (.rest 1), .bool (.lit true)] (hpOf [(64, .rowv true 10 1 (.lit 0) [.str [.var 40]] 9)] 70) [(.cmp .geq (.rlen 10) (.lit 1), true)],
    nd nqC 5 0 [(0, .slice 64 0 (.var 62) (.rest 1)), (1, .bool (.lit true)), (5, .bool (.lit true)), (6, .str [.var 6]), (7, .str [.var 8]), (8, .int .i64 (.var 0))]
      [(64, .rowv true 10 1 (.var 0) [.str [.var 9]] 9)] 70
      [(.cmp .geq (.var 62) (.lit 1), true), (.cmp .leq (.var 62) (.lit 20), true), (.cmp .leq (.var 62) (.rlen 10), true), (.cmp .geq (.slen 74) (.lit 1), true), (.cmp .leq (.slen 74) (.lit 2), true), (.cmp .leq (.slen 6) (.lit 200), true), (.cmp .leq (.slen 8) (.lit 3100), true), (.cmp .geq (.var 0) (.lit 0), true), (.cmp .leq (.var 0) (.var 62), true)],
    nd nqC 5 1 [(0, .slice 64 0 (.var 62) (.rest 1)), (1, .bool (.lit true)), (5, .bool (.lit true)), (6, .str [.var 6]), (7, .str [.var 8]), (8, .int .i64 (.var 0)), (9, .int .i64 (.slen 80))]
      [(64, .rowv true 10 1 (.var 0) [.str [.var 80, .var 82]] 9)] 70
      [(.cmp .geq (.var 62) (.lit 1), true), (.cmp .leq (.var 62) (.lit 20), true), (.cmp .leq (.var 62) (.rlen 10), true), (.cmp .geq (.slen 74) (.lit 1), true), (.cmp .leq (.slen 74) (.lit 2), true), (.cmp .leq (.slen 6) (.lit 200), true), (.cmp .leq (.slen 8) (.lit 3100), true), (.cmp .geq (.var 0) (.lit 0), true), (.cmp .leq (.var 0) (.var 62), true), (.cmp .lss (.var 0) (.var 62), true), (.cmp .leq (.slen 80) (.lit 150), true)],
    ndAt (leafAt (execS nqC (fun m => stopBk 5 3 10 72 m) 600 (nd nqC 5 0 [(0, .slice 64 0 (.var 62) (.rest 1)), (1, .bool (.lit true)), (5, .bool (.lit true)), (6, .str [.var 6]), (7, .str [.var 8]), (8, .int .i64 (.var 0))] [(64, .rowv true 10 1 (.var 0) [.str [.var 9]] 9)] 65 [(.cmp .geq (.var 62) (.lit 1), true), (.cmp .leq (.var 62) (.lit 20), true), (.cmp .leq (.var 62) (.rlen 10), true), (.cmp .geq (.slen 74) (.lit 1), true), (.cmp .leq (.slen 74) (.lit 2), true), (.cmp .leq (.slen 6) (.lit 200), true), (.cmp .leq (.slen 8) (.lit 3100), true), (.cmp .geq (.var 0) (.lit 0), true), (.cmp .leq (.var 0) (.var 62), true), (.cmp .eql (.var 0) (.var 62), true)])) []) [] [(0, .slice 64 0 (.var 62) (.rest 1)), (5, .bool (.lit true)), (6, .str [.lit [34], .var 7, .lit [34]]), (7, .str [.var 75]), (10, .int .i64 (.var 0))] [] [] [] [(64, .cells true (some (.v 10, 1)) [] 9)] 70
      [(.cmp .geq (.var 62) (.lit 1), true), (.cmp .leq (.var 62) (.lit 20), true), (.cmp .leq (.var 62) (.rlen 10), true), (.cmp .geq (.slen 74) (.lit 1), true), (.cmp .leq (.slen 74) (.lit 2), true), (.cmp .leq (.slen 7) (.lit 200), true), (.cmp .geq (.slen 7) (.lit 8), true), (.cmp .leq (.slen 75) (.lit 3100), true), (.cmp .geq (.var 0) (.lit 0), true), (.cmp .leq (.var 0) (.var 62), true)],
    nd nqC 5 2 [(0, .slice 64 0 (.var 62) (.rest 1)), (5, .bool (.lit true)), (6, .str [.lit [34], .var 7, .lit [34]]), (7, .str [.var 75]), (10, .int .i64 (.var 0))]
      [(64, .cells true (some (.v 10, 1)) [] 9)] 70
      [(.cmp .geq (.var 62) (.lit 1), true), (.cmp .leq (.var 62) (.lit 20), true), (.cmp .leq (.var 62) (.rlen 10), true), (.cmp .geq (.slen 74) (.lit 1), true), (.cmp .leq (.slen 74) (.lit 2), true), (.cmp .leq (.slen 7) (.lit 200), true), (.cmp .geq (.slen 7) (.lit 8), true), (.cmp .leq (.slen 75) (.lit 3100), true), (.cmp .geq (.var 0) (.lit 0), true), (.cmp .leq (.var 0) (.var 62), true)]]
noncomputable def nqo0 : OT := (.fork (.cmp .gtr (.rlen 10) (.lit 20)) (.fork (.cmp .gtr (.slen 40) (.lit 150)) (.fin ⟨65, 70, []⟩ []) (.fork (.cmp .gtr (.slen 40) (.lit 0)) (.fork (.cmp .eql (.sbyte 40 (.sub (.slen 40) (.lit 1))) (.lit 10)) (.to 2 ⟨65, 70, []⟩ [.int (.var 62) (.lit 20), .str [.var 8] [], .int (.slen 80) (.sub (.slen 40) (.lit 1)), .int (.var 0) (.lit 0), .str [.var 6] [.lit [36, 40, 100, 111, 32, 48, 41, 46]], .row 10 1 (some ((.v 10), 1)) [], .peek 10 (.var 0) [.str [.var 80, .var 82]]]) (.to 1 ⟨65, 70, []⟩ [.int (.var 62) (.lit 20), .str [.var 8] [.var 40, .lit [46]], .int (.var 0) (.lit 1), .str [.var 6] [.lit [36, 40, 100, 111, 32, 48, 41, 46]], .row 10 1 (some ((.v 10), 1)) [], .peek 10 (.var 0) [.str [.var 9]]])) (.to 1 ⟨65, 70, []⟩ [.int (.var 62) (.lit 20), .str [.var 8] [.var 40, .lit [46]], .int (.var 0) (.lit 1), .str [.var 6] [.lit [36, 40, 100, 111, 32, 48, 41, 46]], .row 10 1 (some ((.v 10), 1)) [], .peek 10 (.var 0) [.str [.var 9]]]))) (.fork (.cmp .gtr (.slen 40) (.lit 150)) (.fin ⟨65, 70, []⟩ []) (.fork (.cmp .gtr (.slen 40) (.lit 0)) (.fork (.cmp .eql (.sbyte 40 (.sub (.slen 40) (.lit 1))) (.lit 10)) (.to 2 ⟨65, 70, []⟩ [.int (.var 62) (.rlen 10), .str [.var 8] [], .int (.slen 80) (.sub (.slen 40) (.lit 1)), .int (.var 0) (.lit 0), .str [.var 6] [.lit [36, 40, 100, 111, 32, 48, 41, 46]], .row 10 1 (some ((.v 10), 1)) [], .peek 10 (.var 0) [.str [.var 80, .var 82]]]) (.to 1 ⟨65, 70, []⟩ [.int (.var 62) (.rlen 10), .str [.var 8] [.var 40, .lit [46]], .int (.var 0) (.lit 1), .str [.var 6] [.lit [36, 40, 100, 111, 32, 48, 41, 46]], .row 10 1 (some ((.v 10), 1)) [], .peek 10 (.var 0) [.str [.var 9]]])) (.to 1 ⟨65, 70, []⟩ [.int (.var 62) (.rlen 10), .str [.var 8] [.var 40, .lit [46]], .int (.var 0) (.lit 1), .str [.var 6] [.lit [36, 40, 100, 111, 32, 48, 41, 46]], .row 10 1 (some ((.v 10), 1)) [], .peek 10 (.var 0) [.str [.var 9]]]))))
noncomputable def nqo1 : OT := (.fork (.cmp .lss (.var 0) (.var 62)) (.fork (.cmp .gtr (.slen 9) (.lit 150)) (.fin ⟨65, 70, []⟩ []) (.fork (.cmp .gtr (.slen 9) (.lit 0)) (.fork (.cmp .eql (.sbyte 9 (.sub (.slen 9) (.lit 1))) (.lit 10)) (.to 2 ⟨65, 70, []⟩ [.int (.var 62) (.var 62), .str [.var 8] [.var 8], .int (.slen 80) (.sub (.slen 9) (.lit 1)), .int (.var 0) (.var 0), .str [.var 6] [.var 6, .lit [36, 40, 100, 111, 32], .var 74, .lit [41, 46]], .row 10 1 (some ((.v 10), 1)) [], .peek 10 (.var 0) [.str [.var 80, .var 82]]]) (.to 1 ⟨65, 70, []⟩ [.int (.var 62) (.var 62), .str [.var 8] [.var 8, .var 9, .lit [46]], .int (.var 0) (.add (.var 0) (.lit 1)), .str [.var 6] [.var 6, .lit [36, 40, 100, 111, 32], .var 74, .lit [41, 46]], .row 10 1 (some ((.v 10), 1)) [], .peek 10 (.var 0) [.str [.var 9]]])) (.to 1 ⟨65, 70, []⟩ [.int (.var 62) (.var 62), .str [.var 8] [.var 8, .var 9, .lit [46]], .int (.var 0) (.add (.var 0) (.lit 1)), .str [.var 6] [.var 6, .lit [36, 40, 100, 111, 32], .var 74, .lit [41, 46]], .row 10 1 (some ((.v 10), 1)) [], .peek 10 (.var 0) [.str [.var 9]]]))) (.to 3 ⟨65, 70, []⟩ [.int (.var 62) (.var 62), .str [.var 75] [.var 8], .str [.lit [34], .var 7, .lit [34]] [.lit [34], .var 6, .lit [34]], .int (.var 0) (.lit 0), .row 10 1 (some ((.v 10), 1)) []]))
noncomputable def nqo2 : OT := (.fork (.cmp .gtr (.slen 80) (.lit 0)) (.fork (.cmp .eql (.sbyte 80 (.sub (.slen 80) (.lit 1))) (.lit 10)) (.to 2 ⟨65, 70, []⟩ [.int (.var 62) (.var 62), .str [.var 8] [.var 8], .int (.slen 80) (.sub (.slen 80) (.lit 1)), .int (.var 0) (.var 0), .str [.var 6] [.var 6], .row 10 1 (some ((.v 10), 1)) [], .peek 10 (.var 0) [.str [.var 80, .var 82]]]) (.to 1 ⟨65, 70, []⟩ [.int (.var 62) (.var 62), .str [.var 8] [.var 8, .var 80, .lit [46]], .int (.var 0) (.add (.var 0) (.lit 1)), .str [.var 6] [.var 6], .row 10 1 (some ((.v 10), 1)) [], .peek 10 (.var 0) [.str [.var 9]]])) (.to 1 ⟨65, 70, []⟩ [.int (.var 62) (.var 62), .str [.var 8] [.var 8, .var 80, .lit [46]], .int (.var 0) (.add (.var 0) (.lit 1)), .str [.var 6] [.var 6], .row 10 1 (some ((.v 10), 1)) [], .peek 10 (.var 0) [.str [.var 9]]]))
noncomputable def nqo3 : OT := (.fork (.cmp .lss (.var 0) (.var 62)) (.to 4 ⟨65, 70, []⟩ [.int (.var 62) (.var 62), .str [.var 75] [.var 75], .str [.lit [34], .var 7, .lit [34]] [.lit [34], .var 7, .lit [34]], .int (.var 0) (.add (.var 0) (.lit 1)), .row 10 1 (some ((.v 10), 1)) []]) (.fin ⟨65, 70, []⟩ []))
noncomputable def nqo4 : OT := (.fork (.cmp .lss (.var 0) (.var 62)) (.to 4 ⟨65, 70, []⟩ [.int (.var 62) (.var 62), .str [.var 75] [.var 75], .str [.lit [34], .var 7, .lit [34]] [.lit [34], .var 7, .lit [34]], .int (.var 0) (.add (.var 0) (.lit 1)), .row 10 1 (some ((.v 10), 1)) []]) (.fin ⟨65, 70, []⟩ []))
noncomputable def nqG : Graph := { tg := pick nqtg, stop := (fun m => stopAny [(5, (0, 3)), (5, (0, 8)), (5, (0, 3))] m || (fun m => stopBk 5 3 10 72 m) m), n := (fun _ => 1500), pl := fun k => ([nqo0, nqo1, nqo2, nqo3, nqo4].getD k .no).plan, o := fun k => [nqo0, nqo1, nqo2, nqo3, nqo4].getD k .no, v := .bool (.lit true), h := (hpOf [] 70), f := 5, N := 65 }
theorem nqat0 : nqG.At nqC 0 := ⟨by kernel_rfl, by kernel_rfl, by kernel_rfl⟩
theorem nqat1 : nqG.At nqC 1 := ⟨by kernel_rfl, by kernel_rfl, by kernel_rfl⟩
theorem nqat2 : nqG.At nqC 2 := ⟨by kernel_rfl, by kernel_rfl, by kernel_rfl⟩
theorem nqat3 : nqG.At nqC 3 := ⟨by kernel_rfl, by kernel_rfl, by kernel_rfl⟩
theorem nqat4 : nqG.At nqC 4 := ⟨by kernel_rfl, by kernel_rfl, by kernel_rfl⟩
theorem nqf0 : (nqG.tg 0).facts = [(.cmp .geq (.rlen 10) (.lit 1), true)] := by kernel_rfl
theorem nqf1 : (nqG.tg 1).facts = [(.cmp .geq (.var 62) (.lit 1), true), (.cmp .leq (.var 62) (.lit 20), true), (.cmp .leq (.var 62) (.rlen 10), true), (.cmp .geq (.slen 74) (.lit 1), true), (.cmp .leq (.slen 74) (.lit 2), true), (.cmp .leq (.slen 6) (.lit 200), true), (.cmp .leq (.slen 8) (.lit 3100), true), (.cmp .geq (.var 0) (.lit 0), true), (.cmp .leq (.var 0) (.var 62), true)] := by kernel_rfl
theorem nqf2 : (nqG.tg 2).facts = [(.cmp .geq (.var 62) (.lit 1), true), (.cmp .leq (.var 62) (.lit 20), true), (.cmp .leq (.var 62) (.rlen 10), true), (.cmp .geq (.slen 74) (.lit 1), true), (.cmp .leq (.slen 74) (.lit 2), true), (.cmp .leq (.slen 6) (.lit 200), true), (.cmp .leq (.slen 8) (.lit 3100), true), (.cmp .geq (.var 0) (.lit 0), true), (.cmp .leq (.var 0) (.var 62), true), (.cmp .lss (.var 0) (.var 62), true), (.cmp .leq (.slen 80) (.lit 150), true)] := by kernel_rfl
theorem nqf3 : (nqG.tg 3).facts = [(.cmp .geq (.var 62) (.lit 1), true), (.cmp .leq (.var 62) (.lit 20), true), (.cmp .leq (.var 62) (.rlen 10), true), (.cmp .geq (.slen 74) (.lit 1), true), (.cmp .leq (.slen 74) (.lit 2), true), (.cmp .leq (.slen 7) (.lit 200), true), (.cmp .geq (.slen 7) (.lit 8), true), (.cmp .leq (.slen 75) (.lit 3100), true), (.cmp .geq (.var 0) (.lit 0), true), (.cmp .leq (.var 0) (.var 62), true)] := by kernel_rfl
theorem nqf4 : (nqG.tg 4).facts = [(.cmp .geq (.var 62) (.lit 1), true), (.cmp .leq (.var 62) (.lit 20), true), (.cmp .leq (.var 62) (.rlen 10), true), (.cmp .geq (.slen 74) (.lit 1), true), (.cmp .leq (.slen 74) (.lit 2), true), (.cmp .leq (.slen 7) (.lit 200), true), (.cmp .geq (.slen 7) (.lit 8), true), (.cmp .leq (.slen 75) (.lit 3100), true), (.cmp .geq (.var 0) (.lit 0), true), (.cmp .leq (.var 0) (.var 62), true)] := by kernel_rfl
theorem nqst : startF nqC [(.cmp .geq (.rlen 10) (.lit 1), true)] 5 [.slice 64 0 (.rlen 10) (.rest 1), .bool (.lit true)] (hpOf [(64, .rowv true 10 1 (.lit 0) [.str [.var 40]] 9)] 70) = some (nqG.tg 0) := by kernel_rfl
end Go.Sx
namespace Go.Sx
open Go.Proofs
set_option maxRecDepth 1000000

noncomputable def nxC : Ctx := ctxOf Tryz.prog lies18 exts18 [] [p_sh, p_d0]
noncomputable def nxtg : List AM := [st nxC 5 [.slice 64 0 (.rlen 10) (.rest 1), .bool (.var 3)] (hpOf [(64, .rowv true 10 1 (.lit 0) [.str [.var 40]] 9)] 70) [(.cmp .geq (.rlen 10) (.lit 1), true)],
    nd nxC 5 0 [(0, .slice 64 0 (.var 62) (.rest 1)), (1, .bool (.var 3)), (5, .bool (.lit true)), (6, .str [.var 6]), (7, .str [.var 8]), (8, .int .i64 (.var 0))]
      [(64, .rowv true 10 1 (.var 0) [.str [.var 9]] 9)] 70
      [(.cmp .geq (.var 62) (.lit 1), true), (.cmp .leq (.var 62) (.lit 20), true), (.cmp .leq (.var 62) (.rlen 10), true), (.cmp .geq (.slen 74) (.lit 1), true), (.cmp .leq (.slen 74) (.lit 2), true), (.cmp .leq (.slen 6) (.lit 200), true), (.cmp .leq (.slen 8) (.lit 3100), true), (.cmp .geq (.var 0) (.lit 0), true), (.cmp .leq (.var 0) (.var 62), true)],
    nd nxC 5 1 [(0, .slice 64 0 (.var 62) (.rest 1)), (1, .bool (.var 3)), (5, .bool (.lit true)), (6, .str [.var 6]), (7, .str [.var 8]), (8, .int .i64 (.var 0)), (9, .int .i64 (.slen 80))]
      [(64, .rowv true 10 1 (.var 0) [.str [.var 80, .var 82]] 9)] 70
      [(.cmp .geq (.var 62) (.lit 1), true), (.cmp .leq (.var 62) (.lit 20), true), (.cmp .leq (.var 62) (.rlen 10), true), (.cmp .geq (.slen 74) (.lit 1), true), (.cmp .leq (.slen 74) (.lit 2), true), (.cmp .leq (.slen 6) (.lit 200), true), (.cmp .leq (.slen 8) (.lit 3100), true), (.cmp .geq (.var 0) (.lit 0), true), (.cmp .leq (.var 0) (.var 62), true), (.cmp .lss (.var 0) (.var 62), true), (.cmp .leq (.slen 80) (.lit 150), true)]]
noncomputable def nxo0 : OT := (.fork (.cmp .gtr (.rlen 10) (.lit 20)) (.fork (.cmp .gtr (.slen 40) (.lit 150)) (.fin ⟨65, 70, []⟩ []) (.fork (.cmp .gtr (.slen 40) (.lit 0)) (.fork (.cmp .eql (.sbyte 40 (.sub (.slen 40) (.lit 1))) (.lit 10)) (.to 2 ⟨65, 70, []⟩ [.int (.var 62) (.lit 20), .boo (.var 3) (.var 3), .str [.var 8] [], .int (.slen 80) (.sub (.slen 40) (.lit 1)), .int (.var 0) (.lit 0), .str [.var 6] [.lit [36, 40, 100, 111, 32, 48, 41, 46]], .row 10 1 (some ((.v 10), 1)) [], .peek 10 (.var 0) [.str [.var 80, .var 82]]]) (.to 1 ⟨65, 70, []⟩ [.int (.var 62) (.lit 20), .boo (.var 3) (.var 3), .str [.var 8] [.var 40, .lit [46]], .int (.var 0) (.lit 1), .str [.var 6] [.lit [36, 40, 100, 111, 32, 48, 41, 46]], .row 10 1 (some ((.v 10), 1)) [], .peek 10 (.var 0) [.str [.var 9]]])) (.to 1 ⟨65, 70, []⟩ [.int (.var 62) (.lit 20), .boo (.var 3) (.var 3), .str [.var 8] [.var 40, .lit [46]], .int (.var 0) (.lit 1), .str [.var 6] [.lit [36, 40, 100, 111, 32, 48, 41, 46]], .row 10 1 (some ((.v 10), 1)) [], .peek 10 (.var 0) [.str [.var 9]]]))) (.fork (.cmp .gtr (.slen 40) (.lit 150)) (.fin ⟨65, 70, []⟩ []) (.fork (.cmp .gtr (.slen 40) (.lit 0)) (.fork (.cmp .eql (.sbyte 40 (.sub (.slen 40) (.lit 1))) (.lit 10)) (.to 2 ⟨65, 70, []⟩ [.int (.var 62) (.rlen 10), .boo (.var 3) (.var 3), .str [.var 8] [], .int (.slen 80) (.sub (.slen 40) (.lit 1)), .int (.var 0) (.lit 0), .str [.var 6] [.lit [36, 40, 100, 111, 32, 48, 41, 46]], .row 10 1 (some ((.v 10), 1)) [], .peek 10 (.var 0) [.str [.var 80, .var 82]]]) (.to 1 ⟨65, 70, []⟩ [.int (.var 62) (.rlen 10), .boo (.var 3) (.var 3), .str [.var 8] [.var 40, .lit [46]], .int (.var 0) (.lit 1), .str [.var 6] [.lit [36, 40, 100, 111, 32, 48, 41, 46]], .row 10 1 (some ((.v 10), 1)) [], .peek 10 (.var 0) [.str [.var 9]]])) (.to 1 ⟨65, 70, []⟩ [.int (.var 62) (.rlen 10), .boo (.var 3) (.var 3), .str [.var 8] [.var 40, .lit [46]], .int (.var 0) (.lit 1), .str [.var 6] [.lit [36, 40, 100, 111, 32, 48, 41, 46]], .row 10 1 (some ((.v 10), 1)) [], .peek 10 (.var 0) [.str [.var 9]]]))))
noncomputable def nxo1 : OT := (.fork (.cmp .lss (.var 0) (.var 62)) (.fork (.cmp .gtr (.slen 9) (.lit 150)) (.fin ⟨65, 70, []⟩ []) (.fork (.cmp .gtr (.slen 9) (.lit 0)) (.fork (.cmp .eql (.sbyte 9 (.sub (.slen 9) (.lit 1))) (.lit 10)) (.to 2 ⟨65, 70, []⟩ [.int (.var 62) (.var 62), .boo (.var 3) (.var 3), .str [.var 8] [.var 8], .int (.slen 80) (.sub (.slen 9) (.lit 1)), .int (.var 0) (.var 0), .str [.var 6] [.var 6, .lit [36, 40, 100, 111, 32], .var 74, .lit [41, 46]], .row 10 1 (some ((.v 10), 1)) [], .peek 10 (.var 0) [.str [.var 80, .var 82]]]) (.to 1 ⟨65, 70, []⟩ [.int (.var 62) (.var 62), .boo (.var 3) (.var 3), .str [.var 8] [.var 8, .var 9, .lit [46]], .int (.var 0) (.add (.var 0) (.lit 1)), .str [.var 6] [.var 6, .lit [36, 40, 100, 111, 32], .var 74, .lit [41, 46]], .row 10 1 (some ((.v 10), 1)) [], .peek 10 (.var 0) [.str [.var 9]]])) (.to 1 ⟨65, 70, []⟩ [.int (.var 62) (.var 62), .boo (.var 3) (.var 3), .str [.var 8] [.var 8, .var 9, .lit [46]], .int (.var 0) (.add (.var 0) (.lit 1)), .str [.var 6] [.var 6, .lit [36, 40, 100, 111, 32], .var 74, .lit [41, 46]], .row 10 1 (some ((.v 10), 1)) [], .peek 10 (.var 0) [.str [.var 9]]]))) (.fork (.var 3) .no .no))
noncomputable def nxo2 : OT := (.fork (.cmp .gtr (.slen 80) (.lit 0)) (.fork (.cmp .eql (.sbyte 80 (.sub (.slen 80) (.lit 1))) (.lit 10)) (.to 2 ⟨65, 70, []⟩ [.int (.var 62) (.var 62), .boo (.var 3) (.var 3), .str [.var 8] [.var 8], .int (.slen 80) (.sub (.slen 80) (.lit 1)), .int (.var 0) (.var 0), .str [.var 6] [.var 6], .row 10 1 (some ((.v 10), 1)) [], .peek 10 (.var 0) [.str [.var 80, .var 82]]]) (.to 1 ⟨65, 70, []⟩ [.int (.var 62) (.var 62), .boo (.var 3) (.var 3), .str [.var 8] [.var 8, .var 80, .lit [46]], .int (.var 0) (.add (.var 0) (.lit 1)), .str [.var 6] [.var 6], .row 10 1 (some ((.v 10), 1)) [], .peek 10 (.var 0) [.str [.var 9]]])) (.to 1 ⟨65, 70, []⟩ [.int (.var 62) (.var 62), .boo (.var 3) (.var 3), .str [.var 8] [.var 8, .var 80, .lit [46]], .int (.var 0) (.add (.var 0) (.lit 1)), .str [.var 6] [.var 6], .row 10 1 (some ((.v 10), 1)) [], .peek 10 (.var 0) [.str [.var 9]]]))
noncomputable def nxG : Graph := { tg := pick nxtg, stop := (fun m => stopAny [(5, (0, 3)), (5, (0, 8))] m || (fun m => stopBk 5 3 10 72 m) m), n := (fun _ => 1500), pl := fun k => ([nxo0, nxo1, nxo2].getD k .no).plan, o := fun k => [nxo0, nxo1, nxo2].getD k .no, v := .bool (.lit true), h := (hpOf [] 70), f := 5, N := 65 }
theorem nxat0 : nxG.At nxC 0 := ⟨by kernel_rfl, by kernel_rfl, by kernel_rfl⟩
theorem nxat1 : nxG.At nxC 1 := ⟨by kernel_rfl, by kernel_rfl, by kernel_rfl⟩
theorem nxat2 : nxG.At nxC 2 := ⟨by kernel_rfl, by kernel_rfl, by kernel_rfl⟩
theorem nxf0 : (nxG.tg 0).facts = [(.cmp .geq (.rlen 10) (.lit 1), true)] := by kernel_rfl
theorem nxf1 : (nxG.tg 1).facts = [(.cmp .geq (.var 62) (.lit 1), true), (.cmp .leq (.var 62) (.lit 20), true), (.cmp .leq (.var 62) (.rlen 10), true), (.cmp .geq (.slen 74) (.lit 1), true), (.cmp .leq (.slen 74) (.lit 2), true), (.cmp .leq (.slen 6) (.lit 200), true), (.cmp .leq (.slen 8) (.lit 3100), true), (.cmp .geq (.var 0) (.lit 0), true), (.cmp .leq (.var 0) (.var 62), true)] := by kernel_rfl
theorem nxf2 : (nxG.tg 2).facts = [(.cmp .geq (.var 62) (.lit 1), true), (.cmp .leq (.var 62) (.lit 20), true), (.cmp .leq (.var 62) (.rlen 10), true), (.cmp .geq (.slen 74) (.lit 1), true), (.cmp .leq (.slen 74) (.lit 2), true), (.cmp .leq (.slen 6) (.lit 200), true), (.cmp .leq (.slen 8) (.lit 3100), true), (.cmp .geq (.var 0) (.lit 0), true), (.cmp .leq (.var 0) (.var 62), true), (.cmp .lss (.var 0) (.var 62), true), (.cmp .leq (.slen 80) (.lit 150), true)] := by kernel_rfl
theorem nxst : startF nxC [(.cmp .geq (.rlen 10) (.lit 1), true)] 5 [.slice 64 0 (.rlen 10) (.rest 1), .bool (.var 3)] (hpOf [(64, .rowv true 10 1 (.lit 0) [.str [.var 40]] 9)] 70) = some (nxG.tg 0) := by kernel_rfl
end Go.Sx
namespace Go.Sx
open Go.Proofs
set_option maxRecDepth 1000000

noncomputable def nznC : Ctx := ctxOf Tryz.prog lies18 exts18 [] [p_sh]
noncomputable def nzntg : List AM := [st nznC 5 [.nilSlice, .bool (.var 3)] (hpOf [] 70) []]
noncomputable def nzno0 : OT := (.fork (.var 3) (.fin ⟨65, 70, []⟩ []) (.fin ⟨65, 70, []⟩ []))
noncomputable def nznG : Graph := { tg := pick nzntg, stop := (stopAny []), n := (fun _ => 6000), pl := fun k => ([nzno0].getD k .no).plan, o := fun k => [nzno0].getD k .no, v := .bool (.lit true), h := (hpOf [] 70), f := 5, N := 65 }
theorem nznat0 : nznG.At nznC 0 := ⟨by kernel_rfl, by kernel_rfl, by kernel_rfl⟩
theorem nznf0 : (nznG.tg 0).facts = [] := by kernel_rfl
theorem nznst : startF nznC [] 5 [.nilSlice, .bool (.var 3)] (hpOf [] 70) = some (nznG.tg 0) := by kernel_rfl
end Go.Sx
namespace Go.Sx
open Go.Proofs
set_option maxRecDepth 1000000

noncomputable def nzeC : Ctx := ctxOf Tryz.prog lies18 exts18 [] [p_sh]
noncomputable def nzetg : List AM := [st nzeC 5 [.eslice 64 1, .bool (.var 3)] (hpOf [] 70) []]
noncomputable def nzeo0 : OT := (.fork (.var 3) (.fin ⟨65, 70, []⟩ []) (.fin ⟨65, 70, []⟩ []))
noncomputable def nzeG : Graph := { tg := pick nzetg, stop := (stopAny []), n := (fun _ => 6000), pl := fun k => ([nzeo0].getD k .no).plan, o := fun k => [nzeo0].getD k .no, v := .bool (.lit true), h := (hpOf [] 70), f := 5, N := 65 }
theorem nzeat0 : nzeG.At nzeC 0 := ⟨by kernel_rfl, by kernel_rfl, by kernel_rfl⟩
theorem nzef0 : (nzeG.tg 0).facts = [] := by kernel_rfl
theorem nzest : startF nzeC [] 5 [.eslice 64 1, .bool (.var 3)] (hpOf [] 70) = some (nzeG.tg 0) := by kernel_rfl
end Go.Sx
namespace Go.Sx
open Go.Proofs
set_option maxRecDepth 100000
def neE (A : List (List UInt8)) (N : Nat) (K P : Int) (v : Bool) (i : Nat) (w a b : List UInt8) : Env :=
  { int := fun j => if j = 0 then (i : Int) else if j = 62 then (N : Int) else if j = 77 then (ng (rn K P A N) 0).1 else 0,
    str := fun j => if j = 6 then w else if j = 7 then wsuf 0 N else if j = 8 then wantL A i else if j = 9 then A.getD i [] else if j = 40 then A.getD 0 [] else if j = 74 then Lib.decDigits i else if j = 75 then wantL A N else if j = 76 then (ng (rn K P A N) 0).2 else if j = 80 then a else if j = 82 then b else [],
    boo := fun _ => v,
    rows := fun j => if j = 10 then rows1 A else if j = 22 then (rn K P A N).map nrow else [] }
def neI (A : List (List UInt8)) (N : Nat) (K P : Int) (v good : Bool) : Nat → Env → Prop
  | 0, ρ => ρ = neE A N K P v 0 [] [] []
  | 1, ρ => ∃ i, 1 ≤ i ∧ i ≤ N ∧ (∀ k, k < i → (A.getD k []).length ≤ 150) ∧ ρ = neE A N K P v i (wsuf 0 i) [] []
  | 2, ρ => ∃ i a b, i < N ∧ (∀ k, k < i + 1 → (A.getD k []).length ≤ 150) ∧ A.getD i [] = a ++ b ∧ trimR (A.getD i []) = trimR a ∧ ρ = neE A N K P v i (wsuf 0 (i + 1)) a b
  | 3, ρ => good = true ∧ ρ = neE A N K P v 0 [] [] []
  | 4, ρ => good = true ∧ ∃ i, i ≤ N ∧ ρ = neE A N K P v i [] [] []
  | _, _ => False
def neμ (N : Nat) : Nat → Env → Nat
  | 0, _ => 10000
  | 1, ρ => 1000 + 200 * (N - (ρ.int 0).toNat)
  | 2, ρ => 1000 + 200 * (N - (ρ.int 0).toNat - 1) + (ρ.str 80).length + 1
  | 3, _ => 500
  | 4, ρ => 400 - (ρ.int 0).toNat
  | _, _ => 0
theorem neL {A : List (List UInt8)} {N : Nat} {K P : Int} {v : Bool} {i : Nat} {w a b : List UInt8} (n1 : 1 ≤ N) (n2 : N ≤ 20) (nA : N ≤ A.length) (ii : i ≤ N) (each : ∀ k, k < N → (A.getD k []).length ≤ 150) : NL A N i K P (neE A N K P v i w a b) :=
  ⟨n1, n2, nA, ii, each, rfl, rfl, rfl, rfl, rfl, rfl, rfl, rfl, rfl, rfl, rfl, rfl⟩
theorem fin_nl {ρ : Env} : ∃ ρ', Eqns ρ' ρ [] ∧ True := ⟨ρ, eqns_nl, trivial⟩
theorem last_of (c : List UInt8) (d : UInt8) : ((c ++ [d])[(((c ++ [d]).length : Nat) - 1 : Int).toNat]?).getD 0 = d := by
  have e : ((((c ++ [d]).length : Nat) : Int) - 1).toNat = c.length := by simp
  rw [e]; simp
theorem last10 {ρ : Env} {k : Nat} {c : List UInt8} {d : UInt8} (h : ρ.str k = c ++ [d]) : SB.den ρ (.cmp .eql (.sbyte k (.sub (.slen k) (.lit 1))) (.lit 10)) = decide (d = 10) := by
  simp only [SB.den, SI.den, h, intCmp, last_of, Option.getD_some]
  rw [Bool.eq_iff_iff, decide_eq_true_eq, eqInt_iff, decide_eq_true_eq]
  exact b10
theorem want1 (A : List (List UInt8)) (i : Nat) : wantL A (i + 1) = wantL A i ++ (trimR (A.getD i []) ++ [46]) := rfl
theorem wsuf1 (i : Nat) : wsuf 0 (i + 1) = wsuf 0 i ++ ([36, 40, 100, 111, 32] ++ (Lib.decDigits i ++ [41, 46])) := by
  rw [wsuf_snoc]; simp [pt, pt']
theorem hd00 : Lib.decDigits 0 = [48] := by decide +kernel
theorem each1 {A : List (List UInt8)} {i : Nat} (h : ∀ k, k < i → (A.getD k []).length ≤ 150) (hi : (A.getD i []).length ≤ 150) : ∀ k, k < i + 1 → (A.getD k []).length ≤ 150 := by
  intro k hk
  rcases Nat.lt_or_ge k i with h1 | h1
  · exact h k h1
  · have : k = i := by omega
    subst this; exact hi
theorem npk4 {A : List (List UInt8)} {i : Nat} {a b : List UInt8} (h : A.getD i [] = a ++ b) : ∀ (xs : List Value), (rows1 A)[i]? = some xs → xs = [Value.string ⟨⟨a ++ b⟩⟩] := by
  intro xs hx; rw [← h]; exact npk3 xs hx
theorem dd_lt' {j : Nat} (h : j ≤ 20) : 1 ≤ (Lib.decDigits j).length ∧ (Lib.decDigits j).length ≤ 2 := by
  rw [Lib.decDigits_length]
  exact ⟨Lib.nDigits_pos j, nDig_le 2 j (by omega) (by omega)⟩
end Go.Sx
