import Derived.Test.YtanpkoghglnphaaGreatDoorSxH
import Derived.Test.YtanpkoghglnphaaGreatDoorCtx
import Derived.Test.YtanpkoghglnphaaGreatDoorEnv
import Derived.Lib.ItoaNum
import Derived.Test.YtanpkoghglnphaaGreatDoorSuA
namespace Go.Sx
open Go.Proofs
set_option maxRecDepth 1000000

noncomputable def diC : Ctx := ctxOf Tryz.prog lies18 exts18 [] []
noncomputable def ditg : List AM := [st diC 17 [.int .i64 (.var 5)] (hpOf [] 64) [(.cmp .geq (.var 5) (.lit (-9223372036854775808)), true), (.cmp .leq (.var 5) (.lit 9223372036854775807), true)],
    nd diC 17 0 [(0, .int .i64 (.var 5)), (3, .int .u64 (.var 2)), (4, .str [.var 7])]
      [] 64
      [(.cmp .lss (.var 5) (.lit 0), true), (.cmp .geq (.var 2) (.lit 0), true), (.cmp .leq (.var 2) (.lit 18446744073709551615), true), (.cmp .geq (.slen 7) (.lit 1), true), (.cmp .leq (.slen 7) (.lit 30), true)],
    nd diC 17 0 [(0, .int .i64 (.var 5)), (3, .int .u64 (.var 2)), (4, .str [.var 7])]
      [] 64
      [(.cmp .lss (.var 5) (.lit 0), false), (.cmp .geq (.var 2) (.lit 0), true), (.cmp .leq (.var 2) (.lit 18446744073709551615), true), (.cmp .geq (.slen 7) (.lit 1), true), (.cmp .leq (.slen 7) (.lit 30), true)]]
noncomputable def dio0 : OT := (.fork (.cmp .lss (.var 5) (.lit 0)) (.fork (.cmp .gtr (.wrap .u64 (.sub (.lit 0) (.wrap .u64 (.var 5)))) (.lit 9)) (.alt (.to 1 ⟨64, 64, []⟩ [.int (.var 5) (.var 5), .int (.var 2) (.bin .quo .u64 (.wrap .u64 (.sub (.lit 0) (.wrap .u64 (.var 5)))) (.lit 10)), .str [.var 7] [.chr (.wrap .u8 (.wrap .u64 (.add (.lit 48) (.bin .rem .u64 (.wrap .u64 (.sub (.lit 0) (.wrap .u64 (.var 5)))) (.lit 10)))))]]) (.to 2 ⟨64, 64, []⟩ [.int (.var 5) (.var 5), .int (.var 2) (.bin .quo .u64 (.wrap .u64 (.sub (.lit 0) (.wrap .u64 (.var 5)))) (.lit 10)), .str [.var 7] [.chr (.wrap .u8 (.wrap .u64 (.add (.lit 48) (.bin .rem .u64 (.wrap .u64 (.sub (.lit 0) (.wrap .u64 (.var 5)))) (.lit 10)))))]])) (.fin ⟨64, 64, []⟩ [.str [.var 9] [.lit [45], .chr (.add (.lit 48) (.wrap .u64 (.sub (.lit 0) (.wrap .u64 (.var 5)))))]])) (.fork (.cmp .gtr (.wrap .u64 (.var 5)) (.lit 9)) (.alt (.to 1 ⟨64, 64, []⟩ [.int (.var 5) (.var 5), .int (.var 2) (.bin .quo .u64 (.wrap .u64 (.var 5)) (.lit 10)), .str [.var 7] [.chr (.wrap .u8 (.wrap .u64 (.add (.lit 48) (.bin .rem .u64 (.wrap .u64 (.var 5)) (.lit 10)))))]]) (.to 2 ⟨64, 64, []⟩ [.int (.var 5) (.var 5), .int (.var 2) (.bin .quo .u64 (.wrap .u64 (.var 5)) (.lit 10)), .str [.var 7] [.chr (.wrap .u8 (.wrap .u64 (.add (.lit 48) (.bin .rem .u64 (.wrap .u64 (.var 5)) (.lit 10)))))]])) (.fin ⟨64, 64, []⟩ [.str [.var 9] [.chr (.add (.lit 48) (.wrap .u64 (.var 5)))]])))
noncomputable def dio1 : OT := (.fork (.cmp .gtr (.var 2) (.lit 9)) (.alt (.to 1 ⟨64, 64, []⟩ [.int (.var 5) (.var 5), .int (.var 2) (.bin .quo .u64 (.var 2) (.lit 10)), .str [.var 7] [.chr (.wrap .u8 (.wrap .u64 (.add (.lit 48) (.bin .rem .u64 (.var 2) (.lit 10))))), .var 7]]) (.to 2 ⟨64, 64, []⟩ [.int (.var 5) (.var 5), .int (.var 2) (.bin .quo .u64 (.var 2) (.lit 10)), .str [.var 7] [.chr (.wrap .u8 (.wrap .u64 (.add (.lit 48) (.bin .rem .u64 (.var 2) (.lit 10))))), .var 7]])) (.fin ⟨64, 64, []⟩ [.str [.var 9] [.lit [45], .chr (.add (.lit 48) (.var 2)), .var 7]]))
noncomputable def dio2 : OT := (.fork (.cmp .gtr (.var 2) (.lit 9)) (.alt (.to 1 ⟨64, 64, []⟩ [.int (.var 5) (.var 5), .int (.var 2) (.bin .quo .u64 (.var 2) (.lit 10)), .str [.var 7] [.chr (.wrap .u8 (.wrap .u64 (.add (.lit 48) (.bin .rem .u64 (.var 2) (.lit 10))))), .var 7]]) (.to 2 ⟨64, 64, []⟩ [.int (.var 5) (.var 5), .int (.var 2) (.bin .quo .u64 (.var 2) (.lit 10)), .str [.var 7] [.chr (.wrap .u8 (.wrap .u64 (.add (.lit 48) (.bin .rem .u64 (.var 2) (.lit 10))))), .var 7]])) (.fin ⟨64, 64, []⟩ [.str [.var 9] [.chr (.add (.lit 48) (.var 2)), .var 7]]))
noncomputable def diG : Graph := { tg := pick ditg, stop := (stopAny [(17, (0, 3))]), n := (fun _ => 600), pl := fun k => ([dio0, dio1, dio2].getD k .no).plan, o := fun k => [dio0, dio1, dio2].getD k .no, v := .str [.var 9], h := (hpOf [] 64), f := 17, N := 64 }
theorem diat0 : diG.At diC 0 := ⟨by kernel_rfl, by kernel_rfl, by kernel_rfl⟩
theorem diat1 : diG.At diC 1 := ⟨by kernel_rfl, by kernel_rfl, by kernel_rfl⟩
theorem diat2 : diG.At diC 2 := ⟨by kernel_rfl, by kernel_rfl, by kernel_rfl⟩
theorem dif0 : (diG.tg 0).facts = [(.cmp .geq (.var 5) (.lit (-9223372036854775808)), true), (.cmp .leq (.var 5) (.lit 9223372036854775807), true)] := by kernel_rfl
theorem dif1 : (diG.tg 1).facts = [(.cmp .lss (.var 5) (.lit 0), true), (.cmp .geq (.var 2) (.lit 0), true), (.cmp .leq (.var 2) (.lit 18446744073709551615), true), (.cmp .geq (.slen 7) (.lit 1), true), (.cmp .leq (.slen 7) (.lit 30), true)] := by kernel_rfl
theorem dif2 : (diG.tg 2).facts = [(.cmp .lss (.var 5) (.lit 0), false), (.cmp .geq (.var 2) (.lit 0), true), (.cmp .leq (.var 2) (.lit 18446744073709551615), true), (.cmp .geq (.slen 7) (.lit 1), true), (.cmp .leq (.slen 7) (.lit 30), true)] := by kernel_rfl
theorem dist : startF diC [(.cmp .geq (.var 5) (.lit (-9223372036854775808)), true), (.cmp .leq (.var 5) (.lit 9223372036854775807), true)] 17 [.int .i64 (.var 5)] (hpOf [] 64) = some (diG.tg 0) := by kernel_rfl
end Go.Sx
namespace Go.Sx
open Go.Proofs
set_option maxRecDepth 100000
theorem w64neg {n : Int} (h : n < 0) (h0 : -9223372036854775808 ≤ n) : IntKind.wrap .u64 (0 - IntKind.wrap .u64 n) = n.natAbs := by
  simp [IntKind.wrap, IntKind.signed, IntKind.bits]; omega
theorem w64pos {n : Int} (h : 0 ≤ n) (h0 : n ≤ 9223372036854775807) : IntKind.wrap .u64 n = n.natAbs := by
  simp [IntKind.wrap, IntKind.signed, IntKind.bits]; omega
theorem quo10 {u : Nat} (h : u < 18446744073709551616) : (intBin .quo .u64 (u : Int) 10).getD 0 = ((u / 10 : Nat) : Int) := by
  have e : ((u : Int)).tdiv 10 = ((u / 10 : Nat) : Int) := by
    rw [Int.tdiv_eq_ediv_of_nonneg (by omega)]; rfl
  have : intBin .quo .u64 (u : Int) 10 = some (IntKind.wrap .u64 ((u : Int).tdiv 10)) := rfl
  rw [this, e, Option.getD_some]
  simp [IntKind.wrap, IntKind.signed, IntKind.bits]; omega
theorem rem10 {u : Nat} : (intBin .rem .u64 (u : Int) 10).getD 0 = ((u % 10 : Nat) : Int) := by
  have : intBin .rem .u64 (u : Int) 10 = some ((u : Int).tmod 10) := rfl
  rw [this, Option.getD_some, Int.tmod_eq_emod_of_nonneg (by omega)]; rfl
theorem chr10 (d : Nat) (h : d < 10) : (IntKind.wrap .u8 (IntKind.wrap .u64 (48 + (d : Int)))).toNat = 48 + d := by
  simp [IntKind.wrap, IntKind.signed, IntKind.bits]; omega
theorem dd_big {u : Nat} (h : ¬ u < 10) : Lib.decDigits u = Lib.decDigits (u / 10) ++ [UInt8.ofNat (48 + u % 10)] := by
  rw [Lib.decDigits, dif_neg h]
theorem nDig_le : ∀ (k u : Nat), 1 ≤ k → u < 10 ^ k → Lib.nDigits u ≤ k
  | 0, u, h, _ => by omega
  | k + 1, u, _, h => by
    by_cases hu : u < 10
    · rw [Lib.nDigits_small hu]; omega
    · rw [Lib.nDigits_big hu]
      cases k with
      | zero => simp at h; omega
      | succ k =>
        have := nDig_le (k + 1) (u / 10) (by omega) (by rw [Nat.pow_succ] at h; omega)
        omega
theorem dd_len {u : Nat} (h : u < 18446744073709551616) : 1 ≤ (Lib.decDigits u).length ∧ (Lib.decDigits u).length ≤ 20 := by
  rw [Lib.decDigits_length]
  exact ⟨Lib.nDigits_pos u, nDig_le 20 u (by omega) (by omega)⟩
def diE (n : Int) (u : Nat) (s : List UInt8) (ρ : Env) : Env := ((ρ.setI 5 n).setI 2 u).setS 7 s
def diI (n : Int) : Nat → Env → Prop
  | 0, ρ => ρ.int 5 = n
  | 1, ρ => ∃ (u : Nat) (s : List UInt8), n < 0 ∧ ρ.int 5 = n ∧ ρ.int 2 = u ∧ ρ.str 7 = s ∧ Lib.decDigits n.natAbs = Lib.decDigits u ++ s ∧ s ≠ [] ∧ u < 18446744073709551616
  | 2, ρ => ∃ (u : Nat) (s : List UInt8), 0 ≤ n ∧ ρ.int 5 = n ∧ ρ.int 2 = u ∧ ρ.str 7 = s ∧ Lib.decDigits n.natAbs = Lib.decDigits u ++ s ∧ s ≠ [] ∧ u < 18446744073709551616
  | _, _ => False
def diμ (n : Int) : Nat → Env → Nat
  | 0, _ => n.natAbs + 10
  | _, ρ => (ρ.int 2).toNat
theorem digits_calls (n : Int) (h0 : -9223372036854775808 ≤ n) (h1 : n ≤ 9223372036854775807) (W : World) :
    Calls Tryz.prog 17 #[.int .i64 n] W fun e W' => e = .returned (.string ⟨⟨Lib.itoa n⟩⟩) ∧ Kept W W' := by
  have hU : n.natAbs < 18446744073709551616 := by omega
  have := Graph.calls (G := diG) (C := diC) (P := Tryz.prog) (I := diI n) (μ := diμ n) (J := fun ρ => ρ.str 9 = Lib.itoa n) (fun _ _ _ => ctx18 orcs_nil pors_nil) ?_ ?_ ?_ (ρ := Env.setI (env [] []) 5 n) rfl (F := [(.cmp .geq (.var 5) (.lit (-9223372036854775808)), true), (.cmp .leq (.var 5) (.lit 9223372036854775807), true)]) (args := [.int .i64 (.var 5)]) (h := hpOf [] 64) dist
    (φ := pl0) (w := W) (xs := [.int .i64 n]) (wr0 _ W) glob0 (VRs.cons (by simp only [VR, SI.den]; rfl) VRs.nil)
  · exact this.mono fun e W' h => kept_of h (fun ρ' ψ z hJ hz => by
      have hz : VR ρ' ψ (.str [.var 9]) z := hz
      simp only [VR, SS.den, SP.den, List.append_nil] at hz; rw [hz, hJ]) rfl
  · intro k ρ hi
    match k, hi with
    | 0, hi =>
      have hi : ρ.int 5 = n := hi
      rw [dif0]; intro p hp
      simp only [List.mem_cons, List.not_mem_nil, or_false] at hp
      rcases hp with rfl | rfl <;> simp [SB.den, SI.den, intCmp, ltInt_iff, hi] <;> omega
    | 1, hi =>
      obtain ⟨u, s, a0, a1, a2, a3, a4, a5, a6⟩ := hi
      have l1 := dd_len hU
      rw [a4, List.length_append] at l1
      have l2 := List.length_pos_iff.2 a5
      rw [dif1]; intro p hp
      simp only [List.mem_cons, List.not_mem_nil, or_false] at hp
      rcases hp with rfl | rfl | rfl | rfl | rfl <;> simp [SB.den, SI.den, intCmp, ltInt_iff, a1, a2, a3] <;> omega
    | 2, hi =>
      obtain ⟨u, s, a0, a1, a2, a3, a4, a5, a6⟩ := hi
      have l1 := dd_len hU
      rw [a4, List.length_append] at l1
      have l2 := List.length_pos_iff.2 a5
      rw [dif2]; intro p hp
      simp only [List.mem_cons, List.not_mem_nil, or_false] at hp
      rcases hp with rfl | rfl | rfl | rfl | rfl <;> simp [SB.den, SI.den, intCmp, ltInt_iff, a1, a2, a3] <;> omega
  · intro k ρ hi
    match k, hi with
    | 0, _ => exact diat0
    | 1, _ => exact diat1
    | 2, _ => exact diat2
  · intro k ρ hi
    match k, hi with
    | 0, hi =>
      have hi : ρ.int 5 = n := hi
      show OTok (diI n) (diμ n) _ 0 ρ dio0
      have hchr := chr10 (n.natAbs % 10) (by omega)
      simp only [dio0, OTok]
      refine ⟨fun h => ?_, fun h => ?_⟩
      · have hn : n < 0 := by simpa [SB.den, SI.den, intCmp, ltInt_iff, hi] using h
        have hw := w64neg hn h0
        refine ⟨fun g => ?_, fun g => ?_⟩
        · have hg : ¬ n.natAbs < 10 := by
            simp [SB.den, SI.den, intCmp, ltInt_iff, hi] at g; rw [← Int.zero_sub, hw] at g; omega
          refine .inl ⟨diE n (n.natAbs / 10) [UInt8.ofNat (48 + n.natAbs % 10)] ρ, ?_, ⟨n.natAbs / 10, [UInt8.ofNat (48 + n.natAbs % 10)], hn, rfl, rfl, rfl, dd_big hg, by simp, by omega⟩, ?_⟩
          · simp only [Eqns, Eqn.ok, diE, List.mem_cons, List.not_mem_nil, or_false, forall_eq_or_imp, forall_eq, SI.den, SS.den, SP.den, setI_int, setS_int, setS_str, hi, hw, quo10 hU, rem10, hchr, List.append_nil, and_true, true_and, if_true]
            simp
          · simp only [diμ, diE, setS_int, setI_int, if_true]; omega
        · have hg : n.natAbs < 10 := by
            simp [SB.den, SI.den, intCmp, ltInt_iff, hi] at g; rw [← Int.zero_sub, hw] at g; omega
          refine ⟨ρ.setS 9 (Lib.itoa n), ?_, rfl⟩
          have e : Lib.itoa n = [45, UInt8.ofNat (48 + n.natAbs)] := by rw [Lib.itoa, if_pos hn, Lib.decDigits_one hg]
          have hc : (48 + (n.natAbs : Int)).toNat = 48 + n.natAbs := by omega
          simp only [Eqns, Eqn.ok, List.mem_cons, List.not_mem_nil, or_false, forall_eq, SI.den, SS.den, SP.den, setS_str, setS_int, hi, hw, hc, e, if_true]
          rfl
      · have hn : 0 ≤ n := by
          simp [SB.den, SI.den, intCmp, ltInt_iff, hi] at h; exact h
        have hw := w64pos hn h1
        refine ⟨fun g => ?_, fun g => ?_⟩
        · have hg : ¬ n.natAbs < 10 := by
            simp [SB.den, SI.den, intCmp, ltInt_iff, hi, hw] at g; omega
          refine .inr ⟨diE n (n.natAbs / 10) [UInt8.ofNat (48 + n.natAbs % 10)] ρ, ?_, ⟨n.natAbs / 10, [UInt8.ofNat (48 + n.natAbs % 10)], hn, rfl, rfl, rfl, dd_big hg, by simp, by omega⟩, ?_⟩
          · simp only [Eqns, Eqn.ok, diE, List.mem_cons, List.not_mem_nil, or_false, forall_eq_or_imp, forall_eq, SI.den, SS.den, SP.den, setI_int, setS_int, setS_str, hi, hw, quo10 hU, rem10, hchr, List.append_nil, and_true, true_and, if_true]
            simp
          · simp only [diμ, diE, setS_int, setI_int, if_true]; omega
        · have hg : n.natAbs < 10 := by
            simp [SB.den, SI.den, intCmp, ltInt_iff, hi, hw] at g; omega
          refine ⟨ρ.setS 9 (Lib.itoa n), ?_, rfl⟩
          have e : Lib.itoa n = [UInt8.ofNat (48 + n.natAbs)] := by
            rw [Lib.itoa, if_neg (by omega), show n.toNat = n.natAbs by omega, Lib.decDigits_one hg]
          have hc : (48 + (n.natAbs : Int)).toNat = 48 + n.natAbs := by omega
          simp only [Eqns, Eqn.ok, List.mem_cons, List.not_mem_nil, or_false, forall_eq, SI.den, SS.den, SP.den, setS_str, setS_int, hi, hw, hc, e, if_true]
    | 1, hi =>
      obtain ⟨u, s, a0, a1, a2, a3, a4, a5, a6⟩ := hi
      have hchr := chr10 (u % 10) (by omega)
      show OTok (diI n) (diμ n) _ 1 ρ dio1
      simp only [dio1, OTok]
      refine ⟨fun g => ?_, fun g => ?_⟩
      · have hg : ¬ u < 10 := by
          simp [SB.den, SI.den, intCmp, ltInt_iff, a2] at g; omega
        refine .inl ⟨diE n (u / 10) (UInt8.ofNat (48 + u % 10) :: s) ρ, ?_, ⟨u / 10, UInt8.ofNat (48 + u % 10) :: s, a0, rfl, rfl, rfl, by rw [a4, dd_big hg]; simp, by simp, by omega⟩, ?_⟩
        · simp only [Eqns, Eqn.ok, diE, List.mem_cons, List.not_mem_nil, or_false, forall_eq_or_imp, forall_eq, SI.den, SS.den, SP.den, setI_int, setS_int, setS_str, a1, a2, a3, quo10 a6, rem10, hchr, List.append_nil, and_true, true_and, if_true]
          simp
        · simp only [diμ, diE, setS_int, setI_int, if_true, a2]; omega
      · have hg : u < 10 := by
          simp [SB.den, SI.den, intCmp, ltInt_iff, a2] at g; omega
        refine ⟨ρ.setS 9 (Lib.itoa n), ?_, rfl⟩
        have e : Lib.itoa n = 45 :: UInt8.ofNat (48 + u) :: s := by rw [Lib.itoa, if_pos a0, a4, Lib.decDigits_one hg]; rfl
        have hc : (48 + (u : Int)).toNat = 48 + u := by omega
        simp only [Eqns, Eqn.ok, List.mem_cons, List.not_mem_nil, or_false, forall_eq, SI.den, SS.den, SP.den, setS_str, setS_int, a2, a3, hc, e, if_true]
        simp
    | 2, hi =>
      obtain ⟨u, s, a0, a1, a2, a3, a4, a5, a6⟩ := hi
      have hchr := chr10 (u % 10) (by omega)
      show OTok (diI n) (diμ n) _ 2 ρ dio2
      simp only [dio2, OTok]
      refine ⟨fun g => ?_, fun g => ?_⟩
      · have hg : ¬ u < 10 := by
          simp [SB.den, SI.den, intCmp, ltInt_iff, a2] at g; omega
        refine .inr ⟨diE n (u / 10) (UInt8.ofNat (48 + u % 10) :: s) ρ, ?_, ⟨u / 10, UInt8.ofNat (48 + u % 10) :: s, a0, rfl, rfl, rfl, by rw [a4, dd_big hg]; simp, by simp, by omega⟩, ?_⟩
        · simp only [Eqns, Eqn.ok, diE, List.mem_cons, List.not_mem_nil, or_false, forall_eq_or_imp, forall_eq, SI.den, SS.den, SP.den, setI_int, setS_int, setS_str, a1, a2, a3, quo10 a6, rem10, hchr, List.append_nil, and_true, true_and, if_true]
          simp
        · simp only [diμ, diE, setS_int, setI_int, if_true, a2]; omega
      · have hg : u < 10 := by
          simp [SB.den, SI.den, intCmp, ltInt_iff, a2] at g; omega
        refine ⟨ρ.setS 9 (Lib.itoa n), ?_, rfl⟩
        have e : Lib.itoa n = UInt8.ofNat (48 + u) :: s := by
          rw [Lib.itoa, if_neg (by omega), show n.toNat = n.natAbs by omega, a4, Lib.decDigits_one hg]; rfl
        have hc : (48 + (u : Int)).toNat = 48 + u := by omega
        simp only [Eqns, Eqn.ok, List.mem_cons, List.not_mem_nil, or_false, forall_eq, SI.den, SS.den, SP.den, setS_str, setS_int, a2, a3, hc, e, if_true]
        simp
end Go.Sx
namespace Go.Sx
open Go.Proofs
set_option maxRecDepth 1000000

noncomputable def coC : Ctx := withHp (ctxOf Tryz.prog lies18 exts18 [] []) 77
noncomputable def cotg : List AM := [st coC 178 [.str [.var 30]] (hpOf [] 64) [(.cmp .geq (.slen 30) (.lit 1), true), (.cmp .leq (.slen 30) (.lit 20), true), (.cmp .geq (.sbyte 30 (.lit 0)) (.lit 49), true), (.cmp .leq (.sbyte 30 (.lit 0)) (.lit 57), true)],
    nd coC 178 0 [(4, .int .u64 (.lit 10)), (5, .str [.var 40, .chr (.sbyte 54 (.lit 0)), .var 42]), (6, .int .u64 (.var 33)), (24, .int .i64 (.add (.slen 40) (.add (.lit 1) (.slen 42)))), (25, .int .i64 (.slen 40))]
      [] 64
      [(.cmp .geq (.var 33) (.lit 0), true), (.cmp .leq (.var 33) (.lit 18446744073709551615), true), (.cmp .geq (.slen 40) (.lit 1), true), (.cmp .leq (.slen 40) (.lit 20), true), (.cmp .leq (.slen 42) (.lit 20), true), (.cmp .geq (.sbyte 54 (.lit 0)) (.lit 48), true), (.cmp .leq (.sbyte 54 (.lit 0)) (.lit 57), true)],
    nd coC 178 0 [(4, .int .u64 (.lit 10)), (5, .str [.var 30]), (6, .int .u64 (.var 33)), (24, .int .i64 (.slen 30)), (25, .int .i64 (.slen 30))]
      [] 64
      [(.cmp .geq (.var 33) (.lit 0), true), (.cmp .leq (.var 33) (.lit 18446744073709551615), true), (.cmp .geq (.slen 30) (.lit 1), true), (.cmp .leq (.slen 30) (.lit 20), true)]]
noncomputable def coo0 : OT := (.alt (.to 1 ⟨64, 64, []⟩ [.str [.var 40, .chr (.sbyte 54 (.lit 0)), .var 42] [.var 30], .int (.slen 40) (.lit 1), .int (.add (.slen 40) (.add (.lit 1) (.slen 42))) (.slen 30), .int (.var 33) (.sub (.sbyte 30 (.lit 0)) (.lit 48))]) (.to 2 ⟨64, 64, []⟩ [.str [.var 30] [.var 30], .int (.slen 30) (.lit 1), .int (.slen 30) (.slen 30), .int (.var 33) (.sub (.sbyte 30 (.lit 0)) (.lit 48))]))
noncomputable def coo1 : OT := (.alt (.to 1 ⟨64, 64, []⟩ [.str [.var 40, .chr (.sbyte 54 (.lit 0)), .var 42] [.var 40, .chr (.sbyte 54 (.lit 0)), .var 42], .int (.slen 40) (.add (.slen 40) (.lit 1)), .int (.add (.slen 40) (.add (.lit 1) (.slen 42))) (.add (.slen 40) (.add (.lit 1) (.slen 42))), .int (.var 33) (.wrap .u64 (.add (.bin .mul .u64 (.var 33) (.lit 10)) (.sub (.sbyte 54 (.lit 0)) (.lit 48))))]) (.to 2 ⟨64, 64, []⟩ [.str [.var 30] [.var 40, .chr (.sbyte 54 (.lit 0)), .var 42], .int (.slen 30) (.add (.slen 40) (.lit 1)), .int (.slen 30) (.add (.slen 40) (.add (.lit 1) (.slen 42))), .int (.var 33) (.wrap .u64 (.add (.bin .mul .u64 (.var 33) (.lit 10)) (.sub (.sbyte 54 (.lit 0)) (.lit 48))))]))
noncomputable def coo2 : OT := (.fin ⟨64, 64, []⟩ [.int (.var 34) (.wrap .i64 (.var 33))])
noncomputable def coG : Graph := { tg := pick cotg, stop := (stopAny [(178, (0, 3))]), n := (fun _ => 3000), pl := fun k => ([coo0, coo1, coo2].getD k .no).plan, o := fun k => [coo0, coo1, coo2].getD k .no, v := .tup [.int .i64 (.var 34), .bool (.lit true)], h := (hpOf [] 64), f := 178, N := 64 }
theorem coat0 : coG.At coC 0 := ⟨by kernel_rfl, by kernel_rfl, by kernel_rfl⟩
theorem coat1 : coG.At coC 1 := ⟨by kernel_rfl, by kernel_rfl, by kernel_rfl⟩
theorem coat2 : coG.At coC 2 := ⟨by kernel_rfl, by kernel_rfl, by kernel_rfl⟩
theorem cof0 : (coG.tg 0).facts = [(.cmp .geq (.slen 30) (.lit 1), true), (.cmp .leq (.slen 30) (.lit 20), true), (.cmp .geq (.sbyte 30 (.lit 0)) (.lit 49), true), (.cmp .leq (.sbyte 30 (.lit 0)) (.lit 57), true)] := by kernel_rfl
theorem cof1 : (coG.tg 1).facts = [(.cmp .geq (.var 33) (.lit 0), true), (.cmp .leq (.var 33) (.lit 18446744073709551615), true), (.cmp .geq (.slen 40) (.lit 1), true), (.cmp .leq (.slen 40) (.lit 20), true), (.cmp .leq (.slen 42) (.lit 20), true), (.cmp .geq (.sbyte 54 (.lit 0)) (.lit 48), true), (.cmp .leq (.sbyte 54 (.lit 0)) (.lit 57), true)] := by kernel_rfl
theorem cof2 : (coG.tg 2).facts = [(.cmp .geq (.var 33) (.lit 0), true), (.cmp .leq (.var 33) (.lit 18446744073709551615), true), (.cmp .geq (.slen 30) (.lit 1), true), (.cmp .leq (.slen 30) (.lit 20), true)] := by kernel_rfl
theorem cost : startF coC [(.cmp .geq (.slen 30) (.lit 1), true), (.cmp .leq (.slen 30) (.lit 20), true), (.cmp .geq (.sbyte 30 (.lit 0)) (.lit 49), true), (.cmp .leq (.sbyte 30 (.lit 0)) (.lit 57), true)] 178 [.str [.var 30]] (hpOf [] 64) = some (coG.tg 0) := by kernel_rfl
end Go.Sx
namespace Go.Sx
open Go.Proofs
set_option maxRecDepth 100000
/-! what a row of digits is -/
def dval (l : List UInt8) : Nat := l.foldl (fun a c => a * 10 + (c.toNat - 48)) 0
theorem dval_snoc (l : List UInt8) (c : UInt8) : dval (l ++ [c]) = dval l * 10 + (c.toNat - 48) := by simp [dval]
theorem dval_pre (p : List UInt8) : ∀ t : List UInt8, dval p ≤ dval (p ++ t) := by
  intro t
  induction t generalizing p with
  | nil => simp
  | cons c t ih =>
    have := ih (p ++ [c])
    rw [dval_snoc, List.append_assoc] at this
    simp only [List.cons_append, List.nil_append] at this
    omega
def isDig (c : UInt8) : Prop := 48 ≤ c.toNat ∧ c.toNat ≤ 57
theorem dig_of {d : Nat} (h : d < 10) : (UInt8.ofNat (48 + d)).toNat = 48 + d := by simp; omega
theorem dd_all : ∀ u : Nat, (∀ c ∈ Lib.decDigits u, isDig c) ∧ dval (Lib.decDigits u) = u ∧ (0 < u → ∃ c t, Lib.decDigits u = c :: t ∧ 49 ≤ c.toNat) := by
  intro u
  induction u using Nat.strongRecOn with
  | ind u ih =>
    by_cases h : u < 10
    · rw [Lib.decDigits_one h]
      refine ⟨fun c hc => ?_, ?_, fun h0 => ⟨_, [], rfl, ?_⟩⟩
      · simp only [List.mem_cons, List.not_mem_nil, or_false] at hc
        subst hc; rw [isDig, dig_of h]; omega
      · simp only [dval, List.foldl, dig_of h]; omega
      · rw [dig_of h]; omega
    · obtain ⟨h1, h2, h3⟩ := ih (u / 10) (by omega)
      rw [dd_big h]
      have h4 : u % 10 < 10 := by omega
      refine ⟨fun c hc => ?_, ?_, fun _ => ?_⟩
      · rcases List.mem_append.1 hc with hc | hc
        · exact h1 c hc
        · simp only [List.mem_cons, List.not_mem_nil, or_false] at hc
          subst hc; rw [isDig, dig_of h4]; omega
      · rw [dval_snoc, h2, dig_of h4]; omega
      · obtain ⟨c, t, e, hc⟩ := h3 (by omega)
        exact ⟨c, t ++ [UInt8.ofNat (48 + u % 10)], by rw [e]; rfl, hc⟩
theorem mul10 {u : Nat} (h : u * 10 < 18446744073709551616) : (intBin .mul .u64 (u : Int) 10).getD 0 = ((u * 10 : Nat) : Int) := by
  have : intBin .mul .u64 (u : Int) 10 = some (IntKind.wrap .u64 ((u : Int) * 10)) := rfl
  rw [this, Option.getD_some]
  simp [IntKind.wrap, IntKind.signed, IntKind.bits]; omega
/-! arith.constant of digits -/
def coE (p : List UInt8) (c : UInt8) (t : List UInt8) (ρ : Env) : Env := (((ρ.setS 40 p).setS 54 [c]).setS 42 t).setI 33 (dval p)
def coL (s : List UInt8) (ρ : Env) : Env := (ρ.setS 30 s).setI 33 (dval s)
def coI (n : Nat) : Nat → Env → Prop
  | 0, ρ => ρ.str 30 = Lib.decDigits n
  | 1, ρ => ∃ p c t, Lib.decDigits n = p ++ c :: t ∧ p ≠ [] ∧ ρ.str 40 = p ∧ ρ.str 54 = [c] ∧ ρ.str 42 = t ∧ ρ.int 33 = dval p
  | 2, ρ => ρ.str 30 = Lib.decDigits n ∧ ρ.int 33 = n
  | _, _ => False
def coμ : Nat → Env → Nat
  | 0, _ => 100
  | 1, ρ => (ρ.str 42).length + 2
  | _, _ => 0
theorem const_pos (n : Nat) (h0 : 0 < n) (h1 : n ≤ 9223372036854775808) (W : World) :
    Calls Tryz.prog 178 #[.string ⟨⟨Lib.decDigits n⟩⟩] W fun e W' => e = .returned (.tuple #[.int .i64 (IntKind.wrap .i64 n), .bool true]) ∧ Kept W W' := by
  have hl := dd_len (u := n) (by omega)
  obtain ⟨ha, hv, hf⟩ := dd_all n
  obtain ⟨c0, t0, e0, hc0⟩ := hf h0
  have := Graph.calls (G := coG) (C := coC) (P := Tryz.prog) (I := coI n) (μ := coμ) (J := fun ρ => ρ.int 34 = IntKind.wrap .i64 n) (fun _ _ _ => withHp_ok (ctx18 orcs_nil pors_nil) hp77) ?_ ?_ ?_ (ρ := Env.setS (env [] []) 30 (Lib.decDigits n)) rfl (F := [(.cmp .geq (.slen 30) (.lit 1), true), (.cmp .leq (.slen 30) (.lit 20), true), (.cmp .geq (.sbyte 30 (.lit 0)) (.lit 49), true), (.cmp .leq (.sbyte 30 (.lit 0)) (.lit 57), true)]) (args := [.str [.var 30]]) (h := hpOf [] 64) cost
    (φ := pl0) (w := W) (xs := [.string ⟨⟨Lib.decDigits n⟩⟩]) (wr0 _ W) glob0 (VRs.cons (by simp only [VR, SS.den, SP.den, List.append_nil]; rfl) VRs.nil)
  · exact this.mono fun e W' h => kept_of h (fun ρ' ψ z hJ hz => by
      have hz : VR ρ' ψ (.tup [.int .i64 (.var 34), .bool (.lit true)]) z := hz
      simp only [VR] at hz
      obtain ⟨x, rfl, hx⟩ := hz
      obtain ⟨y, x, rfl, hy, hx⟩ := VRs.cons_left hx
      obtain ⟨y2, x, rfl, hy2, hx⟩ := VRs.cons_left hx
      have := VRs.nil_left hx; subst this
      simp only [VR, SI.den, SB.den] at hy hy2
      subst hy hy2
      rw [hJ]) rfl
  · intro k ρ hi
    match k, hi with
    | 0, hi =>
      have hi : ρ.str 30 = Lib.decDigits n := hi
      have hc := ha c0 (by rw [e0]; simp)
      rw [cof0]; intro p hp
      rw [e0] at hi hl
      simp only [List.length_cons] at hl
      obtain ⟨hc1, hc2⟩ := hc
      simp only [List.mem_cons, List.not_mem_nil, or_false] at hp
      rcases hp with rfl | rfl | rfl | rfl <;> simp [SB.den, SI.den, intCmp, ltInt_iff, hi] <;> omega
    | 1, hi =>
      obtain ⟨p, c, t, e, hp0, e1, e2, e3, e4⟩ := hi
      have hc := ha c (by rw [e]; simp)
      obtain ⟨hc1, hc2⟩ := hc
      have hpre := dval_pre p (c :: t)
      rw [← e, hv] at hpre
      have hp1 := List.length_pos_iff.2 hp0
      rw [e, List.length_append, List.length_cons] at hl
      rw [cof1]; intro q hq
      simp only [List.mem_cons, List.not_mem_nil, or_false] at hq
      rcases hq with rfl | rfl | rfl | rfl | rfl | rfl | rfl <;> simp [SB.den, SI.den, intCmp, ltInt_iff, e1, e2, e3, e4] <;> omega
    | 2, hi =>
      obtain ⟨e1, e2⟩ := hi
      rw [cof2]; intro q hq
      simp only [List.mem_cons, List.not_mem_nil, or_false] at hq
      rcases hq with rfl | rfl | rfl | rfl <;> simp [SB.den, SI.den, intCmp, ltInt_iff, e1, e2] <;> omega
  · intro k ρ hi
    match k, hi with
    | 0, _ => exact coat0
    | 1, _ => exact coat1
    | 2, _ => exact coat2
  · intro k ρ hi
    match k, hi with
    | 0, hi =>
      have hi : ρ.str 30 = Lib.decDigits n := hi
      show OTok (coI n) coμ _ 0 ρ coo0
      simp only [coo0, OTok]
      have hc := ha c0 (by rw [e0]; simp)
      obtain ⟨hc1, hc2⟩ := hc
      have hd : ((c0.toNat : Int) - 48) = (dval [c0] : Nat) := by simp [dval]; omega
      cases t0 with
      | cons c t =>
        refine .inl ⟨coE [c0] c t ρ, ?_, ⟨[c0], c, t, by rw [e0]; rfl, by simp, rfl, rfl, rfl, rfl⟩, by simp only [coμ, coE, setI_str, setS_str]; rw [e0] at hl; simp only [List.length_cons] at hl; simp; omega⟩
        rw [e0] at hi
        simp [Eqns, Eqn.ok, coE, SI.den, SS.den, SP.den, setI_int, setI_str, setS_int, setS_str, hi, hd]
        omega
      | nil =>
        refine .inr ⟨coL [c0] ρ, ?_, ⟨by rw [e0]; rfl, ?_⟩, by simp [coμ]⟩
        · rw [e0] at hi
          simp [Eqns, Eqn.ok, coL, SI.den, SS.den, SP.den, setI_int, setI_str, setS_int, setS_str, hi, hd]
        · show ((dval [c0] : Nat) : Int) = n
          rw [← hv, e0]
    | 1, hi =>
      obtain ⟨p, c, t, e, hp0, e1, e2, e3, e4⟩ := hi
      obtain ⟨hc1, hc2⟩ := ha c (by rw [e]; simp)
      show OTok (coI n) coμ _ 1 ρ coo1
      simp only [coo1, OTok]
      have hs : dval (p ++ [c]) ≤ n := by
        have := dval_pre (p ++ [c]) t
        rw [List.append_assoc] at this
        simp only [List.cons_append, List.nil_append] at this
        rwa [← e, hv] at this
      have hs' := hs
      rw [dval_snoc] at hs'
      have hm := mul10 (u := dval p) (by omega)
      have hw : IntKind.wrap .u64 ((dval p : Int) * 10 + ((c.toNat : Int) - 48)) = (dval (p ++ [c]) : Nat) := by
        rw [dval_snoc]; simp [IntKind.wrap, IntKind.signed, IntKind.bits]; omega
      cases t with
      | cons c' t =>
        refine .inl ⟨coE (p ++ [c]) c' t ρ, ?_, ⟨p ++ [c], c', t, by rw [e]; simp, by simp, rfl, rfl, rfl, rfl⟩, by simp only [coμ, coE, setI_str, setS_str, e3]; simp⟩
        simp [Eqns, Eqn.ok, coE, SI.den, SS.den, SP.den, setI_int, setI_str, setS_int, setS_str, e1, e2, e3, e4, hm]
        exact ⟨by omega, hw.symm⟩
      | nil =>
        refine .inr ⟨coL (p ++ [c]) ρ, ?_, ⟨by rw [e]; rfl, ?_⟩, by simp [coμ]⟩
        · simp [Eqns, Eqn.ok, coL, SI.den, SS.den, SP.den, setI_int, setI_str, setS_int, setS_str, e1, e2, e3, e4, hm]
          exact hw.symm
        · show ((dval (p ++ [c]) : Nat) : Int) = n
          rw [← hv, e]
    | 2, hi =>
      obtain ⟨e1, e2⟩ := hi
      show OTok (coI n) coμ _ 2 ρ coo2
      simp only [coo2, OTok]
      refine ⟨ρ.setI 34 (IntKind.wrap .i64 n), ?_, rfl⟩
      simp [Eqns, Eqn.ok, SI.den, setI_int, e2]
noncomputable def c0O : Orc := { facts := [], f := 178, args := [.str [.lit [48]]], pre := [], next := 64, v := .tup [.int .i64 (.lit 0), .bool (.lit true)], post := [], next' := 64 }
theorem c0_ok : orcCheck coC c0O 3000 = true := by kernel_rfl
theorem const_calls (n : Nat) (h1 : n ≤ 9223372036854775808) (W : World) :
    Calls Tryz.prog 178 #[.string ⟨⟨Lib.decDigits n⟩⟩] W fun e W' => e = .returned (.tuple #[.int .i64 (IntKind.wrap .i64 n), .bool true]) ∧ Kept W W' := by
  rcases Nat.eq_zero_or_pos n with rfl | h0
  · refine (keptV (orc_of_check (ρ := env [] []) (withHp_ok (ctx18 orcs_nil pors_nil) hp77) c0_ok rfl) rfl rfl (fun p hp => by cases hp) (xs := [.string ⟨⟨Lib.decDigits 0⟩⟩]) (VRs.cons (by rw [Lib.decDigits_one (by omega)]; simp [VR, SS.den, SP.den]) VRs.nil) W).mono ?_
    rintro e w' ⟨⟨ψ, z, he, hz⟩, hk⟩
    refine ⟨?_, hk⟩
    have hz : VR _ ψ (.tup [.int .i64 (.lit 0), .bool (.lit true)]) z := hz
    simp only [VR] at hz
    obtain ⟨x, rfl, hx⟩ := hz
    obtain ⟨y, x, rfl, hy, hx⟩ := VRs.cons_left hx
    obtain ⟨y2, x, rfl, hy2, hx⟩ := VRs.cons_left hx
    have := VRs.nil_left hx; subst this
    simp only [VR, SI.den, SB.den] at hy hy2
    subst hy hy2
    rw [he]; rfl
  · exact const_pos n h0 h1 W
theorem por_c {ρ : Env} {n i j : Nat} (h1 : n ≤ 9223372036854775808) (hs : ρ.str i = Lib.decDigits n) (hv : ρ.int j = IntKind.wrap .i64 n) : POrcOK Tryz.prog ρ { facts := [], f := 178, args := [.str [.var i]], pre := [], v := .tup [.int .i64 (.var j), .bool (.lit true)] } := by
  intro φ w xs k _ _ _ hxs
  obtain ⟨x, xs, rfl, hx, hxs⟩ := VRs.cons_left hxs
  have := VRs.nil_left hxs; subst this
  simp only [VR, SS.den, SP.den, List.append_nil] at hx
  subst hx
  rw [hs]
  refine (const_calls n h1 w).mono fun e w' ⟨he, hk⟩ => ⟨_, he, ?_, hk⟩
  simp only [VR]
  exact ⟨_, rfl, VRs.cons (by simp only [VR, SI.den, hv]) (VRs.cons (by simp only [VR, SB.den]) VRs.nil)⟩
end Go.Sx
