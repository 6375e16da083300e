import Derived.Test.YtanpkoghglnphaaGreatDoorSxH
import Derived.Test.YtanpkoghglnphaaGreatDoorCtx
import Derived.Test.YtanpkoghglnphaaGreatDoorEnv
import Derived.Lib.ItoaNum
import Derived.Test.YtanpkoghglnphaaGreatDoorArgA
import Derived.Test.YtanpkoghglnphaaGreatDoorShelf
import Derived.Lib.AtoiErrMem
namespace Go.Sx
open Go.Proofs
set_option maxRecDepth 1000000

noncomputable def diC : Ctx := ctxOf Tryz.prog lies18 exts18 [] []
noncomputable def ditg : List AM := [st diC 17 [.int .i64 (.var 5)] (hpOf [] 64) [(.cmp .geq (.var 5) (.lit (-9223372036854775808)), true), (.cmp .leq (.var 5) (.lit 9223372036854775807), true)],
    nd diC 17 0 [(0, .int .i64 (.var 5)), (3, .int .u64 (.var 2)), (4, .str [.var 7])]
      [] 64
      [(.cmp .lss (.var 5) (.lit 0), true), (.cmp .geq (.var 2) (.lit 0), true), (.cmp .leq (.var 2) (.lit 18446744073709551615), true), (.cmp .geq (.slen 7) (.lit 1), true), (.cmp .leq (.slen 7) (.lit 30), true)],
    nd diC 17 0 [(0, .int .i64 (.var 5)), (3, .int .u64 (.var 2)), (4, .str [.var 7])]
      [] 64
      [(.cmp .lss (.var 5) (.lit 0), false), (.cmp .geq (.var 2) (.lit 0), true), (.cmp .leq (.var 2) (.lit 18446744073709551615), true), (.cmp .geq (.slen 7) (.lit 1), true), (.cmp .leq (.slen 7) (.lit 30), true)]]
noncomputable def dio0 : OT := (.fork (.cmp .lss (.var 5) (.lit 0)) (.fork (.cmp .gtr (.wrap .u64 (.sub (.lit 0) (.wrap .u64 (.var 5)))) (.lit 9)) (.alt (.to 1 ⟨64, 64, []⟩ [.int (.var 5) (.var 5), .int (.var 2) (.bin .quo .u64 (.wrap .u64 (.sub (.lit 0) (.wrap .u64 (.var 5)))) (.lit 10)), .str [.var 7] [.chr (.wrap .u8 (.wrap .u64 (.add (.lit 48) (.bin .rem .u64 (.wrap .u64 (.sub (.lit 0) (.wrap .u64 (.var 5)))) (.lit 10)))))]]) (.to 2 ⟨64, 64, []⟩ [.int (.var 5) (.var 5), .int (.var 2) (.bin .quo .u64 (.wrap .u64 (.sub (.lit 0) (.wrap .u64 (.var 5)))) (.lit 10)), .str [.var 7] [.chr (.wrap .u8 (.wrap .u64 (.add (.lit 48) (.bin .rem .u64 (.wrap .u64 (.sub (.lit 0) (.wrap .u64 (.var 5)))) (.lit 10)))))]])) (.fin ⟨64, 64, []⟩ [.str [.var 9] [.lit [45], .chr (.add (.lit 48) (.wrap .u64 (.sub (.lit 0) (.wrap .u64 (.var 5)))))]])) (.fork (.cmp .gtr (.wrap .u64 (.var 5)) (.lit 9)) (.alt (.to 1 ⟨64, 64, []⟩ [.int (.var 5) (.var 5), .int (.var 2) (.bin .quo .u64 (.wrap .u64 (.var 5)) (.lit 10)), .str [.var 7] [.chr (.wrap .u8 (.wrap .u64 (.add (.lit 48) (.bin .rem .u64 (.wrap .u64 (.var 5)) (.lit 10)))))]]) (.to 2 ⟨64, 64, []⟩ [.int (.var 5) (.var 5), .int (.var 2) (.bin .quo .u64 (.wrap .u64 (.var 5)) (.lit 10)), .str [.var 7] [.chr (.wrap .u8 (.wrap .u64 (.add (.lit 48) (.bin .rem .u64 (.wrap .u64 (.var 5)) (.lit 10)))))]])) (.fin ⟨64, 64, []⟩ [.str [.var 9] [.chr (.add (.lit 48) (.wrap .u64 (.var 5)))]])))
noncomputable def dio1 : OT := (.fork (.cmp .gtr (.var 2) (.lit 9)) (.alt (.to 1 ⟨64, 64, []⟩ [.int (.var 5) (.var 5), .int (.var 2) (.bin .quo .u64 (.var 2) (.lit 10)), .str [.var 7] [.chr (.wrap .u8 (.wrap .u64 (.add (.lit 48) (.bin .rem .u64 (.var 2) (.lit 10))))), .var 7]]) (.to 2 ⟨64, 64, []⟩ [.int (.var 5) (.var 5), .int (.var 2) (.bin .quo .u64 (.var 2) (.lit 10)), .str [.var 7] [.chr (.wrap .u8 (.wrap .u64 (.add (.lit 48) (.bin .rem .u64 (.var 2) (.lit 10))))), .var 7]])) (.fin ⟨64, 64, []⟩ [.str [.var 9] [.lit [45], .chr (.add (.lit 48) (.var 2)), .var 7]]))
noncomputable def dio2 : OT := (.fork (.cmp .gtr (.var 2) (.lit 9)) (.alt (.to 1 ⟨64, 64, []⟩ [.int (.var 5) (.var 5), .int (.var 2) (.bin .quo .u64 (.var 2) (.lit 10)), .str [.var 7] [.chr (.wrap .u8 (.wrap .u64 (.add (.lit 48) (.bin .rem .u64 (.var 2) (.lit 10))))), .var 7]]) (.to 2 ⟨64, 64, []⟩ [.int (.var 5) (.var 5), .int (.var 2) (.bin .quo .u64 (.var 2) (.lit 10)), .str [.var 7] [.chr (.wrap .u8 (.wrap .u64 (.add (.lit 48) (.bin .rem .u64 (.var 2) (.lit 10))))), .var 7]])) (.fin ⟨64, 64, []⟩ [.str [.var 9] [.chr (.add (.lit 48) (.var 2)), .var 7]]))
noncomputable def diG : Graph := { tg := pick ditg, stop := (stopAny [(17, (0, 3))]), n := (fun _ => 600), pl := fun k => ([dio0, dio1, dio2].getD k .no).plan, o := fun k => [dio0, dio1, dio2].getD k .no, v := .str [.var 9], h := (hpOf [] 64), f := 17, N := 64 }
theorem diat0 : diG.At diC 0 := ⟨by kernel_rfl, by kernel_rfl, by kernel_rfl⟩
theorem diat1 : diG.At diC 1 := ⟨by kernel_rfl, by kernel_rfl, by kernel_rfl⟩
theorem diat2 : diG.At diC 2 := ⟨by kernel_rfl, by kernel_rfl, by kernel_rfl⟩
theorem dif0 : (diG.tg 0).facts = [(.cmp .geq (.var 5) (.lit (-9223372036854775808)), true), (.cmp .leq (.var 5) (.lit 9223372036854775807), true)] := by kernel_rfl
theorem dif1 : (diG.tg 1).facts = [(.cmp .lss (.var 5) (.lit 0), true), (.cmp .geq (.var 2) (.lit 0), true), (.cmp .leq (.var 2) (.lit 18446744073709551615), true), (.cmp .geq (.slen 7) (.lit 1), true), (.cmp .leq (.slen 7) (.lit 30), true)] := by kernel_rfl
theorem dif2 : (diG.tg 2).facts = [(.cmp .lss (.var 5) (.lit 0), false), (.cmp .geq (.var 2) (.lit 0), true), (.cmp .leq (.var 2) (.lit 18446744073709551615), true), (.cmp .geq (.slen 7) (.lit 1), true), (.cmp .leq (.slen 7) (.lit 30), true)] := by kernel_rfl
theorem dist : startF diC [(.cmp .geq (.var 5) (.lit (-9223372036854775808)), true), (.cmp .leq (.var 5) (.lit 9223372036854775807), true)] 17 [.int .i64 (.var 5)] (hpOf [] 64) = some (diG.tg 0) := by kernel_rfl
end Go.Sx
namespace Go.Sx
open Go.Proofs
set_option maxRecDepth 100000
theorem w64neg {n : Int} (h : n < 0) (h0 : -9223372036854775808 ≤ n) : IntKind.wrap .u64 (0 - IntKind.wrap .u64 n) = n.natAbs := by
  simp [IntKind.wrap, IntKind.signed, IntKind.bits]; omega
theorem w64pos {n : Int} (h : 0 ≤ n) (h0 : n ≤ 9223372036854775807) : IntKind.wrap .u64 n = n.natAbs := by
  simp [IntKind.wrap, IntKind.signed, IntKind.bits]; omega
theorem quo10 {u : Nat} (h : u < 18446744073709551616) : (intBin .quo .u64 (u : Int) 10).getD 0 = ((u / 10 : Nat) : Int) := by
  have e : ((u : Int)).tdiv 10 = ((u / 10 : Nat) : Int) := by
    rw [Int.tdiv_eq_ediv_of_nonneg (by omega)]; rfl
  have : intBin .quo .u64 (u : Int) 10 = some (IntKind.wrap .u64 ((u : Int).tdiv 10)) := rfl
  rw [this, e, Option.getD_some]
  simp [IntKind.wrap, IntKind.signed, IntKind.bits]; omega
theorem rem10 {u : Nat} : (intBin .rem .u64 (u : Int) 10).getD 0 = ((u % 10 : Nat) : Int) := by
  have : intBin .rem .u64 (u : Int) 10 = some ((u : Int).tmod 10) := rfl
  rw [this, Option.getD_some, Int.tmod_eq_emod_of_nonneg (by omega)]; rfl
theorem chr10 (d : Nat) (h : d < 10) : (IntKind.wrap .u8 (IntKind.wrap .u64 (48 + (d : Int)))).toNat = 48 + d := by
  simp [IntKind.wrap, IntKind.signed, IntKind.bits]; omega
theorem dd_big {u : Nat} (h : ¬ u < 10) : Lib.decDigits u = Lib.decDigits (u / 10) ++ [UInt8.ofNat (48 + u % 10)] := by
  rw [Lib.decDigits, dif_neg h]
theorem nDig_le : ∀ (k u : Nat), 1 ≤ k → u < 10 ^ k → Lib.nDigits u ≤ k
  | 0, u, h, _ => by omega
  | k + 1, u, _, h => by
    by_cases hu : u < 10
    · rw [Lib.nDigits_small hu]; omega
    · rw [Lib.nDigits_big hu]
      cases k with
      | zero => simp at h; omega
      | succ k =>
        have := nDig_le (k + 1) (u / 10) (by omega) (by rw [Nat.pow_succ] at h; omega)
        omega
theorem dd_len {u : Nat} (h : u < 18446744073709551616) : 1 ≤ (Lib.decDigits u).length ∧ (Lib.decDigits u).length ≤ 20 := by
  rw [Lib.decDigits_length]
  exact ⟨Lib.nDigits_pos u, nDig_le 20 u (by omega) (by omega)⟩
def diE (n : Int) (u : Nat) (s : List UInt8) (ρ : Env) : Env := ((ρ.setI 5 n).setI 2 u).setS 7 s
def diI (n : Int) : Nat → Env → Prop
  | 0, ρ => ρ.int 5 = n
  | 1, ρ => ∃ (u : Nat) (s : List UInt8), n < 0 ∧ ρ.int 5 = n ∧ ρ.int 2 = u ∧ ρ.str 7 = s ∧ Lib.decDigits n.natAbs = Lib.decDigits u ++ s ∧ s ≠ [] ∧ u < 18446744073709551616
  | 2, ρ => ∃ (u : Nat) (s : List UInt8), 0 ≤ n ∧ ρ.int 5 = n ∧ ρ.int 2 = u ∧ ρ.str 7 = s ∧ Lib.decDigits n.natAbs = Lib.decDigits u ++ s ∧ s ≠ [] ∧ u < 18446744073709551616
  | _, _ => False
def diμ (n : Int) : Nat → Env → Nat
  | 0, _ => n.natAbs + 10
  | _, ρ => (ρ.int 2).toNat
theorem digits_calls (n : Int) (h0 : -9223372036854775808 ≤ n) (h1 : n ≤ 9223372036854775807) (W : World) :
    Calls Tryz.prog 17 #[.int .i64 n] W fun e W' => e = .returned (.string ⟨⟨Lib.itoa n⟩⟩) ∧ Kept W W' := by
  have hU : n.natAbs < 18446744073709551616 := by omega
  have := Graph.calls (G := diG) (C := diC) (P := Tryz.prog) (I := diI n) (μ := diμ n) (J := fun ρ => ρ.str 9 = Lib.itoa n) (fun _ _ _ => ctx18 orcs_nil pors_nil) ?_ ?_ ?_ (ρ := Env.setI (env [] []) 5 n) rfl (F := [(.cmp .geq (.var 5) (.lit (-9223372036854775808)), true), (.cmp .leq (.var 5) (.lit 9223372036854775807), true)]) (args := [.int .i64 (.var 5)]) (h := hpOf [] 64) dist
    (φ := pl0) (w := W) (xs := [.int .i64 n]) (wr0 _ W) glob0 (VRs.cons (by simp only [VR, SI.den]; rfl) VRs.nil)
  · exact this.mono fun e W' h => kept_of h (fun ρ' ψ z hJ hz => by
      have hz : VR ρ' ψ (.str [.var 9]) z := hz
      simp only [VR, SS.den, SP.den, List.append_nil] at hz; rw [hz, hJ]) rfl
  · intro k ρ hi
    match k, hi with
    | 0, hi =>
      have hi : ρ.int 5 = n := hi
      rw [dif0]; intro p hp
      simp only [List.mem_cons, List.not_mem_nil, or_false] at hp
      rcases hp with rfl | rfl <;> simp [SB.den, SI.den, intCmp, ltInt_iff, hi] <;> omega
    | 1, hi =>
      obtain ⟨u, s, a0, a1, a2, a3, a4, a5, a6⟩ := hi
      have l1 := dd_len hU
      rw [a4, List.length_append] at l1
      have l2 := List.length_pos_iff.2 a5
      rw [dif1]; intro p hp
      simp only [List.mem_cons, List.not_mem_nil, or_false] at hp
      rcases hp with rfl | rfl | rfl | rfl | rfl <;> simp [SB.den, SI.den, intCmp, ltInt_iff, a1, a2, a3] <;> omega
    | 2, hi =>
      obtain ⟨u, s, a0, a1, a2, a3, a4, a5, a6⟩ := hi
      have l1 := dd_len hU
      rw [a4, List.length_append] at l1
      have l2 := List.length_pos_iff.2 a5
      rw [dif2]; intro p hp
      simp only [List.mem_cons, List.not_mem_nil, or_false] at hp
      rcases hp with rfl | rfl | rfl | rfl | rfl <;> simp [SB.den, SI.den, intCmp, ltInt_iff, a1, a2, a3] <;> omega
  · intro k ρ hi
    match k, hi with
    | 0, _ => exact diat0
    | 1, _ => exact diat1
    | 2, _ => exact diat2
  · intro k ρ hi
    match k, hi with
    | 0, hi =>
      have hi : ρ.int 5 = n := hi
      show OTok (diI n) (diμ n) _ 0 ρ dio0
      have hchr := chr10 (n.natAbs % 10) (by omega)
      simp only [dio0, OTok]
      refine ⟨fun h => ?_, fun h => ?_⟩
      · have hn : n < 0 := by simpa [SB.den, SI.den, intCmp, ltInt_iff, hi] using h
        have hw := w64neg hn h0
        refine ⟨fun g => ?_, fun g => ?_⟩
        · have hg : ¬ n.natAbs < 10 := by
            simp [SB.den, SI.den, intCmp, ltInt_iff, hi] at g; rw [← Int.zero_sub, hw] at g; omega
          refine .inl ⟨diE n (n.natAbs / 10) [UInt8.ofNat (48 + n.natAbs % 10)] ρ, ?_, ⟨n.natAbs / 10, [UInt8.ofNat (48 + n.natAbs % 10)], hn, rfl, rfl, rfl, dd_big hg, by simp, by omega⟩, ?_⟩
          · simp only [Eqns, Eqn.ok, diE, List.mem_cons, List.not_mem_nil, or_false, forall_eq_or_imp, forall_eq, SI.den, SS.den, SP.den, setI_int, setS_int, setS_str, hi, hw, quo10 hU, rem10, hchr, List.append_nil, and_true, true_and, if_true]
            simp
          · simp only [diμ, diE, setS_int, setI_int, if_true]; omega
        · have hg : n.natAbs < 10 := by
            simp [SB.den, SI.den, intCmp, ltInt_iff, hi] at g; rw [← Int.zero_sub, hw] at g; omega
          refine ⟨ρ.setS 9 (Lib.itoa n), ?_, rfl⟩
          have e : Lib.itoa n = [45, UInt8.ofNat (48 + n.natAbs)] := by rw [Lib.itoa, if_pos hn, Lib.decDigits_one hg]
          have hc : (48 + (n.natAbs : Int)).toNat = 48 + n.natAbs := by omega
          simp only [Eqns, Eqn.ok, List.mem_cons, List.not_mem_nil, or_false, forall_eq, SI.den, SS.den, SP.den, setS_str, setS_int, hi, hw, hc, e, if_true]
          rfl
      · have hn : 0 ≤ n := by
          simp [SB.den, SI.den, intCmp, ltInt_iff, hi] at h; exact h
        have hw := w64pos hn h1
        refine ⟨fun g => ?_, fun g => ?_⟩
        · have hg : ¬ n.natAbs < 10 := by
            simp [SB.den, SI.den, intCmp, ltInt_iff, hi, hw] at g; omega
          refine .inr ⟨diE n (n.natAbs / 10) [UInt8.ofNat (48 + n.natAbs % 10)] ρ, ?_, ⟨n.natAbs / 10, [UInt8.ofNat (48 + n.natAbs % 10)], hn, rfl, rfl, rfl, dd_big hg, by simp, by omega⟩, ?_⟩
          · simp only [Eqns, Eqn.ok, diE, List.mem_cons, List.not_mem_nil, or_false, forall_eq_or_imp, forall_eq, SI.den, SS.den, SP.den, setI_int, setS_int, setS_str, hi, hw, quo10 hU, rem10, hchr, List.append_nil, and_true, true_and, if_true]
            simp
          · simp only [diμ, diE, setS_int, setI_int, if_true]; omega
        · have hg : n.natAbs < 10 := by
            simp [SB.den, SI.den, intCmp, ltInt_iff, hi, hw] at g; omega
          refine ⟨ρ.setS 9 (Lib.itoa n), ?_, rfl⟩
          have e : Lib.itoa n = [UInt8.ofNat (48 + n.natAbs)] := by
            rw [Lib.itoa, if_neg (by omega), show n.toNat = n.natAbs by omega, Lib.decDigits_one hg]
          have hc : (48 + (n.natAbs : Int)).toNat = 48 + n.natAbs := by omega
          simp only [Eqns, Eqn.ok, List.mem_cons, List.not_mem_nil, or_false, forall_eq, SI.den, SS.den, SP.den, setS_str, setS_int, hi, hw, hc, e, if_true]
    | 1, hi =>
      obtain ⟨u, s, a0, a1, a2, a3, a4, a5, a6⟩ := hi
      have hchr := chr10 (u % 10) (by omega)
      show OTok (diI n) (diμ n) _ 1 ρ dio1
      simp only [dio1, OTok]
      refine ⟨fun g => ?_, fun g => ?_⟩
      · have hg : ¬ u < 10 := by
          simp [SB.den, SI.den, intCmp, ltInt_iff, a2] at g; omega
        refine .inl ⟨diE n (u / 10) (UInt8.ofNat (48 + u % 10) :: s) ρ, ?_, ⟨u / 10, UInt8.ofNat (48 + u % 10) :: s, a0, rfl, rfl, rfl, by rw [a4, dd_big hg]; simp, by simp, by omega⟩, ?_⟩
        · simp only [Eqns, Eqn.ok, diE, List.mem_cons, List.not_mem_nil, or_false, forall_eq_or_imp, forall_eq, SI.den, SS.den, SP.den, setI_int, setS_int, setS_str, a1, a2, a3, quo10 a6, rem10, hchr, List.append_nil, and_true, true_and, if_true]
          simp
        · simp only [diμ, diE, setS_int, setI_int, if_true, a2]; omega
      · have hg : u < 10 := by
          simp [SB.den, SI.den, intCmp, ltInt_iff, a2] at g; omega
        refine ⟨ρ.setS 9 (Lib.itoa n), ?_, rfl⟩
        have e : Lib.itoa n = 45 :: UInt8.ofNat (48 + u) :: s := by rw [Lib.itoa, if_pos a0, a4, Lib.decDigits_one hg]; rfl
        have hc : (48 + (u : Int)).toNat = 48 + u := by omega
        simp only [Eqns, Eqn.ok, List.mem_cons, List.not_mem_nil, or_false, forall_eq, SI.den, SS.den, SP.den, setS_str, setS_int, a2, a3, hc, e, if_true]
        simp
    | 2, hi =>
      obtain ⟨u, s, a0, a1, a2, a3, a4, a5, a6⟩ := hi
      have hchr := chr10 (u % 10) (by omega)
      show OTok (diI n) (diμ n) _ 2 ρ dio2
      simp only [dio2, OTok]
      refine ⟨fun g => ?_, fun g => ?_⟩
      · have hg : ¬ u < 10 := by
          simp [SB.den, SI.den, intCmp, ltInt_iff, a2] at g; omega
        refine .inr ⟨diE n (u / 10) (UInt8.ofNat (48 + u % 10) :: s) ρ, ?_, ⟨u / 10, UInt8.ofNat (48 + u % 10) :: s, a0, rfl, rfl, rfl, by rw [a4, dd_big hg]; simp, by simp, by omega⟩, ?_⟩
        · simp only [Eqns, Eqn.ok, diE, List.mem_cons, List.not_mem_nil, or_false, forall_eq_or_imp, forall_eq, SI.den, SS.den, SP.den, setI_int, setS_int, setS_str, a1, a2, a3, quo10 a6, rem10, hchr, List.append_nil, and_true, true_and, if_true]
          simp
        · simp only [diμ, diE, setS_int, setI_int, if_true, a2]; omega
      · have hg : u < 10 := by
          simp [SB.den, SI.den, intCmp, ltInt_iff, a2] at g; omega
        refine ⟨ρ.setS 9 (Lib.itoa n), ?_, rfl⟩
        have e : Lib.itoa n = UInt8.ofNat (48 + u) :: s := by
          rw [Lib.itoa, if_neg (by omega), show n.toNat = n.natAbs by omega, a4, Lib.decDigits_one hg]; rfl
        have hc : (48 + (u : Int)).toNat = 48 + u := by omega
        simp only [Eqns, Eqn.ok, List.mem_cons, List.not_mem_nil, or_false, forall_eq, SI.den, SS.den, SP.den, setS_str, setS_int, a2, a3, hc, e, if_true]
        simp
end Go.Sx
namespace Go.Sx
open Go.Proofs
set_option maxRecDepth 100000
theorem kept_below {W W' : World} (h : Go.RowKit.Below W.heap.size W W') : Kept W W' := ⟨h.block, ⟨h.os, h.output⟩, h.size⟩
noncomputable def p_at : POrc := { facts := [], f := 160, args := [.str [.lit [49]]], pre := [], v := .tup [.int .i64 (.lit 1), .nilIface] }
theorem at_ok {ρ : Env} : POrcOK Tryz.prog ρ p_at := by
  intro φ w xs n _ _ _ ha
  obtain ⟨x, ys, rfl, h1, h2⟩ := VRs.cons_left ha
  have := VRs.nil_left h2; subst this
  simp only [VR, SS.den, SP.den, List.append_nil] at h1
  subst h1
  refine (Tryz.internal_strconv_Atoi ⟨⟨[49]⟩⟩ 1 (by decide) (by decide +kernel) w).mono fun e w' ⟨he, t, hw⟩ => ⟨_, he, ?_, ?_⟩
  · show VR ρ φ (.tup [.int .i64 (.lit 1), .nilIface]) _
    simp only [VR]
    exact ⟨_, rfl, VRs.cons (by simp only [VR, SI.den]) (VRs.cons (by simp only [VR]) VRs.nil)⟩
  · rw [hw]; exact kept_below (Lib.bytesWorld_below w 5 t)
noncomputable def p_it : POrc := { facts := [], f := 117, args := [.int .i64 (.rlen 10)], pre := [], v := .str [.var 74] }
theorem it_ok {ρ : Env} (h : (ρ.rows 10).length < 100) (h2 : ρ.str 74 = Lib.decDigits (ρ.rows 10).length) : POrcOK Tryz.prog ρ p_it := by
  intro φ w xs n _ _ _ ha
  obtain ⟨x, ys, rfl, h1, h3⟩ := VRs.cons_left ha
  have := VRs.nil_left h3; subst this
  simp only [VR, SI.den] at h1
  subst h1
  refine (Tryz.strconv_Itoa_small _ h w).mono fun e w' ⟨he, hw⟩ => ⟨_, he, ?_, ?_⟩
  · show VR ρ φ (.str [.var 74]) _
    simp only [VR, SS.den, SP.den, List.append_nil, h2]
  · rw [hw]; exact ⟨fun _ _ => rfl, ⟨rfl, rfl⟩, Nat.le_refl _⟩
noncomputable def p_di : POrc := { facts := [], f := 17, args := [.int .i64 (.rlen 10)], pre := [], v := .str [.var 74] }
theorem di_ok {ρ : Env} (h : (ρ.rows 10).length < 100) (h2 : ρ.str 74 = Lib.decDigits (ρ.rows 10).length) : POrcOK Tryz.prog ρ p_di := by
  intro φ w xs n _ _ _ ha
  obtain ⟨x, ys, rfl, h1, h3⟩ := VRs.cons_left ha
  have := VRs.nil_left h3; subst this
  simp only [VR, SI.den] at h1
  subst h1
  refine (digits_calls _ (by omega) (by omega) w).mono fun e w' ⟨he, hk⟩ => ⟨_, he, ?_, hk⟩
  show VR ρ φ (.str [.var 74]) _
  have : Lib.itoa ((ρ.rows 10).length : Int) = Lib.decDigits (ρ.rows 10).length := by
    rw [Lib.itoa, if_neg (by omega)]; rfl
  simp only [VR, SS.den, SP.den, List.append_nil, h2, this]
theorem por_pl {ρ : Env} {a b : Nat} (h : ρ.str a = quoteL (ρ.str b)) (hl : (ρ.str b).length ≤ 50000) : POrcOK Tryz.prog ρ { facts := [], f := 20, args := [.str [.var a]], pre := [], v := .str [.var b] } := by
  intro φ w xs n _ _ _ ha
  obtain ⟨x, ys, rfl, h1, h2⟩ := VRs.cons_left ha
  have := VRs.nil_left h2; subst this
  simp only [VR, SS.den, SP.den, List.append_nil] at h1
  subst h1
  refine (plain_calls (ρ.str b) hl ⟨⟨ρ.str a⟩⟩ h w).mono fun e w' ⟨he, hk⟩ => ⟨_, he, ?_, hk⟩
  simp only [VR, SS.den, SP.den, List.append_nil]
theorem por_ha {ρ : Env} {a b : Nat} (h : ρ.str a = quoteL (ρ.str b)) (hl : (ρ.str b).length ≤ 50000) : POrcOK Tryz.prog ρ { facts := [], f := 21, args := [.str [.var a]], pre := [], v := .bool (.lit false) } := by
  intro φ w xs n _ _ _ ha
  obtain ⟨x, ys, rfl, h1, h2⟩ := VRs.cons_left ha
  have := VRs.nil_left h2; subst this
  simp only [VR, SS.den, SP.den, List.append_nil] at h1
  subst h1
  exact (has_calls (ρ.str b) hl ⟨⟨ρ.str a⟩⟩ h w).mono fun e w' ⟨he, hk⟩ => ⟨_, he, by simp only [VR, SB.den], hk⟩
noncomputable def p_pl0 : POrc := { facts := [], f := 20, args := [.str [.var 41]], pre := [], v := .str [.var 40] }
noncomputable def p_pl : POrc := { facts := [], f := 20, args := [.str [.var 33]], pre := [], v := .str [.var 9] }
noncomputable def p_ha0 : POrc := { facts := [], f := 21, args := [.str [.var 41]], pre := [], v := .bool (.lit false) }
noncomputable def p_ha : POrc := { facts := [], f := 21, args := [.str [.var 33]], pre := [], v := .bool (.lit false) }
end Go.Sx
