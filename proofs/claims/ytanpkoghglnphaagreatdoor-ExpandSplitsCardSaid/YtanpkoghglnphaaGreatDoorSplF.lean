import Derived.Test.YtanpkoghglnphaaGreatDoorSplE
import Derived.Test.YtanpkoghglnphaaGreatDoorSplC
import Derived.Test.YtanpkoghglnphaaGreatDoorSplD
import Derived.SliceStrings
import Derived.WideShapes
namespace Go.Sx
open Go.Proofs
set_option maxRecDepth 100000
theorem acc_nil {A : List (List UInt8)} {G : List Int} {i : Nat} (h : acc A G i = ([], [])) : (acc A G i).2 = [] := by rw [h]
section
variable {A : List (List UInt8)} {G : List Int} {φ : Pl} {W : World} {xs : List Value}
theorem ss_ctx {k : Nat} {ρ : Env} (hi : ssI A G k ρ) : CtxOK (ctxOf Tryz.prog lies18 exts18 [o_sp, o_sm] [p_sh, p_qv]) Tryz.prog ρ := by
  match k, hi with
  | 0, hi => replace hi : ρ = ssEnv A G 0 0 := hi; subst hi; exact ssC_ok A G 0 (by omega)
  | 1, hi => obtain ⟨i, h1, _, _, rfl⟩ := hi; exact ssC_ok A G 0 h1
  | 2, hi => obtain ⟨i, h1, _, _, rfl⟩ := hi; exact ssC_ok A G 0 h1
  | 3, hi => obtain ⟨i, k, h1, _, _, _, _, rfl⟩ := hi; exact ssC_ok A G k (by omega)
  | 4, hi => obtain ⟨i, k, h1, _, _, _, _, rfl⟩ := hi; exact ssC_ok A G k (by omega)
theorem vs_bounds (A : List (List UInt8)) (G : List Int) {i : Nat} (h : i ≤ 40) : 1 ≤ (vs A G i).1.length ∧ (vs A G i).1.length ≤ 760 ∧ 1 ≤ (vs A G i).2.length ∧ (vs A G i).2.length ≤ 40 := by
  obtain ⟨h, h1, h2⟩ := vs_ok A G h
  have l1 := List.length_pos_iff.2 h1
  have l2 := List.length_pos_iff.2 h2
  have h3 := h.len
  have h4 := h.wlen
  omega
theorem ss_law (hA : 0 < A.length) (hw : LWn 66 φ (ssEnv A G 0 0) [(64, .rowv true 10 1 (.lit 0) [.str [.var 9]] 9), (65, .rowv true 11 1 (.lit 0) [.int .i64 (.var 5)] 3)] W)
    (ha : VRs (ssEnv A G 0 0) φ [.slice 64 0 (.rlen 10) (.rest 1), .slice 65 0 (.rlen 11) (.rest 1)] xs) : Calls Tryz.prog 3 ⟨xs⟩ W fun e W' => e = .returned (.bool true) ∧ Kept W W' := by
  refine law_ofn (G := ssG) (C := ssC) (I := ssI A G) (μ := ssμ) (fun _ _ h => ss_ctx h) ?_ ?_ ?_ rfl rfl rfl ssst hw ha
  · intro k ρ hi
    match k, hi with
    | 0, hi =>
      replace hi : ρ = ssEnv A G 0 0 := hi; subst hi
      rw [ssf0]
      intro p hp
      simp only [List.mem_cons, List.not_mem_nil, or_false] at hp
      rcases hp with rfl <;> simp [SB.den, SI.den, intCmp, ltInt_iff, ssEnv, rows1_lth] <;> omega
    | 1, hi =>
      obtain ⟨i, h1, h2, h3, rfl⟩ := hi
      rw [ssf1]
      intro p hp
      simp only [List.mem_cons, List.not_mem_nil, or_false] at hp
      rcases hp with rfl | rfl | rfl <;> simp [SB.den, SI.den, intCmp, ltInt_iff, ssEnv, rows1_lth] <;> omega
    | 2, hi =>
      obtain ⟨i, h1, h2, h3, rfl⟩ := hi
      rw [ssf2]
      have b := vs_bounds A G h1
      intro p hp
      simp only [List.mem_cons, List.not_mem_nil, or_false] at hp
      rcases hp with rfl | rfl | rfl | rfl | rfl | rfl | rfl | rfl <;> simp [SB.den, SI.den, intCmp, ltInt_iff, ssEnv, rows1_lth] <;> omega
    | 3, hi =>
      obtain ⟨i, k, h1, h2, h3, h4, h5, rfl⟩ := hi
      rw [ssf3]
      have b := cur_len A i k
      intro p hp
      simp only [List.mem_cons, List.not_mem_nil, or_false] at hp
      rcases hp with rfl | rfl | rfl | rfl | rfl | rfl | rfl | rfl | rfl <;> simp [SB.den, SI.den, intCmp, ltInt_iff, ssEnv, rows1_lth] <;> omega
    | 4, hi =>
      obtain ⟨i, k, h1, h2, h3, h4, h5, rfl⟩ := hi
      rw [ssf4]
      have b := vs_bounds A G (i := i) (by omega)
      have b := cur_len A i k
      intro p hp
      simp only [List.mem_cons, List.not_mem_nil, or_false] at hp
      rcases hp with rfl | rfl | rfl | rfl | rfl | rfl | rfl | rfl | rfl | rfl | rfl | rfl | rfl | rfl <;> simp [SB.den, SI.den, intCmp, ltInt_iff, ssEnv, rows1_lth] <;> omega
  · intro k ρ hi
    match k, hi with
    | 0, _ => exact ssat0
    | 1, _ => exact ssat1
    | 2, _ => exact ssat2
    | 3, _ => exact ssat3
    | 4, _ => exact ssat4
  · intro k ρ hi
    match k, hi with
    | 0, hi => exact ssn0 trivial hA hi
    | 1, hi => exact ssn1 trivial hA hi
    | 2, hi => exact ssn2 trivial hA hi
    | 3, hi => exact ssn3 trivial hA hi
    | 4, hi => exact ssn4 trivial hA hi
theorem sn_law (hG : G = []) (hA : 0 < A.length) (hw : LWn 66 φ (ssEnv A G 0 0) [(64, .rowv true 10 1 (.lit 0) [.str [.var 9]] 9)] W)
    (ha : VRs (ssEnv A G 0 0) φ [.slice 64 0 (.rlen 10) (.rest 1), .nilSlice] xs) : Calls Tryz.prog 3 ⟨xs⟩ W fun e W' => e = .returned (.bool true) ∧ Kept W W' := by
  refine law_ofn (G := snG) (C := snC) (I := ssI A G) (μ := ssμ) (fun _ _ h => ss_ctx h) ?_ ?_ ?_ rfl rfl rfl snst hw ha
  · intro k ρ hi
    match k, hi with
    | 0, hi =>
      replace hi : ρ = ssEnv A G 0 0 := hi; subst hi
      rw [snf0]
      intro p hp
      simp only [List.mem_cons, List.not_mem_nil, or_false] at hp
      rcases hp with rfl <;> simp [SB.den, SI.den, intCmp, ltInt_iff, ssEnv, rows1_lth] <;> omega
    | 1, hi =>
      obtain ⟨i, h1, h2, h3, rfl⟩ := hi
      rw [snf1]
      intro p hp
      simp only [List.mem_cons, List.not_mem_nil, or_false] at hp
      rcases hp with rfl | rfl | rfl <;> simp [SB.den, SI.den, intCmp, ltInt_iff, ssEnv, rows1_lth] <;> omega
    | 2, hi =>
      obtain ⟨i, h1, h2, h3, rfl⟩ := hi
      rw [snf2]
      have b := vs_bounds A G h1
      intro p hp
      simp only [List.mem_cons, List.not_mem_nil, or_false] at hp
      rcases hp with rfl | rfl | rfl | rfl | rfl | rfl | rfl | rfl <;> simp [SB.den, SI.den, intCmp, ltInt_iff, ssEnv, rows1_lth] <;> omega
    | 3, hi =>
      obtain ⟨i, k, h1, h2, h3, h4, h5, rfl⟩ := hi
      rw [snf3]
      have b := cur_len A i k
      intro p hp
      simp only [List.mem_cons, List.not_mem_nil, or_false] at hp
      rcases hp with rfl | rfl | rfl | rfl | rfl | rfl | rfl | rfl | rfl <;> simp [SB.den, SI.den, intCmp, ltInt_iff, ssEnv, rows1_lth] <;> omega
    | 4, hi =>
      obtain ⟨i, k, h1, h2, h3, h4, h5, rfl⟩ := hi
      rw [snf4]
      have b := vs_bounds A G (i := i) (by omega)
      have b := cur_len A i k
      intro p hp
      simp only [List.mem_cons, List.not_mem_nil, or_false] at hp
      rcases hp with rfl | rfl | rfl | rfl | rfl | rfl | rfl | rfl | rfl | rfl | rfl | rfl | rfl | rfl <;> simp [SB.den, SI.den, intCmp, ltInt_iff, ssEnv, rows1_lth] <;> omega
  · intro k ρ hi
    match k, hi with
    | 0, _ => exact snat0
    | 1, _ => exact snat1
    | 2, _ => exact snat2
    | 3, _ => exact snat3
    | 4, _ => exact snat4
  · intro k ρ hi
    match k, hi with
    | 0, hi => exact snn0 hG hA hi
    | 1, hi => exact snn1 hG hA hi
    | 2, hi => exact snn2 hG hA hi
    | 3, hi => exact snn3 hG hA hi
    | 4, hi => exact snn4 hG hA hi
theorem se_law (hG : G = []) (hA : 0 < A.length) (hw : LWn 66 φ (ssEnv A G 0 0) [(64, .rowv true 10 1 (.lit 0) [.str [.var 9]] 9)] W)
    (ha : VRs (ssEnv A G 0 0) φ [.slice 64 0 (.rlen 10) (.rest 1), .eslice 65 1] xs) : Calls Tryz.prog 3 ⟨xs⟩ W fun e W' => e = .returned (.bool true) ∧ Kept W W' := by
  refine law_ofn (G := seG) (C := seC) (I := ssI A G) (μ := ssμ) (fun _ _ h => ss_ctx h) ?_ ?_ ?_ rfl rfl rfl sest hw ha
  · intro k ρ hi
    match k, hi with
    | 0, hi =>
      replace hi : ρ = ssEnv A G 0 0 := hi; subst hi
      rw [sef0]
      intro p hp
      simp only [List.mem_cons, List.not_mem_nil, or_false] at hp
      rcases hp with rfl <;> simp [SB.den, SI.den, intCmp, ltInt_iff, ssEnv, rows1_lth] <;> omega
    | 1, hi =>
      obtain ⟨i, h1, h2, h3, rfl⟩ := hi
      rw [sef1]
      intro p hp
      simp only [List.mem_cons, List.not_mem_nil, or_false] at hp
      rcases hp with rfl | rfl | rfl <;> simp [SB.den, SI.den, intCmp, ltInt_iff, ssEnv, rows1_lth] <;> omega
    | 2, hi =>
      obtain ⟨i, h1, h2, h3, rfl⟩ := hi
      rw [sef2]
      have b := vs_bounds A G h1
      intro p hp
      simp only [List.mem_cons, List.not_mem_nil, or_false] at hp
      rcases hp with rfl | rfl | rfl | rfl | rfl | rfl | rfl | rfl <;> simp [SB.den, SI.den, intCmp, ltInt_iff, ssEnv, rows1_lth] <;> omega
    | 3, hi =>
      obtain ⟨i, k, h1, h2, h3, h4, h5, rfl⟩ := hi
      rw [sef3]
      have b := cur_len A i k
      intro p hp
      simp only [List.mem_cons, List.not_mem_nil, or_false] at hp
      rcases hp with rfl | rfl | rfl | rfl | rfl | rfl | rfl | rfl | rfl <;> simp [SB.den, SI.den, intCmp, ltInt_iff, ssEnv, rows1_lth] <;> omega
    | 4, hi =>
      obtain ⟨i, k, h1, h2, h3, h4, h5, rfl⟩ := hi
      rw [sef4]
      have b := vs_bounds A G (i := i) (by omega)
      have b := cur_len A i k
      intro p hp
      simp only [List.mem_cons, List.not_mem_nil, or_false] at hp
      rcases hp with rfl | rfl | rfl | rfl | rfl | rfl | rfl | rfl | rfl | rfl | rfl | rfl | rfl | rfl <;> simp [SB.den, SI.den, intCmp, ltInt_iff, ssEnv, rows1_lth] <;> omega
  · intro k ρ hi
    match k, hi with
    | 0, _ => exact seat0
    | 1, _ => exact seat1
    | 2, _ => exact seat2
    | 3, _ => exact seat3
    | 4, _ => exact seat4
  · intro k ρ hi
    match k, hi with
    | 0, hi => exact sen0 hG hA hi
    | 1, hi => exact sen1 hG hA hi
    | 2, hi => exact sen2 hG hA hi
    | 3, hi => exact sen3 hG hA hi
    | 4, hi => exact sen4 hG hA hi
theorem znr_law {ρ : Env} (hw : LWn 66 φ ρ [(65, .rowv true 11 1 (.lit 0) [.int .i64 (.var 5)] 3)] W) (ha : VRs ρ φ [.nilSlice, .slice 65 0 (.rlen 11) (.rest 1)] xs) : Calls Tryz.prog 3 ⟨xs⟩ W fun e W' => e = .returned (.bool true) ∧ Kept W W' := by
  refine law_ofn (G := znrG) (C := znrC) (I := fun k ρ' => k = 0 ∧ ρ' = ρ) (μ := fun _ _ => 0) (fun _ _ _ => ctx18 orcs_nil (pors_cons sh_ok pors_nil)) ?_ ?_ ?_ ⟨rfl, rfl⟩ rfl rfl znrst hw ha
  · rintro k ρ' ⟨rfl, rfl⟩
    rw [znrf0]
    intro p hp; cases hp
  · rintro k ρ' ⟨rfl, rfl⟩; exact znrat0
  · rintro k ρ' ⟨rfl, rfl⟩
    show OTok _ _ _ 0 ρ' znro0
    simp only [znro0, OTok]
    exact ⟨ρ', eqns_nl, trivial⟩
theorem znn_law {ρ : Env} (hw : LWn 66 φ ρ [] W) (ha : VRs ρ φ [.nilSlice, .nilSlice] xs) : Calls Tryz.prog 3 ⟨xs⟩ W fun e W' => e = .returned (.bool true) ∧ Kept W W' := by
  refine law_ofn (G := znnG) (C := znnC) (I := fun k ρ' => k = 0 ∧ ρ' = ρ) (μ := fun _ _ => 0) (fun _ _ _ => ctx18 orcs_nil (pors_cons sh_ok pors_nil)) ?_ ?_ ?_ ⟨rfl, rfl⟩ rfl rfl znnst hw ha
  · rintro k ρ' ⟨rfl, rfl⟩
    rw [znnf0]
    intro p hp; cases hp
  · rintro k ρ' ⟨rfl, rfl⟩; exact znnat0
  · rintro k ρ' ⟨rfl, rfl⟩
    show OTok _ _ _ 0 ρ' znno0
    simp only [znno0, OTok]
    exact ⟨ρ', eqns_nl, trivial⟩
theorem zne_law {ρ : Env} (hw : LWn 66 φ ρ [] W) (ha : VRs ρ φ [.nilSlice, .eslice 65 1] xs) : Calls Tryz.prog 3 ⟨xs⟩ W fun e W' => e = .returned (.bool true) ∧ Kept W W' := by
  refine law_ofn (G := zneG) (C := zneC) (I := fun k ρ' => k = 0 ∧ ρ' = ρ) (μ := fun _ _ => 0) (fun _ _ _ => ctx18 orcs_nil (pors_cons sh_ok pors_nil)) ?_ ?_ ?_ ⟨rfl, rfl⟩ rfl rfl znest hw ha
  · rintro k ρ' ⟨rfl, rfl⟩
    rw [znef0]
    intro p hp; cases hp
  · rintro k ρ' ⟨rfl, rfl⟩; exact zneat0
  · rintro k ρ' ⟨rfl, rfl⟩
    show OTok _ _ _ 0 ρ' zneo0
    simp only [zneo0, OTok]
    exact ⟨ρ', eqns_nl, trivial⟩
theorem zer_law {ρ : Env} (hw : LWn 66 φ ρ [(65, .rowv true 11 1 (.lit 0) [.int .i64 (.var 5)] 3)] W) (ha : VRs ρ φ [.eslice 64 1, .slice 65 0 (.rlen 11) (.rest 1)] xs) : Calls Tryz.prog 3 ⟨xs⟩ W fun e W' => e = .returned (.bool true) ∧ Kept W W' := by
  refine law_ofn (G := zerG) (C := zerC) (I := fun k ρ' => k = 0 ∧ ρ' = ρ) (μ := fun _ _ => 0) (fun _ _ _ => ctx18 orcs_nil (pors_cons sh_ok pors_nil)) ?_ ?_ ?_ ⟨rfl, rfl⟩ rfl rfl zerst hw ha
  · rintro k ρ' ⟨rfl, rfl⟩
    rw [zerf0]
    intro p hp; cases hp
  · rintro k ρ' ⟨rfl, rfl⟩; exact zerat0
  · rintro k ρ' ⟨rfl, rfl⟩
    show OTok _ _ _ 0 ρ' zero0
    simp only [zero0, OTok]
    exact ⟨ρ', eqns_nl, trivial⟩
theorem zen_law {ρ : Env} (hw : LWn 66 φ ρ [] W) (ha : VRs ρ φ [.eslice 64 1, .nilSlice] xs) : Calls Tryz.prog 3 ⟨xs⟩ W fun e W' => e = .returned (.bool true) ∧ Kept W W' := by
  refine law_ofn (G := zenG) (C := zenC) (I := fun k ρ' => k = 0 ∧ ρ' = ρ) (μ := fun _ _ => 0) (fun _ _ _ => ctx18 orcs_nil (pors_cons sh_ok pors_nil)) ?_ ?_ ?_ ⟨rfl, rfl⟩ rfl rfl zenst hw ha
  · rintro k ρ' ⟨rfl, rfl⟩
    rw [zenf0]
    intro p hp; cases hp
  · rintro k ρ' ⟨rfl, rfl⟩; exact zenat0
  · rintro k ρ' ⟨rfl, rfl⟩
    show OTok _ _ _ 0 ρ' zeno0
    simp only [zeno0, OTok]
    exact ⟨ρ', eqns_nl, trivial⟩
theorem zee_law {ρ : Env} (hw : LWn 66 φ ρ [] W) (ha : VRs ρ φ [.eslice 64 1, .eslice 65 1] xs) : Calls Tryz.prog 3 ⟨xs⟩ W fun e W' => e = .returned (.bool true) ∧ Kept W W' := by
  refine law_ofn (G := zeeG) (C := zeeC) (I := fun k ρ' => k = 0 ∧ ρ' = ρ) (μ := fun _ _ => 0) (fun _ _ _ => ctx18 orcs_nil (pors_cons sh_ok pors_nil)) ?_ ?_ ?_ ⟨rfl, rfl⟩ rfl rfl zeest hw ha
  · rintro k ρ' ⟨rfl, rfl⟩
    rw [zeef0]
    intro p hp; cases hp
  · rintro k ρ' ⟨rfl, rfl⟩; exact zeeat0
  · rintro k ρ' ⟨rfl, rfl⟩
    show OTok _ _ _ 0 ρ' zeeo0
    simp only [zeeo0, OTok]
    exact ⟨ρ', eqns_nl, trivial⟩
end
/-! the arguments' world -/
def plSS (b off cap b2 off2 cap2 : Nat) : Pl := (pl0.with 64 ⟨b, off, cap⟩).with 65 ⟨b2, off2, cap2⟩
theorem globSS (b off cap b2 off2 cap2 : Nat) : Glob (plSS b off cap b2 off2 cap2) := fun g hg => by
  refine ⟨0, ?_⟩
  unfold plSS
  rw [Pl.with_ne _ _ (by omega), Pl.with_ne _ _ (by omega)]
  simp [pl0, hg]
theorem freshSS (b off cap b2 off2 cap2 : Nat) : ∀ i, 66 ≤ i → plSS b off cap b2 off2 cap2 i = none := by
  intro i hi
  unfold plSS
  rw [Pl.with_ne _ _ (by omega), Pl.with_ne _ _ (by omega)]
  simp [pl0]; omega
theorem at64 (b off cap b2 off2 cap2 : Nat) : plSS b off cap b2 off2 cap2 64 = some ⟨b, off, cap⟩ := by
  unfold plSS
  rw [Pl.with_ne _ _ (by omega)]; exact Pl.with_same _ _ _
theorem at65 (b off cap b2 off2 cap2 : Nat) : plSS b off cap b2 off2 cap2 65 = some ⟨b2, off2, cap2⟩ := Pl.with_same _ _ _
theorem flat1 : ∀ l : List Value, (l.map fun v => [v]).flatten = l
  | [] => rfl
  | a :: l => by simp [flat1 l]
/-- a row of values that was handed in -/
theorem row_br {ρ : Env} {φ : Pl} {r : Nat} {vals : List Value} {b off cap ek e : Nat} {fz : Nat × Nat} {c : Array Value} {cs : List AV} (hR : ρ.rows r = vals.map fun v => [v]) (hone : ∀ v ∈ vals, v.oneCell' = true) (hcap : off + cap ≤ c.size) (hlen : vals.length ≤ cap)
    (hc : ∀ i, i < vals.length → c[off + i]? = vals[i]?) (hpk : ∀ v, vals[0]? = some v → VRs ρ φ cs [v]) : BR ρ φ ⟨b, off, cap⟩ (.rowv true r 1 (.lit 0) cs e) (.cells c ek fz) := by
  obtain ⟨lo, hi⟩ := fz
  have hfl : (vals.map fun v => [v]).flatten = vals := flat1 vals
  refine ⟨⟨ek, c, lo, hi, (c.toList.drop off).drop vals.length, rfl, .inl rfl, .inr ⟨rfl, hcap, ?_⟩, ?_⟩, ?_, by simp [SI.den], ?_⟩
  · rw [hR, hfl]; exact hlen
  · rw [hR, hfl]
    show c.toList.drop off = _
    have : (c.toList.drop off).take vals.length = vals := by
      apply List.ext_getElem?
      intro i
      by_cases hi : i < vals.length
      · rw [List.getElem?_take, if_pos hi, List.getElem?_drop, Array.getElem?_toList, hc i hi]
      · rw [List.getElem?_eq_none (by simp; omega), List.getElem?_eq_none (by omega)]
    conv => rhs; lhs; rw [← this]
    exact (List.take_append_drop _ _).symm
  · intro q hq
    rw [hR] at hq
    obtain ⟨v, hv, rfl⟩ := List.mem_map.1 hq
    exact ⟨rfl, fun x hx => by simp at hx; subst hx; exact hone _ hv⟩
  · intro xs hx
    rw [hR] at hx
    simp only [SI.den, Int.toNat_zero, List.getElem?_map, Option.map_eq_some_iff] at hx
    obtain ⟨v, hv, rfl⟩ := hx
    exact hpk v hv
theorem br64 {A : List (List UInt8)} {G : List Int} {φ : Pl} {b off cap ek : Nat} {fz : Nat × Nat} {c : Array Value} (hcap : off + cap ≤ c.size) (hA : A.length ≤ cap) (hc : ∀ i, i < A.length → c[off + i]? = some (vstr (wd A i))) :
    BR (ssEnv A G 0 0) φ ⟨b, off, cap⟩ (.rowv true 10 1 (.lit 0) [.str [.var 9]] 9) (.cells c ek fz) := by
  refine row_br (vals := A.map vstr) (by simp [ssEnv, rows1]) (fun v hv => ?_) hcap (by simpa using hA) (fun i hi => ?_) (fun v hv => ?_)
  · obtain ⟨a, _, rfl⟩ := List.mem_map.1 hv; rfl
  · simp only [List.length_map] at hi
    rw [hc i hi, List.getElem?_map, List.getElem?_eq_getElem hi]
    simp [wd, List.getD, List.getElem?_eq_getElem hi]
  · refine VRs.cons ?_ VRs.nil
    simp only [List.getElem?_map, Option.map_eq_some_iff] at hv
    obtain ⟨a, ha, rfl⟩ := hv
    simp [VR, SS.den, SP.den, ssEnv, wd, List.getD, ha, vstr]
theorem br65 {A : List (List UInt8)} {G : List Int} {φ : Pl} {b off cap ek : Nat} {fz : Nat × Nat} {c : Array Value} (hcap : off + cap ≤ c.size) (hG : G.length ≤ cap) (hc : ∀ i, i < G.length → c[off + i]? = some (.int .i64 (gp G i))) :
    BR (ssEnv A G 0 0) φ ⟨b, off, cap⟩ (.rowv true 11 1 (.lit 0) [.int .i64 (.var 5)] 3) (.cells c ek fz) := by
  refine row_br (vals := G.map fun g => .int .i64 g) (by simp [ssEnv, grows]; intro a _; rfl) (fun v hv => ?_) hcap (by simpa using hG) (fun i hi => ?_) (fun v hv => ?_)
  · obtain ⟨a, _, rfl⟩ := List.mem_map.1 hv; rfl
  · simp only [List.length_map] at hi
    rw [hc i hi, List.getElem?_map, List.getElem?_eq_getElem hi]
    simp [gp, List.getD, List.getElem?_eq_getElem hi]
  · refine VRs.cons ?_ VRs.nil
    simp only [List.getElem?_map, Option.map_eq_some_iff] at hv
    obtain ⟨a, ha, rfl⟩ := hv
    simp [VR, SI.den, ssEnv, gp, List.getD, ha]
theorem lw2 {ρ : Env} {φ : Pl} {W : World} {l : List (Nat × ABlk)} (hg : Glob φ) (hf : ∀ i, 66 ≤ i → φ i = none) (hl : ∀ i b, (hpOf l 66).t.get i = some b → b.owned = false ∧ ∃ L o, φ i = some L ∧ W.heap[L.blk]? = some o ∧ BR ρ φ L b o) : LWn 66 φ ρ l W :=
  ⟨⟨fun i b h => (hl i b h).2, (fun i j b c L M h1 h2 ho => by rw [(hl i b h1).1] at ho; cases ho), hf, (fun i b L h ho => by rw [(hl i b h).1] at ho; cases ho)⟩, hg, fun k ⟨id, c, L, h, ho, _⟩ => by rw [(hl id c h).1] at ho; cases ho⟩
theorem get1 {k : Nat} {b : ABlk} {i : Nat} {c : ABlk} (h : (hpOf [(k, b)] 66).t.get i = some c) : i = k ∧ c = b := by
  simp only [hpOf, List.foldr] at h
  rw [PT.get_set] at h
  split at h
  · cases h; exact ⟨by assumption, rfl⟩
  · cases h
theorem get2 {k l : Nat} {b d : ABlk} {i : Nat} {c : ABlk} (h : (hpOf [(k, b), (l, d)] 66).t.get i = some c) : (i = k ∧ c = b) ∨ (i = l ∧ c = d) := by
  simp only [hpOf, List.foldr] at h
  rw [PT.get_set] at h
  split at h
  · cases h; exact .inl ⟨by assumption, rfl⟩
  · rw [PT.get_set] at h
    split at h
    · cases h; exact .inr ⟨by assumption, rfl⟩
    · cases h
/-- a slice that was handed in: none, or some of a row of cells -/
def FormOf (W : World) (val : Nat → Value → Prop) (v : Value) : Prop :=
  v = .slice none 0 0 ∨ ∃ b off n cap c ek fz, v = .slice (some ⟨b, off, none⟩) n cap ∧ W.heap[b]? = some (.cells c ek fz) ∧ n ≤ cap ∧ (0 < cap → off + cap ≤ c.size) ∧ ∀ i, i < cap → ∃ x, c[off + i]? = some x ∧ val i x
theorem vr_rows {ρ : Env} {φ : Pl} {b off n cap id r : Nat} (hp : φ id = some ⟨b, off, cap⟩) (h : (ρ.rows r).length = n) (hl : n ≤ cap) : VR ρ φ (.slice id 0 (.rlen r) (.rest 1)) (.slice (some ⟨b, off, none⟩) n cap) := by
  simp only [VR, SI.den, h, Cap.val]
  exact ⟨⟨b, off, cap⟩, hp, by omega, by simpa using hl, by simp⟩
theorem vr_emp {ρ : Env} {φ : Pl} {b off cap id : Nat} (hp : φ id = some ⟨b, 0, off + cap⟩) : VR ρ φ (.eslice id 1) (.slice (some ⟨b, off, none⟩) 0 cap) := by
  simp only [VR]
  exact ⟨⟨b, 0, off + cap⟩, off, cap, hp, Nat.zero_le _, by simp, rfl⟩
theorem vr_nils {ρ : Env} {φ : Pl} : VR ρ φ .nilSlice (.slice none 0 0) := by simp only [VR]
theorem splits_ok {W : World} {ss : List (List UInt8)} {zs : List Int} {v0 v1 : Value} (h0 : FormOf W (fun i x => x = vstr (ss.getD i [])) v0) (h1 : FormOf W (fun i x => x = .int .i64 (zs.getD i 0)) v1) :
    Calls Tryz.prog 3 #[v0, v1] W fun e W' => e = .returned (.bool true) ∧ Kept W W' := by
  have rowL : ∀ {b off n cap : Nat} {c : Array Value}, n ≤ cap → (∀ i, i < cap → ∃ x, c[off + i]? = some x ∧ x = vstr (ss.getD i [])) → ∃ A : List (List UInt8), A.length = n ∧ ∀ i, i < A.length → c[off + i]? = some (vstr (wd A i)) := by
    intro b off n cap c hn hc
    refine ⟨(List.range n).map fun i => ss.getD i [], by simp, fun i hi => ?_⟩
    simp only [List.length_map, List.length_range] at hi
    obtain ⟨x, h1, rfl⟩ := hc i (by omega)
    rw [h1]
    simp [wd, List.getD, List.getElem?_range hi]
  have rowG : ∀ {off n cap : Nat} {c : Array Value}, n ≤ cap → (∀ i, i < cap → ∃ x, c[off + i]? = some x ∧ x = .int .i64 (zs.getD i 0)) → ∃ G : List Int, G.length = n ∧ ∀ i, i < G.length → c[off + i]? = some (.int .i64 (gp G i)) := by
    intro off n cap c hn hc
    refine ⟨(List.range n).map fun i => zs.getD i 0, by simp, fun i hi => ?_⟩
    simp only [List.length_map, List.length_range] at hi
    obtain ⟨x, h1, rfl⟩ := hc i (by omega)
    rw [h1]
    simp [gp, List.getD, List.getElem?_range hi]
  have nonempty : ∀ φ : Pl, ∀ i b, (hpOf [] 66).t.get i = some b → b.owned = false ∧ ∃ L o, φ i = some L ∧ W.heap[L.blk]? = some o ∧ BR (ssEnv [] [] 0 0) φ L b o := fun φ i b h => by cases h
  rcases h0 with rfl | ⟨b, off, n, cap, c, ek, fz, rfl, hb, hn, hcap, hc⟩
  · rcases h1 with rfl | ⟨b2, off2, n2, cap2, c2, ek2, fz2, rfl, hb2, hn2, hcap2, hc2⟩
    · exact znn_law (lw2 (ρ := ssEnv [] [] 0 0) (globSS 0 0 0 0 0 0) (freshSS 0 0 0 0 0 0) (nonempty _)) (VRs.cons vr_nils (VRs.cons vr_nils VRs.nil))
    · by_cases hz : n2 = 0
      · subst hz
        exact zne_law (lw2 (ρ := ssEnv [] [] 0 0) (globSS 0 0 0 b2 0 (off2 + cap2)) (freshSS 0 0 0 b2 0 (off2 + cap2)) (nonempty _)) (VRs.cons vr_nils (VRs.cons (vr_emp (at65 _ _ _ _ _ _)) VRs.nil))
      · obtain ⟨G, hGl, hG⟩ := rowG hn2 hc2
        refine znr_law (lw2 (ρ := ssEnv [] G 0 0) (globSS 0 0 0 b2 off2 cap2) (freshSS 0 0 0 b2 off2 cap2) (fun i d h => ?_)) (VRs.cons vr_nils (VRs.cons (vr_rows (at65 _ _ _ _ _ _) (by rw [← hGl]; exact rl11 G) hn2) VRs.nil))
        obtain ⟨rfl, rfl⟩ := get1 h
        exact ⟨rfl, _, _, at65 _ _ _ _ _ _, hb2, br65 (hcap2 (by omega)) (by omega) hG⟩
  · by_cases hz : n = 0
    · subst hz
      rcases h1 with rfl | ⟨b2, off2, n2, cap2, c2, ek2, fz2, rfl, hb2, hn2, hcap2, hc2⟩
      · exact zen_law (lw2 (ρ := ssEnv [] [] 0 0) (globSS b 0 (off + cap) 0 0 0) (freshSS b 0 (off + cap) 0 0 0) (nonempty _)) (VRs.cons (vr_emp (at64 _ _ _ _ _ _)) (VRs.cons vr_nils VRs.nil))
      · by_cases hz : n2 = 0
        · subst hz
          exact zee_law (lw2 (ρ := ssEnv [] [] 0 0) (globSS b 0 (off + cap) b2 0 (off2 + cap2)) (freshSS b 0 (off + cap) b2 0 (off2 + cap2)) (nonempty _)) (VRs.cons (vr_emp (at64 _ _ _ _ _ _)) (VRs.cons (vr_emp (at65 _ _ _ _ _ _)) VRs.nil))
        · obtain ⟨G, hGl, hG⟩ := rowG hn2 hc2
          refine zer_law (lw2 (ρ := ssEnv [] G 0 0) (globSS b 0 (off + cap) b2 off2 cap2) (freshSS b 0 (off + cap) b2 off2 cap2) (fun i d h => ?_)) (VRs.cons (vr_emp (at64 _ _ _ _ _ _)) (VRs.cons (vr_rows (at65 _ _ _ _ _ _) (by rw [← hGl]; exact rl11 G) hn2) VRs.nil))
          obtain ⟨rfl, rfl⟩ := get1 h
          exact ⟨rfl, _, _, at65 _ _ _ _ _ _, hb2, br65 (hcap2 (by omega)) (by omega) hG⟩
    · obtain ⟨A, hAl, hA⟩ := rowL (b := b) hn hc
      have hA0 : 0 < A.length := by omega
      have va : ∀ (G : List Int) (φ : Pl), φ 64 = some ⟨b, off, cap⟩ → VR (ssEnv A G 0 0) φ (.slice 64 0 (.rlen 10) (.rest 1)) (.slice (some ⟨b, off, none⟩) n cap) := fun G φ hp => vr_rows hp (by rw [← hAl]; exact rows1_lth A) hn
      rcases h1 with rfl | ⟨b2, off2, n2, cap2, c2, ek2, fz2, rfl, hb2, hn2, hcap2, hc2⟩
      · refine sn_law (A := A) (G := []) rfl hA0 (lw2 (globSS b off cap 0 0 0) (freshSS b off cap 0 0 0) (fun i d h => ?_)) (VRs.cons (va _ _ (at64 _ _ _ _ _ _)) (VRs.cons vr_nils VRs.nil))
        obtain ⟨rfl, rfl⟩ := get1 h
        exact ⟨rfl, _, _, at64 _ _ _ _ _ _, hb, br64 (hcap (by omega)) (by omega) hA⟩
      · by_cases hz : n2 = 0
        · subst hz
          refine se_law (A := A) (G := []) rfl hA0 (lw2 (globSS b off cap b2 0 (off2 + cap2)) (freshSS b off cap b2 0 (off2 + cap2)) (fun i d h => ?_)) (VRs.cons (va _ _ (at64 _ _ _ _ _ _)) (VRs.cons (vr_emp (at65 _ _ _ _ _ _)) VRs.nil))
          obtain ⟨rfl, rfl⟩ := get1 h
          exact ⟨rfl, _, _, at64 _ _ _ _ _ _, hb, br64 (hcap (by omega)) (by omega) hA⟩
        · obtain ⟨G, hGl, hG⟩ := rowG hn2 hc2
          refine ss_law (A := A) (G := G) hA0 (lw2 (globSS b off cap b2 off2 cap2) (freshSS b off cap b2 off2 cap2) (fun i d h => ?_)) (VRs.cons (va _ _ (at64 _ _ _ _ _ _)) (VRs.cons (vr_rows (at65 _ _ _ _ _ _) (by rw [← hGl]; exact rl11 G) hn2) VRs.nil))
          rcases get2 h with ⟨rfl, rfl⟩ | ⟨rfl, rfl⟩
          · exact ⟨rfl, _, _, at64 _ _ _ _ _ _, hb, br64 (hcap (by omega)) (by omega) hA⟩
          · exact ⟨rfl, _, _, at65 _ _ _ _ _ _, hb2, br65 (hcap2 (by omega)) (by omega) hG⟩
end Go.Sx
