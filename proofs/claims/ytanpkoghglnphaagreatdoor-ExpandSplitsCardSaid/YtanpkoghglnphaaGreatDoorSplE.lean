import Derived.Test.YtanpkoghglnphaaGreatDoorSplB
import Derived.Test.YtanpkoghglnphaaGreatDoorSplC
import Derived.Test.YtanpkoghglnphaaGreatDoorSplD
import Derived.Test.YtanpkoghglnphaaGreatDoorSplA
import Derived.Test.YtanpkoghglnphaaGreatDoorEnv
namespace Go.Sx
open Go.Proofs
set_option maxRecDepth 100000
def grow (g : Int) : List Value := [.int .i64 g]
def grows (G : List Int) : List (List Value) := G.map grow
theorem rows1_snoc (A : List (List UInt8)) (w : List UInt8) : rows1 (A ++ [w]) = rows1 A ++ [[Value.string ⟨⟨w⟩⟩]] := by simp [rows1, vstr]
theorem rows1_one (w : List UInt8) : rows1 [w] = [[Value.string ⟨⟨w⟩⟩]] := rfl
def ssEnv (A : List (List UInt8)) (G : List Int) (i k : Nat) : Env :=
  { int := fun j => if j = 0 then i else if j = 1 then k else if j = 5 then gp G i else 0
    str := fun j => if j = 7 then (vs A G i).1 else if j = 9 then wd A i else if j = 30 then cur A i k else if j = 51 then (vs A G i).2.getD 0 [] else []
    boo := fun _ => false
    rows := fun j => if j = 10 then rows1 A else if j = 11 then grows G else if j = 21 then rows1 (vs A G i).2 else if j = 22 then rows1 (vs A G i).2 else [] }
theorem ssC_ok (A : List (List UInt8)) (G : List Int) {i : Nat} (k : Nat) (hi : i ≤ 40) : CtxOK (ctxOf Tryz.prog lies18 exts18 [o_sp, o_sm] [p_sh, p_qv]) Tryz.prog (ssEnv A G i k) := by
  obtain ⟨h, h1, h2⟩ := vs_ok A G hi
  have l1 := List.length_pos_iff.2 h1
  have l2 := List.length_pos_iff.2 h2
  have h3 := h.len
  have h4 := h.wlen
  refine ctx18 (orcs_cons (sp_ok (v := (vs A G i).1) (ws := (vs A G i).2) ⟨⟨l2, by omega⟩, fun c hc e => ?_, acc_spl h h1, h1, rfl, rfl⟩) (orcs_cons (sm_ok (ws := (vs A G i).2) rfl rfl rfl l1 h4) orcs_nil)) (pors_cons sh_ok (pors_cons (qv_ok h.bytes (show (vs A G i).1.length ≤ 1000 by omega)) pors_nil))
  rcases h.bytes c hc with g | g
  · simp [gd] at g; omega
  · unfold isBl at g; omega
def ssI (A : List (List UInt8)) (G : List Int) : Nat → Env → Prop
  | 0, ρ => ρ = ssEnv A G 0 0
  | 1, ρ => ∃ i : Nat, i ≤ 40 ∧ i ≤ A.length ∧ acc A G i = ([], []) ∧ ρ = ssEnv A G i 0
  | 2, ρ => ∃ i : Nat, i ≤ 40 ∧ i ≤ A.length ∧ (acc A G i).2 ≠ [] ∧ ρ = ssEnv A G i 0
  | 3, ρ => ∃ i k : Nat, i < 40 ∧ i < A.length ∧ acc A G i = ([], []) ∧ k ≤ (wd A i).length ∧ k ≤ 15 ∧ ρ = ssEnv A G i k
  | 4, ρ => ∃ i k : Nat, i < 40 ∧ i < A.length ∧ (acc A G i).2 ≠ [] ∧ k ≤ (wd A i).length ∧ k ≤ 15 ∧ ρ = ssEnv A G i k
  | _, _ => False
def ssμ : Nat → Env → Nat
  | 0, _ => 2000
  | 1, ρ => (41 - (ρ.int 0).toNat) * 40 + 20
  | 2, ρ => (41 - (ρ.int 0).toNat) * 40 + 20
  | _, ρ => (41 - (ρ.int 0).toNat) * 40 + (16 - (ρ.int 1).toNat)
theorem grow_ok (G : List Int) : ∀ q ∈ grows G, q.length = 1 ∧ ∀ v ∈ q, v.oneCell' = true := by
  intro q hq
  obtain ⟨a, _, rfl⟩ := List.mem_map.1 hq
  exact ⟨rfl, fun v hv => by simp [grow] at hv; subst hv; rfl⟩
theorem grow_get {G : List Int} {i : Nat} {xs : List Value} (h : (grows G)[i]? = some xs) : xs = [.int .i64 (gp G i)] := by
  simp only [grows, List.getElem?_map] at h
  cases ha : G[i]? with
  | none => rw [ha] at h; cases h
  | some a => rw [ha] at h; cases h; simp [grow, gp, List.getD, ha]
theorem wd_get {A : List (List UInt8)} {i : Nat} {xs : List Value} (h : (rows1 A)[i]? = some xs) : xs = [vstr (wd A i)] := rows1_get h
theorem vs_of {A : List (List UInt8)} {G : List Int} {i : Nat} (h : (acc A G i).2 ≠ []) : vs A G i = acc A G i := by rw [vs, if_neg h]
theorem acc_same {A : List (List UInt8)} {G : List Int} {i k : Nat} (h : cur A i k = []) (he : (wd A i).length ≤ k ∨ k = 15) (hk : k ≤ 15) : acc A G (i + 1) = acc A G i := by
  rw [acc, cur_end he hk, if_pos h]
theorem acc_add {A : List (List UInt8)} {G : List Int} {i k : Nat} (h : cur A i k ≠ []) (he : (wd A i).length ≤ k ∨ k = 15) (hk : k ≤ 15) : acc A G (i + 1) = ((acc A G i).1 ++ gapOf G i ++ cur A i k, (acc A G i).2 ++ [cur A i k]) := by
  rw [acc, cur_end he hk, if_neg h]
theorem mu_add (i k : Nat) (h1 : i < 40) (h2 : k ≤ 15) : (41 - (i + 1)) * 40 + 20 < (41 - i) * 40 + (16 - k) := by omega
theorem msk_eq (g : Int) : (intBin .and .i64 g 3).getD 0 = msk g := rfl
theorem rl11 (G : List Int) : (grows G).length = G.length := by simp [grows]

theorem cur_0 {A : List (List UInt8)} {i : Nat} : cur A i 0 = [] := rfl

theorem ssn0 {A : List (List UInt8)} {G : List Int} (_ : True) (hA : 0 < A.length) {ρ : Env} (hi : ssI A G 0 ρ) : OTok (ssI A G) ssμ (fun _ => True) 0 ρ sso0 := by
  replace hi : ρ = ssEnv A G 0 0 := hi
  subst hi
  simp only [sso0, OTok]
  refine ⟨fun g0 => ?_, fun g0 => ?_⟩
  · simp [SB.den, SI.den, intCmp, ltInt_iff, ssEnv] at g0
    refine ⟨fun g1 => ?_, fun g1 => ?_⟩
    · simp [SB.den, SI.den, intCmp, ltInt_iff, ssEnv] at g1
      refine ⟨fun g2 => ?_, fun g2 => ?_⟩
      · simp [SB.den, SI.den, intCmp, ltInt_iff, ssEnv] at g2
        have hk : 0 < (wd A 0).length := by omega
        have c := cur_more hk
        rw [if_pos (show gd ((wd A 0)[0]?.getD 0) = true by simp [gd]; omega)] at c
        refine ⟨ssEnv A G 0 (0 + 1), ?_, ⟨0, 0 + 1, by omega, hA, rfl, by omega, by omega, rfl⟩, by simp [ssμ, ssEnv] <;> omega⟩
        simp [Eqns, Eqn.ok, ssEnv, SI.den, SS.den, SP.den, preCells, RX.flat, RX.ok, AV.val, rows1_lth, rl11, c, cur_0]
        try ((repeat' apply And.intro) <;> first | rfl | omega | exact rows1_ok _ | exact grow_ok _ | exact snoc1 (rows1_ok _) rfl | (intro xs hx; simpa [vstr] using wd_get hx) | (intro xs hx; exact grow_get hx))
      · simp [SB.den, SI.den, intCmp, ltInt_iff, ssEnv] at g2
        refine ⟨fun g3 => ?_, fun g3 => ?_⟩
        · simp [SB.den, SI.den, intCmp, ltInt_iff, ssEnv] at g3
          have hk : 0 < (wd A 0).length := by omega
          have c := cur_more hk
          rw [if_pos (show gd ((wd A 0)[0]?.getD 0) = true by simp [gd]; omega)] at c
          refine ⟨ssEnv A G 0 (0 + 1), ?_, ⟨0, 0 + 1, by omega, hA, rfl, by omega, by omega, rfl⟩, by simp [ssμ, ssEnv] <;> omega⟩
          simp [Eqns, Eqn.ok, ssEnv, SI.den, SS.den, SP.den, preCells, RX.flat, RX.ok, AV.val, rows1_lth, rl11, c, cur_0]
          try ((repeat' apply And.intro) <;> first | rfl | omega | exact rows1_ok _ | exact grow_ok _ | exact snoc1 (rows1_ok _) rfl | (intro xs hx; simpa [vstr] using wd_get hx) | (intro xs hx; exact grow_get hx))
        · simp [SB.den, SI.den, intCmp, ltInt_iff, ssEnv] at g3
          have hk : 0 < (wd A 0).length := by omega
          have c := cur_more hk
          rw [if_neg (show ¬ gd ((wd A 0)[0]?.getD 0) = true by simp [gd]; omega)] at c
          refine ⟨ssEnv A G 0 (0 + 1), ?_, ⟨0, 0 + 1, by omega, hA, rfl, by omega, by omega, rfl⟩, by simp [ssμ, ssEnv] <;> omega⟩
          simp [Eqns, Eqn.ok, ssEnv, SI.den, SS.den, SP.den, preCells, RX.flat, RX.ok, AV.val, rows1_lth, rl11, c, cur_0]
          try ((repeat' apply And.intro) <;> first | rfl | omega | exact rows1_ok _ | exact grow_ok _ | exact snoc1 (rows1_ok _) rfl | (intro xs hx; simpa [vstr] using wd_get hx) | (intro xs hx; exact grow_get hx))
    · simp [SB.den, SI.den, intCmp, ltInt_iff, ssEnv] at g1
      refine ⟨fun g2 => ?_, fun g2 => ?_⟩
      · simp [SB.den, SI.den, intCmp, ltInt_iff, ssEnv] at g2
        refine ⟨fun g3 => ?_, fun g3 => ?_⟩
        · simp [SB.den, SI.den, intCmp, ltInt_iff, ssEnv] at g3
          have hk : 0 < (wd A 0).length := by omega
          have c := cur_more hk
          rw [if_pos (show gd ((wd A 0)[0]?.getD 0) = true by simp [gd]; omega)] at c
          refine ⟨ssEnv A G 0 (0 + 1), ?_, ⟨0, 0 + 1, by omega, hA, rfl, by omega, by omega, rfl⟩, by simp [ssμ, ssEnv] <;> omega⟩
          simp [Eqns, Eqn.ok, ssEnv, SI.den, SS.den, SP.den, preCells, RX.flat, RX.ok, AV.val, rows1_lth, rl11, c, cur_0]
          try ((repeat' apply And.intro) <;> first | rfl | omega | exact rows1_ok _ | exact grow_ok _ | exact snoc1 (rows1_ok _) rfl | (intro xs hx; simpa [vstr] using wd_get hx) | (intro xs hx; exact grow_get hx))
        · simp [SB.den, SI.den, intCmp, ltInt_iff, ssEnv] at g3
          have hk : 0 < (wd A 0).length := by omega
          have c := cur_more hk
          rw [if_neg (show ¬ gd ((wd A 0)[0]?.getD 0) = true by simp [gd]; omega)] at c
          refine ⟨ssEnv A G 0 (0 + 1), ?_, ⟨0, 0 + 1, by omega, hA, rfl, by omega, by omega, rfl⟩, by simp [ssμ, ssEnv] <;> omega⟩
          simp [Eqns, Eqn.ok, ssEnv, SI.den, SS.den, SP.den, preCells, RX.flat, RX.ok, AV.val, rows1_lth, rl11, c, cur_0]
          try ((repeat' apply And.intro) <;> first | rfl | omega | exact rows1_ok _ | exact grow_ok _ | exact snoc1 (rows1_ok _) rfl | (intro xs hx; simpa [vstr] using wd_get hx) | (intro xs hx; exact grow_get hx))
      · simp [SB.den, SI.den, intCmp, ltInt_iff, ssEnv] at g2
        have hk : 0 < (wd A 0).length := by omega
        have c := cur_more hk
        rw [if_neg (show ¬ gd ((wd A 0)[0]?.getD 0) = true by simp [gd]; omega)] at c
        refine ⟨ssEnv A G 0 (0 + 1), ?_, ⟨0, 0 + 1, by omega, hA, rfl, by omega, by omega, rfl⟩, by simp [ssμ, ssEnv] <;> omega⟩
        simp [Eqns, Eqn.ok, ssEnv, SI.den, SS.den, SP.den, preCells, RX.flat, RX.ok, AV.val, rows1_lth, rl11, c, cur_0]
        try ((repeat' apply And.intro) <;> first | rfl | omega | exact rows1_ok _ | exact grow_ok _ | exact snoc1 (rows1_ok _) rfl | (intro xs hx; simpa [vstr] using wd_get hx) | (intro xs hx; exact grow_get hx))
  · simp [SB.den, SI.den, intCmp, ltInt_iff, ssEnv] at g0
    have he : (wd A 0).length ≤ 0 ∨ 0 = 15 := by first | omega | simp_all
    have e := acc_same (G := G) cur_0 he (by omega)
    refine ⟨ssEnv A G (0 + 1) 0, ?_, ⟨0 + 1, by omega, hA, by rw [e]; rfl, rfl⟩, by simp [ssμ, ssEnv] <;> omega⟩
    simp [Eqns, Eqn.ok, ssEnv, SI.den, SS.den, SP.den, preCells, RX.flat, RX.ok, AV.val, rows1_lth, rl11]
    try ((repeat' apply And.intro) <;> first | rfl | omega | exact rows1_ok _ | exact grow_ok _ | exact snoc1 (rows1_ok _) rfl | (intro xs hx; simpa [vstr] using wd_get hx) | (intro xs hx; exact grow_get hx))
theorem ssn1 {A : List (List UInt8)} {G : List Int} (_ : True) (hA : 0 < A.length) {ρ : Env} (hi : ssI A G 1 ρ) : OTok (ssI A G) ssμ (fun _ => True) 1 ρ sso1 := by
  obtain ⟨i, h1, h2, ha, rfl⟩ := hi
  simp only [sso1, OTok]
  refine ⟨fun g0 => ?_, fun g0 => ?_⟩
  · simp [SB.den, SI.den, intCmp, ltInt_iff, ssEnv, rows1_lth] at g0
    refine ⟨fun g1 => ?_, fun g1 => ?_⟩
    · simp [SB.den, SI.den, intCmp, ltInt_iff, ssEnv] at g1
      refine ⟨fun g2 => ?_, fun g2 => ?_⟩
      · simp [SB.den, SI.den, intCmp, ltInt_iff, ssEnv] at g2
        refine ⟨fun g3 => ?_, fun g3 => ?_⟩
        · simp [SB.den, SI.den, intCmp, ltInt_iff, ssEnv] at g3
          refine ⟨fun g4 => ?_, fun g4 => ?_⟩
          · simp [SB.den, SI.den, intCmp, ltInt_iff, ssEnv] at g4
            have hk : 0 < (wd A i).length := by omega
            have c := cur_more hk
            rw [if_pos (show gd ((wd A i)[0]?.getD 0) = true by simp [gd]; omega)] at c
            refine ⟨ssEnv A G i (0 + 1), ?_, ⟨i, 0 + 1, by omega, by omega, ha, by omega, by omega, rfl⟩, by simp [ssμ, ssEnv] <;> omega⟩
            simp [Eqns, Eqn.ok, ssEnv, SI.den, SS.den, SP.den, preCells, RX.flat, RX.ok, AV.val, rows1_lth, rl11, c, cur_0]
            try ((repeat' apply And.intro) <;> first | rfl | omega | exact rows1_ok _ | exact grow_ok _ | exact snoc1 (rows1_ok _) rfl | (intro xs hx; simpa [vstr] using wd_get hx) | (intro xs hx; exact grow_get hx))
          · simp [SB.den, SI.den, intCmp, ltInt_iff, ssEnv] at g4
            refine ⟨fun g5 => ?_, fun g5 => ?_⟩
            · simp [SB.den, SI.den, intCmp, ltInt_iff, ssEnv] at g5
              have hk : 0 < (wd A i).length := by omega
              have c := cur_more hk
              rw [if_pos (show gd ((wd A i)[0]?.getD 0) = true by simp [gd]; omega)] at c
              refine ⟨ssEnv A G i (0 + 1), ?_, ⟨i, 0 + 1, by omega, by omega, ha, by omega, by omega, rfl⟩, by simp [ssμ, ssEnv] <;> omega⟩
              simp [Eqns, Eqn.ok, ssEnv, SI.den, SS.den, SP.den, preCells, RX.flat, RX.ok, AV.val, rows1_lth, rl11, c, cur_0]
              try ((repeat' apply And.intro) <;> first | rfl | omega | exact rows1_ok _ | exact grow_ok _ | exact snoc1 (rows1_ok _) rfl | (intro xs hx; simpa [vstr] using wd_get hx) | (intro xs hx; exact grow_get hx))
            · simp [SB.den, SI.den, intCmp, ltInt_iff, ssEnv] at g5
              have hk : 0 < (wd A i).length := by omega
              have c := cur_more hk
              rw [if_neg (show ¬ gd ((wd A i)[0]?.getD 0) = true by simp [gd]; omega)] at c
              refine ⟨ssEnv A G i (0 + 1), ?_, ⟨i, 0 + 1, by omega, by omega, ha, by omega, by omega, rfl⟩, by simp [ssμ, ssEnv] <;> omega⟩
              simp [Eqns, Eqn.ok, ssEnv, SI.den, SS.den, SP.den, preCells, RX.flat, RX.ok, AV.val, rows1_lth, rl11, c, cur_0]
              try ((repeat' apply And.intro) <;> first | rfl | omega | exact rows1_ok _ | exact grow_ok _ | exact snoc1 (rows1_ok _) rfl | (intro xs hx; simpa [vstr] using wd_get hx) | (intro xs hx; exact grow_get hx))
        · simp [SB.den, SI.den, intCmp, ltInt_iff, ssEnv] at g3
          refine ⟨fun g4 => ?_, fun g4 => ?_⟩
          · simp [SB.den, SI.den, intCmp, ltInt_iff, ssEnv] at g4
            refine ⟨fun g5 => ?_, fun g5 => ?_⟩
            · simp [SB.den, SI.den, intCmp, ltInt_iff, ssEnv] at g5
              have hk : 0 < (wd A i).length := by omega
              have c := cur_more hk
              rw [if_pos (show gd ((wd A i)[0]?.getD 0) = true by simp [gd]; omega)] at c
              refine ⟨ssEnv A G i (0 + 1), ?_, ⟨i, 0 + 1, by omega, by omega, ha, by omega, by omega, rfl⟩, by simp [ssμ, ssEnv] <;> omega⟩
              simp [Eqns, Eqn.ok, ssEnv, SI.den, SS.den, SP.den, preCells, RX.flat, RX.ok, AV.val, rows1_lth, rl11, c, cur_0]
              try ((repeat' apply And.intro) <;> first | rfl | omega | exact rows1_ok _ | exact grow_ok _ | exact snoc1 (rows1_ok _) rfl | (intro xs hx; simpa [vstr] using wd_get hx) | (intro xs hx; exact grow_get hx))
            · simp [SB.den, SI.den, intCmp, ltInt_iff, ssEnv] at g5
              have hk : 0 < (wd A i).length := by omega
              have c := cur_more hk
              rw [if_neg (show ¬ gd ((wd A i)[0]?.getD 0) = true by simp [gd]; omega)] at c
              refine ⟨ssEnv A G i (0 + 1), ?_, ⟨i, 0 + 1, by omega, by omega, ha, by omega, by omega, rfl⟩, by simp [ssμ, ssEnv] <;> omega⟩
              simp [Eqns, Eqn.ok, ssEnv, SI.den, SS.den, SP.den, preCells, RX.flat, RX.ok, AV.val, rows1_lth, rl11, c, cur_0]
              try ((repeat' apply And.intro) <;> first | rfl | omega | exact rows1_ok _ | exact grow_ok _ | exact snoc1 (rows1_ok _) rfl | (intro xs hx; simpa [vstr] using wd_get hx) | (intro xs hx; exact grow_get hx))
          · simp [SB.den, SI.den, intCmp, ltInt_iff, ssEnv] at g4
            have hk : 0 < (wd A i).length := by omega
            have c := cur_more hk
            rw [if_neg (show ¬ gd ((wd A i)[0]?.getD 0) = true by simp [gd]; omega)] at c
            refine ⟨ssEnv A G i (0 + 1), ?_, ⟨i, 0 + 1, by omega, by omega, ha, by omega, by omega, rfl⟩, by simp [ssμ, ssEnv] <;> omega⟩
            simp [Eqns, Eqn.ok, ssEnv, SI.den, SS.den, SP.den, preCells, RX.flat, RX.ok, AV.val, rows1_lth, rl11, c, cur_0]
            try ((repeat' apply And.intro) <;> first | rfl | omega | exact rows1_ok _ | exact grow_ok _ | exact snoc1 (rows1_ok _) rfl | (intro xs hx; simpa [vstr] using wd_get hx) | (intro xs hx; exact grow_get hx))
      · simp [SB.den, SI.den, intCmp, ltInt_iff, ssEnv] at g2
        have he : (wd A i).length ≤ 0 ∨ 0 = 15 := by first | omega | simp_all
        have e := acc_same (G := G) cur_0 he (by omega)
        refine ⟨ssEnv A G (i + 1) 0, ?_, ⟨i + 1, by omega, by omega, by rw [e]; exact ha, rfl⟩, by simp [ssμ, ssEnv] <;> omega⟩
        simp [Eqns, Eqn.ok, ssEnv, SI.den, SS.den, SP.den, preCells, RX.flat, RX.ok, AV.val, rows1_lth, rl11]
        try ((repeat' apply And.intro) <;> first | rfl | omega | exact rows1_ok _ | exact grow_ok _ | exact snoc1 (rows1_ok _) rfl | (intro xs hx; simpa [vstr] using wd_get hx) | (intro xs hx; exact grow_get hx))
    · simp [SB.den, SI.den, intCmp, ltInt_iff, ssEnv] at g1
      exact ⟨ssEnv A G i 0, eqns_nl, trivial⟩
  · simp [SB.den, SI.den, intCmp, ltInt_iff, ssEnv, rows1_lth] at g0
    exact ⟨ssEnv A G i 0, eqns_nl, trivial⟩
theorem ssn2 {A : List (List UInt8)} {G : List Int} (_ : True) (hA : 0 < A.length) {ρ : Env} (hi : ssI A G 2 ρ) : OTok (ssI A G) ssμ (fun _ => True) 2 ρ sso2 := by
  obtain ⟨i, h1, h2, ha, rfl⟩ := hi
  simp only [sso2, OTok]
  refine ⟨fun g0 => ?_, fun g0 => ?_⟩
  · simp [SB.den, SI.den, intCmp, ltInt_iff, ssEnv, rows1_lth] at g0
    refine ⟨fun g1 => ?_, fun g1 => ?_⟩
    · simp [SB.den, SI.den, intCmp, ltInt_iff, ssEnv] at g1
      refine ⟨fun g2 => ?_, fun g2 => ?_⟩
      · simp [SB.den, SI.den, intCmp, ltInt_iff, ssEnv] at g2
        refine ⟨fun g3 => ?_, fun g3 => ?_⟩
        · simp [SB.den, SI.den, intCmp, ltInt_iff, ssEnv] at g3
          refine ⟨fun g4 => ?_, fun g4 => ?_⟩
          · simp [SB.den, SI.den, intCmp, ltInt_iff, ssEnv] at g4
            have hk : 0 < (wd A i).length := by omega
            have c := cur_more hk
            rw [if_pos (show gd ((wd A i)[0]?.getD 0) = true by simp [gd]; omega)] at c
            refine ⟨ssEnv A G i (0 + 1), ?_, ⟨i, 0 + 1, by omega, by omega, ha, by omega, by omega, rfl⟩, by simp [ssμ, ssEnv] <;> omega⟩
            simp [Eqns, Eqn.ok, ssEnv, SI.den, SS.den, SP.den, preCells, RX.flat, RX.ok, AV.val, rows1_lth, rl11, c, cur_0]
            try ((repeat' apply And.intro) <;> first | rfl | omega | exact rows1_ok _ | exact grow_ok _ | exact snoc1 (rows1_ok _) rfl | (intro xs hx; simpa [vstr] using wd_get hx) | (intro xs hx; exact grow_get hx))
          · simp [SB.den, SI.den, intCmp, ltInt_iff, ssEnv] at g4
            refine ⟨fun g5 => ?_, fun g5 => ?_⟩
            · simp [SB.den, SI.den, intCmp, ltInt_iff, ssEnv] at g5
              have hk : 0 < (wd A i).length := by omega
              have c := cur_more hk
              rw [if_pos (show gd ((wd A i)[0]?.getD 0) = true by simp [gd]; omega)] at c
              refine ⟨ssEnv A G i (0 + 1), ?_, ⟨i, 0 + 1, by omega, by omega, ha, by omega, by omega, rfl⟩, by simp [ssμ, ssEnv] <;> omega⟩
              simp [Eqns, Eqn.ok, ssEnv, SI.den, SS.den, SP.den, preCells, RX.flat, RX.ok, AV.val, rows1_lth, rl11, c, cur_0]
              try ((repeat' apply And.intro) <;> first | rfl | omega | exact rows1_ok _ | exact grow_ok _ | exact snoc1 (rows1_ok _) rfl | (intro xs hx; simpa [vstr] using wd_get hx) | (intro xs hx; exact grow_get hx))
            · simp [SB.den, SI.den, intCmp, ltInt_iff, ssEnv] at g5
              have hk : 0 < (wd A i).length := by omega
              have c := cur_more hk
              rw [if_neg (show ¬ gd ((wd A i)[0]?.getD 0) = true by simp [gd]; omega)] at c
              refine ⟨ssEnv A G i (0 + 1), ?_, ⟨i, 0 + 1, by omega, by omega, ha, by omega, by omega, rfl⟩, by simp [ssμ, ssEnv] <;> omega⟩
              simp [Eqns, Eqn.ok, ssEnv, SI.den, SS.den, SP.den, preCells, RX.flat, RX.ok, AV.val, rows1_lth, rl11, c, cur_0]
              try ((repeat' apply And.intro) <;> first | rfl | omega | exact rows1_ok _ | exact grow_ok _ | exact snoc1 (rows1_ok _) rfl | (intro xs hx; simpa [vstr] using wd_get hx) | (intro xs hx; exact grow_get hx))
        · simp [SB.den, SI.den, intCmp, ltInt_iff, ssEnv] at g3
          refine ⟨fun g4 => ?_, fun g4 => ?_⟩
          · simp [SB.den, SI.den, intCmp, ltInt_iff, ssEnv] at g4
            refine ⟨fun g5 => ?_, fun g5 => ?_⟩
            · simp [SB.den, SI.den, intCmp, ltInt_iff, ssEnv] at g5
              have hk : 0 < (wd A i).length := by omega
              have c := cur_more hk
              rw [if_pos (show gd ((wd A i)[0]?.getD 0) = true by simp [gd]; omega)] at c
              refine ⟨ssEnv A G i (0 + 1), ?_, ⟨i, 0 + 1, by omega, by omega, ha, by omega, by omega, rfl⟩, by simp [ssμ, ssEnv] <;> omega⟩
              simp [Eqns, Eqn.ok, ssEnv, SI.den, SS.den, SP.den, preCells, RX.flat, RX.ok, AV.val, rows1_lth, rl11, c, cur_0]
              try ((repeat' apply And.intro) <;> first | rfl | omega | exact rows1_ok _ | exact grow_ok _ | exact snoc1 (rows1_ok _) rfl | (intro xs hx; simpa [vstr] using wd_get hx) | (intro xs hx; exact grow_get hx))
            · simp [SB.den, SI.den, intCmp, ltInt_iff, ssEnv] at g5
              have hk : 0 < (wd A i).length := by omega
              have c := cur_more hk
              rw [if_neg (show ¬ gd ((wd A i)[0]?.getD 0) = true by simp [gd]; omega)] at c
              refine ⟨ssEnv A G i (0 + 1), ?_, ⟨i, 0 + 1, by omega, by omega, ha, by omega, by omega, rfl⟩, by simp [ssμ, ssEnv] <;> omega⟩
              simp [Eqns, Eqn.ok, ssEnv, SI.den, SS.den, SP.den, preCells, RX.flat, RX.ok, AV.val, rows1_lth, rl11, c, cur_0]
              try ((repeat' apply And.intro) <;> first | rfl | omega | exact rows1_ok _ | exact grow_ok _ | exact snoc1 (rows1_ok _) rfl | (intro xs hx; simpa [vstr] using wd_get hx) | (intro xs hx; exact grow_get hx))
          · simp [SB.den, SI.den, intCmp, ltInt_iff, ssEnv] at g4
            have hk : 0 < (wd A i).length := by omega
            have c := cur_more hk
            rw [if_neg (show ¬ gd ((wd A i)[0]?.getD 0) = true by simp [gd]; omega)] at c
            refine ⟨ssEnv A G i (0 + 1), ?_, ⟨i, 0 + 1, by omega, by omega, ha, by omega, by omega, rfl⟩, by simp [ssμ, ssEnv] <;> omega⟩
            simp [Eqns, Eqn.ok, ssEnv, SI.den, SS.den, SP.den, preCells, RX.flat, RX.ok, AV.val, rows1_lth, rl11, c, cur_0]
            try ((repeat' apply And.intro) <;> first | rfl | omega | exact rows1_ok _ | exact grow_ok _ | exact snoc1 (rows1_ok _) rfl | (intro xs hx; simpa [vstr] using wd_get hx) | (intro xs hx; exact grow_get hx))
      · simp [SB.den, SI.den, intCmp, ltInt_iff, ssEnv] at g2
        have he : (wd A i).length ≤ 0 ∨ 0 = 15 := by first | omega | simp_all
        have e := acc_same (G := G) cur_0 he (by omega)
        have e2 : vs A G (i + 1) = vs A G i := by rw [vs_of (by rw [e]; exact ha), vs_of ha, e]
        refine ⟨ssEnv A G (i + 1) 0, ?_, ⟨i + 1, by omega, by omega, by rw [e]; exact ha, rfl⟩, by simp [ssμ, ssEnv] <;> omega⟩
        simp [Eqns, Eqn.ok, ssEnv, SI.den, SS.den, SP.den, preCells, RX.flat, RX.ok, AV.val, rows1_lth, rl11, e2]
        try ((repeat' apply And.intro) <;> first | rfl | omega | exact rows1_ok _ | exact grow_ok _ | exact snoc1 (rows1_ok _) rfl | (intro xs hx; simpa [vstr] using wd_get hx) | (intro xs hx; exact grow_get hx))
    · simp [SB.den, SI.den, intCmp, ltInt_iff, ssEnv] at g1
      exact ⟨ssEnv A G i 0, eqns_nl, trivial⟩
  · simp [SB.den, SI.den, intCmp, ltInt_iff, ssEnv, rows1_lth] at g0
    exact ⟨ssEnv A G i 0, eqns_nl, trivial⟩
theorem ssn3 {A : List (List UInt8)} {G : List Int} (_ : True) (hA : 0 < A.length) {ρ : Env} (hi : ssI A G 3 ρ) : OTok (ssI A G) ssμ (fun _ => True) 3 ρ sso3 := by
  obtain ⟨i, k, h1, h2, ha, h3, h4, rfl⟩ := hi
  simp only [sso3, OTok]
  refine ⟨fun g0 => ?_, fun g0 => ?_⟩
  · simp [SB.den, SI.den, intCmp, ltInt_iff, ssEnv] at g0
    refine ⟨fun g1 => ?_, fun g1 => ?_⟩
    · simp [SB.den, SI.den, intCmp, ltInt_iff, ssEnv] at g1
      refine ⟨fun g2 => ?_, fun g2 => ?_⟩
      · simp [SB.den, SI.den, intCmp, ltInt_iff, ssEnv] at g2
        refine ⟨fun g3 => ?_, fun g3 => ?_⟩
        · simp [SB.den, SI.den, intCmp, ltInt_iff, ssEnv] at g3
          have hk : k < (wd A i).length := by omega
          have c := cur_more hk
          rw [if_pos (show gd ((wd A i)[k]?.getD 0) = true by simp [gd]; omega)] at c
          refine ⟨ssEnv A G i (k + 1), ?_, ⟨i, k + 1, by omega, by omega, ha, by omega, by omega, rfl⟩, by simp [ssμ, ssEnv] <;> omega⟩
          simp [Eqns, Eqn.ok, ssEnv, SI.den, SS.den, SP.den, preCells, RX.flat, RX.ok, AV.val, rows1_lth, rl11, c]
          try ((repeat' apply And.intro) <;> first | rfl | omega | exact rows1_ok _ | exact grow_ok _ | exact snoc1 (rows1_ok _) rfl | (intro xs hx; simpa [vstr] using wd_get hx) | (intro xs hx; exact grow_get hx))
        · simp [SB.den, SI.den, intCmp, ltInt_iff, ssEnv] at g3
          refine ⟨fun g4 => ?_, fun g4 => ?_⟩
          · simp [SB.den, SI.den, intCmp, ltInt_iff, ssEnv] at g4
            have hk : k < (wd A i).length := by omega
            have c := cur_more hk
            rw [if_pos (show gd ((wd A i)[k]?.getD 0) = true by simp [gd]; omega)] at c
            refine ⟨ssEnv A G i (k + 1), ?_, ⟨i, k + 1, by omega, by omega, ha, by omega, by omega, rfl⟩, by simp [ssμ, ssEnv] <;> omega⟩
            simp [Eqns, Eqn.ok, ssEnv, SI.den, SS.den, SP.den, preCells, RX.flat, RX.ok, AV.val, rows1_lth, rl11, c]
            try ((repeat' apply And.intro) <;> first | rfl | omega | exact rows1_ok _ | exact grow_ok _ | exact snoc1 (rows1_ok _) rfl | (intro xs hx; simpa [vstr] using wd_get hx) | (intro xs hx; exact grow_get hx))
          · simp [SB.den, SI.den, intCmp, ltInt_iff, ssEnv] at g4
            have hk : k < (wd A i).length := by omega
            have c := cur_more hk
            rw [if_neg (show ¬ gd ((wd A i)[k]?.getD 0) = true by simp [gd]; omega)] at c
            refine ⟨ssEnv A G i (k + 1), ?_, ⟨i, k + 1, by omega, by omega, ha, by omega, by omega, rfl⟩, by simp [ssμ, ssEnv] <;> omega⟩
            simp [Eqns, Eqn.ok, ssEnv, SI.den, SS.den, SP.den, preCells, RX.flat, RX.ok, AV.val, rows1_lth, rl11, c]
            try ((repeat' apply And.intro) <;> first | rfl | omega | exact rows1_ok _ | exact grow_ok _ | exact snoc1 (rows1_ok _) rfl | (intro xs hx; simpa [vstr] using wd_get hx) | (intro xs hx; exact grow_get hx))
      · simp [SB.den, SI.den, intCmp, ltInt_iff, ssEnv] at g2
        refine ⟨fun g3 => ?_, fun g3 => ?_⟩
        · simp [SB.den, SI.den, intCmp, ltInt_iff, ssEnv] at g3
          refine ⟨fun g4 => ?_, fun g4 => ?_⟩
          · simp [SB.den, SI.den, intCmp, ltInt_iff, ssEnv] at g4
            have hk : k < (wd A i).length := by omega
            have c := cur_more hk
            rw [if_pos (show gd ((wd A i)[k]?.getD 0) = true by simp [gd]; omega)] at c
            refine ⟨ssEnv A G i (k + 1), ?_, ⟨i, k + 1, by omega, by omega, ha, by omega, by omega, rfl⟩, by simp [ssμ, ssEnv] <;> omega⟩
            simp [Eqns, Eqn.ok, ssEnv, SI.den, SS.den, SP.den, preCells, RX.flat, RX.ok, AV.val, rows1_lth, rl11, c]
            try ((repeat' apply And.intro) <;> first | rfl | omega | exact rows1_ok _ | exact grow_ok _ | exact snoc1 (rows1_ok _) rfl | (intro xs hx; simpa [vstr] using wd_get hx) | (intro xs hx; exact grow_get hx))
          · simp [SB.den, SI.den, intCmp, ltInt_iff, ssEnv] at g4
            have hk : k < (wd A i).length := by omega
            have c := cur_more hk
            rw [if_neg (show ¬ gd ((wd A i)[k]?.getD 0) = true by simp [gd]; omega)] at c
            refine ⟨ssEnv A G i (k + 1), ?_, ⟨i, k + 1, by omega, by omega, ha, by omega, by omega, rfl⟩, by simp [ssμ, ssEnv] <;> omega⟩
            simp [Eqns, Eqn.ok, ssEnv, SI.den, SS.den, SP.den, preCells, RX.flat, RX.ok, AV.val, rows1_lth, rl11, c]
            try ((repeat' apply And.intro) <;> first | rfl | omega | exact rows1_ok _ | exact grow_ok _ | exact snoc1 (rows1_ok _) rfl | (intro xs hx; simpa [vstr] using wd_get hx) | (intro xs hx; exact grow_get hx))
        · simp [SB.den, SI.den, intCmp, ltInt_iff, ssEnv] at g3
          have hk : k < (wd A i).length := by omega
          have c := cur_more hk
          rw [if_neg (show ¬ gd ((wd A i)[k]?.getD 0) = true by simp [gd]; omega)] at c
          refine ⟨ssEnv A G i (k + 1), ?_, ⟨i, k + 1, by omega, by omega, ha, by omega, by omega, rfl⟩, by simp [ssμ, ssEnv] <;> omega⟩
          simp [Eqns, Eqn.ok, ssEnv, SI.den, SS.den, SP.den, preCells, RX.flat, RX.ok, AV.val, rows1_lth, rl11, c]
          try ((repeat' apply And.intro) <;> first | rfl | omega | exact rows1_ok _ | exact grow_ok _ | exact snoc1 (rows1_ok _) rfl | (intro xs hx; simpa [vstr] using wd_get hx) | (intro xs hx; exact grow_get hx))
    · simp [SB.den, SI.den, intCmp, ltInt_iff, ssEnv] at g1
      refine ⟨fun g2 => ?_, fun g2 => ?_⟩
      · simp [SB.den, SI.den, intCmp, eqInt_iff, ssEnv] at g2
        have he : (wd A i).length ≤ k ∨ k = 15 := by omega
        have e := acc_same (G := G) (by assumption) he (by omega)
        refine ⟨ssEnv A G (i + 1) 0, ?_, ⟨i + 1, by omega, by omega, by rw [e]; exact ha, rfl⟩, by simp [ssμ, ssEnv] <;> omega⟩
        simp [Eqns, Eqn.ok, ssEnv, SI.den, SS.den, SP.den, preCells, RX.flat, RX.ok, AV.val, rows1_lth, rl11]
        try ((repeat' apply And.intro) <;> first | rfl | omega | exact rows1_ok _ | exact grow_ok _ | exact snoc1 (rows1_ok _) rfl | (intro xs hx; simpa [vstr] using wd_get hx) | (intro xs hx; exact grow_get hx))
      · simp [SB.den, SI.den, intCmp, eqInt_iff, ssEnv] at g2
        refine ⟨fun g3 => ?_, fun g3 => ?_⟩
        · simp [SB.den, SI.den, intCmp, ltInt_iff, ssEnv, rl11] at g3
          refine ⟨fun g4 => ?_, fun g4 => ?_⟩
          · simp [SB.den, SI.den, intCmp, ltInt_iff, ssEnv, msk_eq] at g4
            have he : (wd A i).length ≤ k ∨ k = 15 := by omega
            have e := acc_add (G := G) (by assumption) he (by omega)
            have hg : gapOf G i = [32] := by unfold gapOf; (repeat' split) <;> first | rfl | omega | (simp_all; done)
            rw [hg] at e
            have e2 : vs A G (i + 1) = acc A G (i + 1) := vs_of (by rw [e]; simp)
            rw [e] at e2
            rw [ha] at e2
            refine ⟨ssEnv A G (i + 1) 0, ?_, ⟨i + 1, by omega, by omega, by rw [e]; simp, rfl⟩, by simp [ssμ, ssEnv] <;> omega⟩
            simp [Eqns, Eqn.ok, ssEnv, SI.den, SS.den, SP.den, preCells, RX.flat, RX.ok, AV.val, rows1_one, rows1_lth, rl11, e2]
            try ((repeat' apply And.intro) <;> first | rfl | omega | exact rows1_ok _ | exact grow_ok _ | exact snoc1 (rows1_ok _) rfl | (intro xs hx; simpa [vstr] using wd_get hx) | (intro xs hx; exact grow_get hx))
          · simp [SB.den, SI.den, intCmp, ltInt_iff, ssEnv, msk_eq] at g4
            refine ⟨fun g5 => ?_, fun g5 => ?_⟩
            · simp [SB.den, SI.den, intCmp, ltInt_iff, ssEnv, msk_eq] at g5
              have he : (wd A i).length ≤ k ∨ k = 15 := by omega
              have e := acc_add (G := G) (by assumption) he (by omega)
              have hg : gapOf G i = [9] := by unfold gapOf; (repeat' split) <;> first | rfl | omega | (simp_all; done)
              rw [hg] at e
              have e2 : vs A G (i + 1) = acc A G (i + 1) := vs_of (by rw [e]; simp)
              rw [e] at e2
              rw [ha] at e2
              refine ⟨ssEnv A G (i + 1) 0, ?_, ⟨i + 1, by omega, by omega, by rw [e]; simp, rfl⟩, by simp [ssμ, ssEnv] <;> omega⟩
              simp [Eqns, Eqn.ok, ssEnv, SI.den, SS.den, SP.den, preCells, RX.flat, RX.ok, AV.val, rows1_one, rows1_lth, rl11, e2]
              try ((repeat' apply And.intro) <;> first | rfl | omega | exact rows1_ok _ | exact grow_ok _ | exact snoc1 (rows1_ok _) rfl | (intro xs hx; simpa [vstr] using wd_get hx) | (intro xs hx; exact grow_get hx))
            · simp [SB.den, SI.den, intCmp, ltInt_iff, ssEnv, msk_eq] at g5
              refine ⟨fun g6 => ?_, fun g6 => ?_⟩
              · simp [SB.den, SI.den, intCmp, ltInt_iff, ssEnv, msk_eq] at g6
                have he : (wd A i).length ≤ k ∨ k = 15 := by omega
                have e := acc_add (G := G) (by assumption) he (by omega)
                have hg : gapOf G i = [10] := by unfold gapOf; (repeat' split) <;> first | rfl | omega | (simp_all; done)
                rw [hg] at e
                have e2 : vs A G (i + 1) = acc A G (i + 1) := vs_of (by rw [e]; simp)
                rw [e] at e2
                rw [ha] at e2
                refine ⟨ssEnv A G (i + 1) 0, ?_, ⟨i + 1, by omega, by omega, by rw [e]; simp, rfl⟩, by simp [ssμ, ssEnv] <;> omega⟩
                simp [Eqns, Eqn.ok, ssEnv, SI.den, SS.den, SP.den, preCells, RX.flat, RX.ok, AV.val, rows1_one, rows1_lth, rl11, e2]
                try ((repeat' apply And.intro) <;> first | rfl | omega | exact rows1_ok _ | exact grow_ok _ | exact snoc1 (rows1_ok _) rfl | (intro xs hx; simpa [vstr] using wd_get hx) | (intro xs hx; exact grow_get hx))
              · simp [SB.den, SI.den, intCmp, ltInt_iff, ssEnv, msk_eq] at g6
                have he : (wd A i).length ≤ k ∨ k = 15 := by omega
                have e := acc_add (G := G) (by assumption) he (by omega)
                have hg : gapOf G i = [32, 32, 10, 9] := by unfold gapOf; (repeat' split) <;> first | rfl | omega | (simp_all; done)
                rw [hg] at e
                have e2 : vs A G (i + 1) = acc A G (i + 1) := vs_of (by rw [e]; simp)
                rw [e] at e2
                rw [ha] at e2
                refine ⟨ssEnv A G (i + 1) 0, ?_, ⟨i + 1, by omega, by omega, by rw [e]; simp, rfl⟩, by simp [ssμ, ssEnv] <;> omega⟩
                simp [Eqns, Eqn.ok, ssEnv, SI.den, SS.den, SP.den, preCells, RX.flat, RX.ok, AV.val, rows1_one, rows1_lth, rl11, e2]
                try ((repeat' apply And.intro) <;> first | rfl | omega | exact rows1_ok _ | exact grow_ok _ | exact snoc1 (rows1_ok _) rfl | (intro xs hx; simpa [vstr] using wd_get hx) | (intro xs hx; exact grow_get hx))
        · simp [SB.den, SI.den, intCmp, ltInt_iff, ssEnv, rl11] at g3
          have he : (wd A i).length ≤ k ∨ k = 15 := by omega
          have e := acc_add (G := G) (by assumption) he (by omega)
          have hg : gapOf G i = [32] := by unfold gapOf; (repeat' split) <;> first | rfl | omega | (simp_all; done)
          rw [hg] at e
          have e2 : vs A G (i + 1) = acc A G (i + 1) := vs_of (by rw [e]; simp)
          rw [e] at e2
          rw [ha] at e2
          refine ⟨ssEnv A G (i + 1) 0, ?_, ⟨i + 1, by omega, by omega, by rw [e]; simp, rfl⟩, by simp [ssμ, ssEnv] <;> omega⟩
          simp [Eqns, Eqn.ok, ssEnv, SI.den, SS.den, SP.den, preCells, RX.flat, RX.ok, AV.val, rows1_one, rows1_lth, rl11, e2]
          try ((repeat' apply And.intro) <;> first | rfl | omega | exact rows1_ok _ | exact grow_ok _ | exact snoc1 (rows1_ok _) rfl | (intro xs hx; simpa [vstr] using wd_get hx) | (intro xs hx; exact grow_get hx))
  · simp [SB.den, SI.den, intCmp, ltInt_iff, ssEnv] at g0
    refine ⟨fun g1 => ?_, fun g1 => ?_⟩
    · simp [SB.den, SI.den, intCmp, eqInt_iff, ssEnv] at g1
      have he : (wd A i).length ≤ k ∨ k = 15 := by omega
      have e := acc_same (G := G) (by assumption) he (by omega)
      refine ⟨ssEnv A G (i + 1) 0, ?_, ⟨i + 1, by omega, by omega, by rw [e]; exact ha, rfl⟩, by simp [ssμ, ssEnv] <;> omega⟩
      simp [Eqns, Eqn.ok, ssEnv, SI.den, SS.den, SP.den, preCells, RX.flat, RX.ok, AV.val, rows1_lth, rl11]
      try ((repeat' apply And.intro) <;> first | rfl | omega | exact rows1_ok _ | exact grow_ok _ | exact snoc1 (rows1_ok _) rfl | (intro xs hx; simpa [vstr] using wd_get hx) | (intro xs hx; exact grow_get hx))
    · simp [SB.den, SI.den, intCmp, eqInt_iff, ssEnv] at g1
      refine ⟨fun g2 => ?_, fun g2 => ?_⟩
      · simp [SB.den, SI.den, intCmp, ltInt_iff, ssEnv, rl11] at g2
        refine ⟨fun g3 => ?_, fun g3 => ?_⟩
        · simp [SB.den, SI.den, intCmp, ltInt_iff, ssEnv, msk_eq] at g3
          have he : (wd A i).length ≤ k ∨ k = 15 := by omega
          have e := acc_add (G := G) (by assumption) he (by omega)
          have hg : gapOf G i = [32] := by unfold gapOf; (repeat' split) <;> first | rfl | omega | (simp_all; done)
          rw [hg] at e
          have e2 : vs A G (i + 1) = acc A G (i + 1) := vs_of (by rw [e]; simp)
          rw [e] at e2
          rw [ha] at e2
          refine ⟨ssEnv A G (i + 1) 0, ?_, ⟨i + 1, by omega, by omega, by rw [e]; simp, rfl⟩, by simp [ssμ, ssEnv] <;> omega⟩
          simp [Eqns, Eqn.ok, ssEnv, SI.den, SS.den, SP.den, preCells, RX.flat, RX.ok, AV.val, rows1_one, rows1_lth, rl11, e2]
          try ((repeat' apply And.intro) <;> first | rfl | omega | exact rows1_ok _ | exact grow_ok _ | exact snoc1 (rows1_ok _) rfl | (intro xs hx; simpa [vstr] using wd_get hx) | (intro xs hx; exact grow_get hx))
        · simp [SB.den, SI.den, intCmp, ltInt_iff, ssEnv, msk_eq] at g3
          refine ⟨fun g4 => ?_, fun g4 => ?_⟩
          · simp [SB.den, SI.den, intCmp, ltInt_iff, ssEnv, msk_eq] at g4
            have he : (wd A i).length ≤ k ∨ k = 15 := by omega
            have e := acc_add (G := G) (by assumption) he (by omega)
            have hg : gapOf G i = [9] := by unfold gapOf; (repeat' split) <;> first | rfl | omega | (simp_all; done)
            rw [hg] at e
            have e2 : vs A G (i + 1) = acc A G (i + 1) := vs_of (by rw [e]; simp)
            rw [e] at e2
            rw [ha] at e2
            refine ⟨ssEnv A G (i + 1) 0, ?_, ⟨i + 1, by omega, by omega, by rw [e]; simp, rfl⟩, by simp [ssμ, ssEnv] <;> omega⟩
            simp [Eqns, Eqn.ok, ssEnv, SI.den, SS.den, SP.den, preCells, RX.flat, RX.ok, AV.val, rows1_one, rows1_lth, rl11, e2]
            try ((repeat' apply And.intro) <;> first | rfl | omega | exact rows1_ok _ | exact grow_ok _ | exact snoc1 (rows1_ok _) rfl | (intro xs hx; simpa [vstr] using wd_get hx) | (intro xs hx; exact grow_get hx))
          · simp [SB.den, SI.den, intCmp, ltInt_iff, ssEnv, msk_eq] at g4
            refine ⟨fun g5 => ?_, fun g5 => ?_⟩
            · simp [SB.den, SI.den, intCmp, ltInt_iff, ssEnv, msk_eq] at g5
              have he : (wd A i).length ≤ k ∨ k = 15 := by omega
              have e := acc_add (G := G) (by assumption) he (by omega)
              have hg : gapOf G i = [10] := by unfold gapOf; (repeat' split) <;> first | rfl | omega | (simp_all; done)
              rw [hg] at e
              have e2 : vs A G (i + 1) = acc A G (i + 1) := vs_of (by rw [e]; simp)
              rw [e] at e2
              rw [ha] at e2
              refine ⟨ssEnv A G (i + 1) 0, ?_, ⟨i + 1, by omega, by omega, by rw [e]; simp, rfl⟩, by simp [ssμ, ssEnv] <;> omega⟩
              simp [Eqns, Eqn.ok, ssEnv, SI.den, SS.den, SP.den, preCells, RX.flat, RX.ok, AV.val, rows1_one, rows1_lth, rl11, e2]
              try ((repeat' apply And.intro) <;> first | rfl | omega | exact rows1_ok _ | exact grow_ok _ | exact snoc1 (rows1_ok _) rfl | (intro xs hx; simpa [vstr] using wd_get hx) | (intro xs hx; exact grow_get hx))
            · simp [SB.den, SI.den, intCmp, ltInt_iff, ssEnv, msk_eq] at g5
              have he : (wd A i).length ≤ k ∨ k = 15 := by omega
              have e := acc_add (G := G) (by assumption) he (by omega)
              have hg : gapOf G i = [32, 32, 10, 9] := by unfold gapOf; (repeat' split) <;> first | rfl | omega | (simp_all; done)
              rw [hg] at e
              have e2 : vs A G (i + 1) = acc A G (i + 1) := vs_of (by rw [e]; simp)
              rw [e] at e2
              rw [ha] at e2
              refine ⟨ssEnv A G (i + 1) 0, ?_, ⟨i + 1, by omega, by omega, by rw [e]; simp, rfl⟩, by simp [ssμ, ssEnv] <;> omega⟩
              simp [Eqns, Eqn.ok, ssEnv, SI.den, SS.den, SP.den, preCells, RX.flat, RX.ok, AV.val, rows1_one, rows1_lth, rl11, e2]
              try ((repeat' apply And.intro) <;> first | rfl | omega | exact rows1_ok _ | exact grow_ok _ | exact snoc1 (rows1_ok _) rfl | (intro xs hx; simpa [vstr] using wd_get hx) | (intro xs hx; exact grow_get hx))
      · simp [SB.den, SI.den, intCmp, ltInt_iff, ssEnv, rl11] at g2
        have he : (wd A i).length ≤ k ∨ k = 15 := by omega
        have e := acc_add (G := G) (by assumption) he (by omega)
        have hg : gapOf G i = [32] := by unfold gapOf; (repeat' split) <;> first | rfl | omega | (simp_all; done)
        rw [hg] at e
        have e2 : vs A G (i + 1) = acc A G (i + 1) := vs_of (by rw [e]; simp)
        rw [e] at e2
        rw [ha] at e2
        refine ⟨ssEnv A G (i + 1) 0, ?_, ⟨i + 1, by omega, by omega, by rw [e]; simp, rfl⟩, by simp [ssμ, ssEnv] <;> omega⟩
        simp [Eqns, Eqn.ok, ssEnv, SI.den, SS.den, SP.den, preCells, RX.flat, RX.ok, AV.val, rows1_one, rows1_lth, rl11, e2]
        try ((repeat' apply And.intro) <;> first | rfl | omega | exact rows1_ok _ | exact grow_ok _ | exact snoc1 (rows1_ok _) rfl | (intro xs hx; simpa [vstr] using wd_get hx) | (intro xs hx; exact grow_get hx))
theorem ssn4 {A : List (List UInt8)} {G : List Int} (_ : True) (hA : 0 < A.length) {ρ : Env} (hi : ssI A G 4 ρ) : OTok (ssI A G) ssμ (fun _ => True) 4 ρ sso4 := by
  obtain ⟨i, k, h1, h2, ha, h3, h4, rfl⟩ := hi
  simp only [sso4, OTok]
  refine ⟨fun g0 => ?_, fun g0 => ?_⟩
  · simp [SB.den, SI.den, intCmp, ltInt_iff, ssEnv] at g0
    refine ⟨fun g1 => ?_, fun g1 => ?_⟩
    · simp [SB.den, SI.den, intCmp, ltInt_iff, ssEnv] at g1
      refine ⟨fun g2 => ?_, fun g2 => ?_⟩
      · simp [SB.den, SI.den, intCmp, ltInt_iff, ssEnv] at g2
        refine ⟨fun g3 => ?_, fun g3 => ?_⟩
        · simp [SB.den, SI.den, intCmp, ltInt_iff, ssEnv] at g3
          have hk : k < (wd A i).length := by omega
          have c := cur_more hk
          rw [if_pos (show gd ((wd A i)[k]?.getD 0) = true by simp [gd]; omega)] at c
          refine ⟨ssEnv A G i (k + 1), ?_, ⟨i, k + 1, by omega, by omega, ha, by omega, by omega, rfl⟩, by simp [ssμ, ssEnv] <;> omega⟩
          simp [Eqns, Eqn.ok, ssEnv, SI.den, SS.den, SP.den, preCells, RX.flat, RX.ok, AV.val, rows1_lth, rl11, c]
          try ((repeat' apply And.intro) <;> first | rfl | omega | exact rows1_ok _ | exact grow_ok _ | exact snoc1 (rows1_ok _) rfl | (intro xs hx; simpa [vstr] using wd_get hx) | (intro xs hx; exact grow_get hx))
        · simp [SB.den, SI.den, intCmp, ltInt_iff, ssEnv] at g3
          refine ⟨fun g4 => ?_, fun g4 => ?_⟩
          · simp [SB.den, SI.den, intCmp, ltInt_iff, ssEnv] at g4
            have hk : k < (wd A i).length := by omega
            have c := cur_more hk
            rw [if_pos (show gd ((wd A i)[k]?.getD 0) = true by simp [gd]; omega)] at c
            refine ⟨ssEnv A G i (k + 1), ?_, ⟨i, k + 1, by omega, by omega, ha, by omega, by omega, rfl⟩, by simp [ssμ, ssEnv] <;> omega⟩
            simp [Eqns, Eqn.ok, ssEnv, SI.den, SS.den, SP.den, preCells, RX.flat, RX.ok, AV.val, rows1_lth, rl11, c]
            try ((repeat' apply And.intro) <;> first | rfl | omega | exact rows1_ok _ | exact grow_ok _ | exact snoc1 (rows1_ok _) rfl | (intro xs hx; simpa [vstr] using wd_get hx) | (intro xs hx; exact grow_get hx))
          · simp [SB.den, SI.den, intCmp, ltInt_iff, ssEnv] at g4
            have hk : k < (wd A i).length := by omega
            have c := cur_more hk
            rw [if_neg (show ¬ gd ((wd A i)[k]?.getD 0) = true by simp [gd]; omega)] at c
            refine ⟨ssEnv A G i (k + 1), ?_, ⟨i, k + 1, by omega, by omega, ha, by omega, by omega, rfl⟩, by simp [ssμ, ssEnv] <;> omega⟩
            simp [Eqns, Eqn.ok, ssEnv, SI.den, SS.den, SP.den, preCells, RX.flat, RX.ok, AV.val, rows1_lth, rl11, c]
            try ((repeat' apply And.intro) <;> first | rfl | omega | exact rows1_ok _ | exact grow_ok _ | exact snoc1 (rows1_ok _) rfl | (intro xs hx; simpa [vstr] using wd_get hx) | (intro xs hx; exact grow_get hx))
      · simp [SB.den, SI.den, intCmp, ltInt_iff, ssEnv] at g2
        refine ⟨fun g3 => ?_, fun g3 => ?_⟩
        · simp [SB.den, SI.den, intCmp, ltInt_iff, ssEnv] at g3
          refine ⟨fun g4 => ?_, fun g4 => ?_⟩
          · simp [SB.den, SI.den, intCmp, ltInt_iff, ssEnv] at g4
            have hk : k < (wd A i).length := by omega
            have c := cur_more hk
            rw [if_pos (show gd ((wd A i)[k]?.getD 0) = true by simp [gd]; omega)] at c
            refine ⟨ssEnv A G i (k + 1), ?_, ⟨i, k + 1, by omega, by omega, ha, by omega, by omega, rfl⟩, by simp [ssμ, ssEnv] <;> omega⟩
            simp [Eqns, Eqn.ok, ssEnv, SI.den, SS.den, SP.den, preCells, RX.flat, RX.ok, AV.val, rows1_lth, rl11, c]
            try ((repeat' apply And.intro) <;> first | rfl | omega | exact rows1_ok _ | exact grow_ok _ | exact snoc1 (rows1_ok _) rfl | (intro xs hx; simpa [vstr] using wd_get hx) | (intro xs hx; exact grow_get hx))
          · simp [SB.den, SI.den, intCmp, ltInt_iff, ssEnv] at g4
            have hk : k < (wd A i).length := by omega
            have c := cur_more hk
            rw [if_neg (show ¬ gd ((wd A i)[k]?.getD 0) = true by simp [gd]; omega)] at c
            refine ⟨ssEnv A G i (k + 1), ?_, ⟨i, k + 1, by omega, by omega, ha, by omega, by omega, rfl⟩, by simp [ssμ, ssEnv] <;> omega⟩
            simp [Eqns, Eqn.ok, ssEnv, SI.den, SS.den, SP.den, preCells, RX.flat, RX.ok, AV.val, rows1_lth, rl11, c]
            try ((repeat' apply And.intro) <;> first | rfl | omega | exact rows1_ok _ | exact grow_ok _ | exact snoc1 (rows1_ok _) rfl | (intro xs hx; simpa [vstr] using wd_get hx) | (intro xs hx; exact grow_get hx))
        · simp [SB.den, SI.den, intCmp, ltInt_iff, ssEnv] at g3
          have hk : k < (wd A i).length := by omega
          have c := cur_more hk
          rw [if_neg (show ¬ gd ((wd A i)[k]?.getD 0) = true by simp [gd]; omega)] at c
          refine ⟨ssEnv A G i (k + 1), ?_, ⟨i, k + 1, by omega, by omega, ha, by omega, by omega, rfl⟩, by simp [ssμ, ssEnv] <;> omega⟩
          simp [Eqns, Eqn.ok, ssEnv, SI.den, SS.den, SP.den, preCells, RX.flat, RX.ok, AV.val, rows1_lth, rl11, c]
          try ((repeat' apply And.intro) <;> first | rfl | omega | exact rows1_ok _ | exact grow_ok _ | exact snoc1 (rows1_ok _) rfl | (intro xs hx; simpa [vstr] using wd_get hx) | (intro xs hx; exact grow_get hx))
    · simp [SB.den, SI.den, intCmp, ltInt_iff, ssEnv] at g1
      refine ⟨fun g2 => ?_, fun g2 => ?_⟩
      · simp [SB.den, SI.den, intCmp, eqInt_iff, ssEnv] at g2
        have he : (wd A i).length ≤ k ∨ k = 15 := by omega
        have e := acc_same (G := G) (by assumption) he (by omega)
        have e2 : vs A G (i + 1) = vs A G i := by rw [vs_of (by rw [e]; exact ha), vs_of ha, e]
        refine ⟨ssEnv A G (i + 1) 0, ?_, ⟨i + 1, by omega, by omega, by rw [e]; exact ha, rfl⟩, by simp [ssμ, ssEnv] <;> omega⟩
        simp [Eqns, Eqn.ok, ssEnv, SI.den, SS.den, SP.den, preCells, RX.flat, RX.ok, AV.val, rows1_lth, rl11, e2]
        try ((repeat' apply And.intro) <;> first | rfl | omega | exact rows1_ok _ | exact grow_ok _ | exact snoc1 (rows1_ok _) rfl | (intro xs hx; simpa [vstr] using wd_get hx) | (intro xs hx; exact grow_get hx))
      · simp [SB.den, SI.den, intCmp, eqInt_iff, ssEnv] at g2
        refine ⟨fun g3 => ?_, fun g3 => ?_⟩
        · simp [SB.den, SI.den, intCmp, ltInt_iff, ssEnv, rl11] at g3
          refine ⟨fun g4 => ?_, fun g4 => ?_⟩
          · simp [SB.den, SI.den, intCmp, ltInt_iff, ssEnv, msk_eq] at g4
            have he : (wd A i).length ≤ k ∨ k = 15 := by omega
            have e := acc_add (G := G) (by assumption) he (by omega)
            have hg : gapOf G i = [32] := by unfold gapOf; (repeat' split) <;> first | rfl | omega | (simp_all; done)
            rw [hg] at e
            have e2 : vs A G (i + 1) = acc A G (i + 1) := vs_of (by rw [e]; simp)
            rw [e] at e2
            rw [← vs_of ha] at e2
            refine ⟨ssEnv A G (i + 1) 0, ?_, ⟨i + 1, by omega, by omega, by rw [e]; simp, rfl⟩, by simp [ssμ, ssEnv] <;> omega⟩
            simp [Eqns, Eqn.ok, ssEnv, SI.den, SS.den, SP.den, preCells, RX.flat, RX.ok, AV.val, rows1_snoc, rows1_lth, rl11, e2]
            try ((repeat' apply And.intro) <;> first | rfl | omega | exact rows1_ok _ | exact grow_ok _ | exact snoc1 (rows1_ok _) rfl | (intro xs hx; simpa [vstr] using wd_get hx) | (intro xs hx; exact grow_get hx))
          · simp [SB.den, SI.den, intCmp, ltInt_iff, ssEnv, msk_eq] at g4
            refine ⟨fun g5 => ?_, fun g5 => ?_⟩
            · simp [SB.den, SI.den, intCmp, ltInt_iff, ssEnv, msk_eq] at g5
              have he : (wd A i).length ≤ k ∨ k = 15 := by omega
              have e := acc_add (G := G) (by assumption) he (by omega)
              have hg : gapOf G i = [9] := by unfold gapOf; (repeat' split) <;> first | rfl | omega | (simp_all; done)
              rw [hg] at e
              have e2 : vs A G (i + 1) = acc A G (i + 1) := vs_of (by rw [e]; simp)
              rw [e] at e2
              rw [← vs_of ha] at e2
              refine ⟨ssEnv A G (i + 1) 0, ?_, ⟨i + 1, by omega, by omega, by rw [e]; simp, rfl⟩, by simp [ssμ, ssEnv] <;> omega⟩
              simp [Eqns, Eqn.ok, ssEnv, SI.den, SS.den, SP.den, preCells, RX.flat, RX.ok, AV.val, rows1_snoc, rows1_lth, rl11, e2]
              try ((repeat' apply And.intro) <;> first | rfl | omega | exact rows1_ok _ | exact grow_ok _ | exact snoc1 (rows1_ok _) rfl | (intro xs hx; simpa [vstr] using wd_get hx) | (intro xs hx; exact grow_get hx))
            · simp [SB.den, SI.den, intCmp, ltInt_iff, ssEnv, msk_eq] at g5
              refine ⟨fun g6 => ?_, fun g6 => ?_⟩
              · simp [SB.den, SI.den, intCmp, ltInt_iff, ssEnv, msk_eq] at g6
                have he : (wd A i).length ≤ k ∨ k = 15 := by omega
                have e := acc_add (G := G) (by assumption) he (by omega)
                have hg : gapOf G i = [10] := by unfold gapOf; (repeat' split) <;> first | rfl | omega | (simp_all; done)
                rw [hg] at e
                have e2 : vs A G (i + 1) = acc A G (i + 1) := vs_of (by rw [e]; simp)
                rw [e] at e2
                rw [← vs_of ha] at e2
                refine ⟨ssEnv A G (i + 1) 0, ?_, ⟨i + 1, by omega, by omega, by rw [e]; simp, rfl⟩, by simp [ssμ, ssEnv] <;> omega⟩
                simp [Eqns, Eqn.ok, ssEnv, SI.den, SS.den, SP.den, preCells, RX.flat, RX.ok, AV.val, rows1_snoc, rows1_lth, rl11, e2]
                try ((repeat' apply And.intro) <;> first | rfl | omega | exact rows1_ok _ | exact grow_ok _ | exact snoc1 (rows1_ok _) rfl | (intro xs hx; simpa [vstr] using wd_get hx) | (intro xs hx; exact grow_get hx))
              · simp [SB.den, SI.den, intCmp, ltInt_iff, ssEnv, msk_eq] at g6
                have he : (wd A i).length ≤ k ∨ k = 15 := by omega
                have e := acc_add (G := G) (by assumption) he (by omega)
                have hg : gapOf G i = [32, 32, 10, 9] := by unfold gapOf; (repeat' split) <;> first | rfl | omega | (simp_all; done)
                rw [hg] at e
                have e2 : vs A G (i + 1) = acc A G (i + 1) := vs_of (by rw [e]; simp)
                rw [e] at e2
                rw [← vs_of ha] at e2
                refine ⟨ssEnv A G (i + 1) 0, ?_, ⟨i + 1, by omega, by omega, by rw [e]; simp, rfl⟩, by simp [ssμ, ssEnv] <;> omega⟩
                simp [Eqns, Eqn.ok, ssEnv, SI.den, SS.den, SP.den, preCells, RX.flat, RX.ok, AV.val, rows1_snoc, rows1_lth, rl11, e2]
                try ((repeat' apply And.intro) <;> first | rfl | omega | exact rows1_ok _ | exact grow_ok _ | exact snoc1 (rows1_ok _) rfl | (intro xs hx; simpa [vstr] using wd_get hx) | (intro xs hx; exact grow_get hx))
        · simp [SB.den, SI.den, intCmp, ltInt_iff, ssEnv, rl11] at g3
          have he : (wd A i).length ≤ k ∨ k = 15 := by omega
          have e := acc_add (G := G) (by assumption) he (by omega)
          have hg : gapOf G i = [32] := by unfold gapOf; (repeat' split) <;> first | rfl | omega | (simp_all; done)
          rw [hg] at e
          have e2 : vs A G (i + 1) = acc A G (i + 1) := vs_of (by rw [e]; simp)
          rw [e] at e2
          rw [← vs_of ha] at e2
          refine ⟨ssEnv A G (i + 1) 0, ?_, ⟨i + 1, by omega, by omega, by rw [e]; simp, rfl⟩, by simp [ssμ, ssEnv] <;> omega⟩
          simp [Eqns, Eqn.ok, ssEnv, SI.den, SS.den, SP.den, preCells, RX.flat, RX.ok, AV.val, rows1_snoc, rows1_lth, rl11, e2]
          try ((repeat' apply And.intro) <;> first | rfl | omega | exact rows1_ok _ | exact grow_ok _ | exact snoc1 (rows1_ok _) rfl | (intro xs hx; simpa [vstr] using wd_get hx) | (intro xs hx; exact grow_get hx))
  · simp [SB.den, SI.den, intCmp, ltInt_iff, ssEnv] at g0
    refine ⟨fun g1 => ?_, fun g1 => ?_⟩
    · simp [SB.den, SI.den, intCmp, eqInt_iff, ssEnv] at g1
      have he : (wd A i).length ≤ k ∨ k = 15 := by omega
      have e := acc_same (G := G) (by assumption) he (by omega)
      have e2 : vs A G (i + 1) = vs A G i := by rw [vs_of (by rw [e]; exact ha), vs_of ha, e]
      refine ⟨ssEnv A G (i + 1) 0, ?_, ⟨i + 1, by omega, by omega, by rw [e]; exact ha, rfl⟩, by simp [ssμ, ssEnv] <;> omega⟩
      simp [Eqns, Eqn.ok, ssEnv, SI.den, SS.den, SP.den, preCells, RX.flat, RX.ok, AV.val, rows1_lth, rl11, e2]
      try ((repeat' apply And.intro) <;> first | rfl | omega | exact rows1_ok _ | exact grow_ok _ | exact snoc1 (rows1_ok _) rfl | (intro xs hx; simpa [vstr] using wd_get hx) | (intro xs hx; exact grow_get hx))
    · simp [SB.den, SI.den, intCmp, eqInt_iff, ssEnv] at g1
      refine ⟨fun g2 => ?_, fun g2 => ?_⟩
      · simp [SB.den, SI.den, intCmp, ltInt_iff, ssEnv, rl11] at g2
        refine ⟨fun g3 => ?_, fun g3 => ?_⟩
        · simp [SB.den, SI.den, intCmp, ltInt_iff, ssEnv, msk_eq] at g3
          have he : (wd A i).length ≤ k ∨ k = 15 := by omega
          have e := acc_add (G := G) (by assumption) he (by omega)
          have hg : gapOf G i = [32] := by unfold gapOf; (repeat' split) <;> first | rfl | omega | (simp_all; done)
          rw [hg] at e
          have e2 : vs A G (i + 1) = acc A G (i + 1) := vs_of (by rw [e]; simp)
          rw [e] at e2
          rw [← vs_of ha] at e2
          refine ⟨ssEnv A G (i + 1) 0, ?_, ⟨i + 1, by omega, by omega, by rw [e]; simp, rfl⟩, by simp [ssμ, ssEnv] <;> omega⟩
          simp [Eqns, Eqn.ok, ssEnv, SI.den, SS.den, SP.den, preCells, RX.flat, RX.ok, AV.val, rows1_snoc, rows1_lth, rl11, e2]
          try ((repeat' apply And.intro) <;> first | rfl | omega | exact rows1_ok _ | exact grow_ok _ | exact snoc1 (rows1_ok _) rfl | (intro xs hx; simpa [vstr] using wd_get hx) | (intro xs hx; exact grow_get hx))
        · simp [SB.den, SI.den, intCmp, ltInt_iff, ssEnv, msk_eq] at g3
          refine ⟨fun g4 => ?_, fun g4 => ?_⟩
          · simp [SB.den, SI.den, intCmp, ltInt_iff, ssEnv, msk_eq] at g4
            have he : (wd A i).length ≤ k ∨ k = 15 := by omega
            have e := acc_add (G := G) (by assumption) he (by omega)
            have hg : gapOf G i = [9] := by unfold gapOf; (repeat' split) <;> first | rfl | omega | (simp_all; done)
            rw [hg] at e
            have e2 : vs A G (i + 1) = acc A G (i + 1) := vs_of (by rw [e]; simp)
            rw [e] at e2
            rw [← vs_of ha] at e2
            refine ⟨ssEnv A G (i + 1) 0, ?_, ⟨i + 1, by omega, by omega, by rw [e]; simp, rfl⟩, by simp [ssμ, ssEnv] <;> omega⟩
            simp [Eqns, Eqn.ok, ssEnv, SI.den, SS.den, SP.den, preCells, RX.flat, RX.ok, AV.val, rows1_snoc, rows1_lth, rl11, e2]
            try ((repeat' apply And.intro) <;> first | rfl | omega | exact rows1_ok _ | exact grow_ok _ | exact snoc1 (rows1_ok _) rfl | (intro xs hx; simpa [vstr] using wd_get hx) | (intro xs hx; exact grow_get hx))
          · simp [SB.den, SI.den, intCmp, ltInt_iff, ssEnv, msk_eq] at g4
            refine ⟨fun g5 => ?_, fun g5 => ?_⟩
            · simp [SB.den, SI.den, intCmp, ltInt_iff, ssEnv, msk_eq] at g5
              have he : (wd A i).length ≤ k ∨ k = 15 := by omega
              have e := acc_add (G := G) (by assumption) he (by omega)
              have hg : gapOf G i = [10] := by unfold gapOf; (repeat' split) <;> first | rfl | omega | (simp_all; done)
              rw [hg] at e
              have e2 : vs A G (i + 1) = acc A G (i + 1) := vs_of (by rw [e]; simp)
              rw [e] at e2
              rw [← vs_of ha] at e2
              refine ⟨ssEnv A G (i + 1) 0, ?_, ⟨i + 1, by omega, by omega, by rw [e]; simp, rfl⟩, by simp [ssμ, ssEnv] <;> omega⟩
              simp [Eqns, Eqn.ok, ssEnv, SI.den, SS.den, SP.den, preCells, RX.flat, RX.ok, AV.val, rows1_snoc, rows1_lth, rl11, e2]
              try ((repeat' apply And.intro) <;> first | rfl | omega | exact rows1_ok _ | exact grow_ok _ | exact snoc1 (rows1_ok _) rfl | (intro xs hx; simpa [vstr] using wd_get hx) | (intro xs hx; exact grow_get hx))
            · simp [SB.den, SI.den, intCmp, ltInt_iff, ssEnv, msk_eq] at g5
              have he : (wd A i).length ≤ k ∨ k = 15 := by omega
              have e := acc_add (G := G) (by assumption) he (by omega)
              have hg : gapOf G i = [32, 32, 10, 9] := by unfold gapOf; (repeat' split) <;> first | rfl | omega | (simp_all; done)
              rw [hg] at e
              have e2 : vs A G (i + 1) = acc A G (i + 1) := vs_of (by rw [e]; simp)
              rw [e] at e2
              rw [← vs_of ha] at e2
              refine ⟨ssEnv A G (i + 1) 0, ?_, ⟨i + 1, by omega, by omega, by rw [e]; simp, rfl⟩, by simp [ssμ, ssEnv] <;> omega⟩
              simp [Eqns, Eqn.ok, ssEnv, SI.den, SS.den, SP.den, preCells, RX.flat, RX.ok, AV.val, rows1_snoc, rows1_lth, rl11, e2]
              try ((repeat' apply And.intro) <;> first | rfl | omega | exact rows1_ok _ | exact grow_ok _ | exact snoc1 (rows1_ok _) rfl | (intro xs hx; simpa [vstr] using wd_get hx) | (intro xs hx; exact grow_get hx))
      · simp [SB.den, SI.den, intCmp, ltInt_iff, ssEnv, rl11] at g2
        have he : (wd A i).length ≤ k ∨ k = 15 := by omega
        have e := acc_add (G := G) (by assumption) he (by omega)
        have hg : gapOf G i = [32] := by unfold gapOf; (repeat' split) <;> first | rfl | omega | (simp_all; done)
        rw [hg] at e
        have e2 : vs A G (i + 1) = acc A G (i + 1) := vs_of (by rw [e]; simp)
        rw [e] at e2
        rw [← vs_of ha] at e2
        refine ⟨ssEnv A G (i + 1) 0, ?_, ⟨i + 1, by omega, by omega, by rw [e]; simp, rfl⟩, by simp [ssμ, ssEnv] <;> omega⟩
        simp [Eqns, Eqn.ok, ssEnv, SI.den, SS.den, SP.den, preCells, RX.flat, RX.ok, AV.val, rows1_snoc, rows1_lth, rl11, e2]
        try ((repeat' apply And.intro) <;> first | rfl | omega | exact rows1_ok _ | exact grow_ok _ | exact snoc1 (rows1_ok _) rfl | (intro xs hx; simpa [vstr] using wd_get hx) | (intro xs hx; exact grow_get hx))
theorem snn0 {A : List (List UInt8)} {G : List Int} (hG : G = []) (hA : 0 < A.length) {ρ : Env} (hi : ssI A G 0 ρ) : OTok (ssI A G) ssμ (fun _ => True) 0 ρ sno0 := by
  replace hi : ρ = ssEnv A G 0 0 := hi
  subst hi
  simp only [sno0, OTok]
  refine ⟨fun g0 => ?_, fun g0 => ?_⟩
  · simp [SB.den, SI.den, intCmp, ltInt_iff, ssEnv] at g0
    refine ⟨fun g1 => ?_, fun g1 => ?_⟩
    · simp [SB.den, SI.den, intCmp, ltInt_iff, ssEnv] at g1
      refine ⟨fun g2 => ?_, fun g2 => ?_⟩
      · simp [SB.den, SI.den, intCmp, ltInt_iff, ssEnv] at g2
        have hk : 0 < (wd A 0).length := by omega
        have c := cur_more hk
        rw [if_pos (show gd ((wd A 0)[0]?.getD 0) = true by simp [gd]; omega)] at c
        refine ⟨ssEnv A G 0 (0 + 1), ?_, ⟨0, 0 + 1, by omega, hA, rfl, by omega, by omega, rfl⟩, by simp [ssμ, ssEnv] <;> omega⟩
        simp [Eqns, Eqn.ok, ssEnv, SI.den, SS.den, SP.den, preCells, RX.flat, RX.ok, AV.val, rows1_lth, c, cur_0]
        try ((repeat' apply And.intro) <;> first | rfl | omega | exact rows1_ok _ | exact grow_ok _ | exact snoc1 (rows1_ok _) rfl | (intro xs hx; simpa [vstr] using wd_get hx) | (intro xs hx; exact grow_get hx))
      · simp [SB.den, SI.den, intCmp, ltInt_iff, ssEnv] at g2
        refine ⟨fun g3 => ?_, fun g3 => ?_⟩
        · simp [SB.den, SI.den, intCmp, ltInt_iff, ssEnv] at g3
          have hk : 0 < (wd A 0).length := by omega
          have c := cur_more hk
          rw [if_pos (show gd ((wd A 0)[0]?.getD 0) = true by simp [gd]; omega)] at c
          refine ⟨ssEnv A G 0 (0 + 1), ?_, ⟨0, 0 + 1, by omega, hA, rfl, by omega, by omega, rfl⟩, by simp [ssμ, ssEnv] <;> omega⟩
          simp [Eqns, Eqn.ok, ssEnv, SI.den, SS.den, SP.den, preCells, RX.flat, RX.ok, AV.val, rows1_lth, c, cur_0]
          try ((repeat' apply And.intro) <;> first | rfl | omega | exact rows1_ok _ | exact grow_ok _ | exact snoc1 (rows1_ok _) rfl | (intro xs hx; simpa [vstr] using wd_get hx) | (intro xs hx; exact grow_get hx))
        · simp [SB.den, SI.den, intCmp, ltInt_iff, ssEnv] at g3
          have hk : 0 < (wd A 0).length := by omega
          have c := cur_more hk
          rw [if_neg (show ¬ gd ((wd A 0)[0]?.getD 0) = true by simp [gd]; omega)] at c
          refine ⟨ssEnv A G 0 (0 + 1), ?_, ⟨0, 0 + 1, by omega, hA, rfl, by omega, by omega, rfl⟩, by simp [ssμ, ssEnv] <;> omega⟩
          simp [Eqns, Eqn.ok, ssEnv, SI.den, SS.den, SP.den, preCells, RX.flat, RX.ok, AV.val, rows1_lth, c, cur_0]
          try ((repeat' apply And.intro) <;> first | rfl | omega | exact rows1_ok _ | exact grow_ok _ | exact snoc1 (rows1_ok _) rfl | (intro xs hx; simpa [vstr] using wd_get hx) | (intro xs hx; exact grow_get hx))
    · simp [SB.den, SI.den, intCmp, ltInt_iff, ssEnv] at g1
      refine ⟨fun g2 => ?_, fun g2 => ?_⟩
      · simp [SB.den, SI.den, intCmp, ltInt_iff, ssEnv] at g2
        refine ⟨fun g3 => ?_, fun g3 => ?_⟩
        · simp [SB.den, SI.den, intCmp, ltInt_iff, ssEnv] at g3
          have hk : 0 < (wd A 0).length := by omega
          have c := cur_more hk
          rw [if_pos (show gd ((wd A 0)[0]?.getD 0) = true by simp [gd]; omega)] at c
          refine ⟨ssEnv A G 0 (0 + 1), ?_, ⟨0, 0 + 1, by omega, hA, rfl, by omega, by omega, rfl⟩, by simp [ssμ, ssEnv] <;> omega⟩
          simp [Eqns, Eqn.ok, ssEnv, SI.den, SS.den, SP.den, preCells, RX.flat, RX.ok, AV.val, rows1_lth, c, cur_0]
          try ((repeat' apply And.intro) <;> first | rfl | omega | exact rows1_ok _ | exact grow_ok _ | exact snoc1 (rows1_ok _) rfl | (intro xs hx; simpa [vstr] using wd_get hx) | (intro xs hx; exact grow_get hx))
        · simp [SB.den, SI.den, intCmp, ltInt_iff, ssEnv] at g3
          have hk : 0 < (wd A 0).length := by omega
          have c := cur_more hk
          rw [if_neg (show ¬ gd ((wd A 0)[0]?.getD 0) = true by simp [gd]; omega)] at c
          refine ⟨ssEnv A G 0 (0 + 1), ?_, ⟨0, 0 + 1, by omega, hA, rfl, by omega, by omega, rfl⟩, by simp [ssμ, ssEnv] <;> omega⟩
          simp [Eqns, Eqn.ok, ssEnv, SI.den, SS.den, SP.den, preCells, RX.flat, RX.ok, AV.val, rows1_lth, c, cur_0]
          try ((repeat' apply And.intro) <;> first | rfl | omega | exact rows1_ok _ | exact grow_ok _ | exact snoc1 (rows1_ok _) rfl | (intro xs hx; simpa [vstr] using wd_get hx) | (intro xs hx; exact grow_get hx))
      · simp [SB.den, SI.den, intCmp, ltInt_iff, ssEnv] at g2
        have hk : 0 < (wd A 0).length := by omega
        have c := cur_more hk
        rw [if_neg (show ¬ gd ((wd A 0)[0]?.getD 0) = true by simp [gd]; omega)] at c
        refine ⟨ssEnv A G 0 (0 + 1), ?_, ⟨0, 0 + 1, by omega, hA, rfl, by omega, by omega, rfl⟩, by simp [ssμ, ssEnv] <;> omega⟩
        simp [Eqns, Eqn.ok, ssEnv, SI.den, SS.den, SP.den, preCells, RX.flat, RX.ok, AV.val, rows1_lth, c, cur_0]
        try ((repeat' apply And.intro) <;> first | rfl | omega | exact rows1_ok _ | exact grow_ok _ | exact snoc1 (rows1_ok _) rfl | (intro xs hx; simpa [vstr] using wd_get hx) | (intro xs hx; exact grow_get hx))
  · simp [SB.den, SI.den, intCmp, ltInt_iff, ssEnv] at g0
    have he : (wd A 0).length ≤ 0 ∨ 0 = 15 := by first | omega | simp_all
    have e := acc_same (G := G) cur_0 he (by omega)
    refine ⟨ssEnv A G (0 + 1) 0, ?_, ⟨0 + 1, by omega, hA, by rw [e]; rfl, rfl⟩, by simp [ssμ, ssEnv] <;> omega⟩
    simp [Eqns, Eqn.ok, ssEnv, SI.den, SS.den, SP.den, preCells, RX.flat, RX.ok, AV.val, rows1_lth]
    try ((repeat' apply And.intro) <;> first | rfl | omega | exact rows1_ok _ | exact grow_ok _ | exact snoc1 (rows1_ok _) rfl | (intro xs hx; simpa [vstr] using wd_get hx) | (intro xs hx; exact grow_get hx))
theorem snn1 {A : List (List UInt8)} {G : List Int} (hG : G = []) (hA : 0 < A.length) {ρ : Env} (hi : ssI A G 1 ρ) : OTok (ssI A G) ssμ (fun _ => True) 1 ρ sno1 := by
  obtain ⟨i, h1, h2, ha, rfl⟩ := hi
  simp only [sno1, OTok]
  refine ⟨fun g0 => ?_, fun g0 => ?_⟩
  · simp [SB.den, SI.den, intCmp, ltInt_iff, ssEnv, rows1_lth] at g0
    refine ⟨fun g1 => ?_, fun g1 => ?_⟩
    · simp [SB.den, SI.den, intCmp, ltInt_iff, ssEnv] at g1
      refine ⟨fun g2 => ?_, fun g2 => ?_⟩
      · simp [SB.den, SI.den, intCmp, ltInt_iff, ssEnv] at g2
        refine ⟨fun g3 => ?_, fun g3 => ?_⟩
        · simp [SB.den, SI.den, intCmp, ltInt_iff, ssEnv] at g3
          refine ⟨fun g4 => ?_, fun g4 => ?_⟩
          · simp [SB.den, SI.den, intCmp, ltInt_iff, ssEnv] at g4
            have hk : 0 < (wd A i).length := by omega
            have c := cur_more hk
            rw [if_pos (show gd ((wd A i)[0]?.getD 0) = true by simp [gd]; omega)] at c
            refine ⟨ssEnv A G i (0 + 1), ?_, ⟨i, 0 + 1, by omega, by omega, ha, by omega, by omega, rfl⟩, by simp [ssμ, ssEnv] <;> omega⟩
            simp [Eqns, Eqn.ok, ssEnv, SI.den, SS.den, SP.den, preCells, RX.flat, RX.ok, AV.val, rows1_lth, c, cur_0]
            try ((repeat' apply And.intro) <;> first | rfl | omega | exact rows1_ok _ | exact grow_ok _ | exact snoc1 (rows1_ok _) rfl | (intro xs hx; simpa [vstr] using wd_get hx) | (intro xs hx; exact grow_get hx))
          · simp [SB.den, SI.den, intCmp, ltInt_iff, ssEnv] at g4
            refine ⟨fun g5 => ?_, fun g5 => ?_⟩
            · simp [SB.den, SI.den, intCmp, ltInt_iff, ssEnv] at g5
              have hk : 0 < (wd A i).length := by omega
              have c := cur_more hk
              rw [if_pos (show gd ((wd A i)[0]?.getD 0) = true by simp [gd]; omega)] at c
              refine ⟨ssEnv A G i (0 + 1), ?_, ⟨i, 0 + 1, by omega, by omega, ha, by omega, by omega, rfl⟩, by simp [ssμ, ssEnv] <;> omega⟩
              simp [Eqns, Eqn.ok, ssEnv, SI.den, SS.den, SP.den, preCells, RX.flat, RX.ok, AV.val, rows1_lth, c, cur_0]
              try ((repeat' apply And.intro) <;> first | rfl | omega | exact rows1_ok _ | exact grow_ok _ | exact snoc1 (rows1_ok _) rfl | (intro xs hx; simpa [vstr] using wd_get hx) | (intro xs hx; exact grow_get hx))
            · simp [SB.den, SI.den, intCmp, ltInt_iff, ssEnv] at g5
              have hk : 0 < (wd A i).length := by omega
              have c := cur_more hk
              rw [if_neg (show ¬ gd ((wd A i)[0]?.getD 0) = true by simp [gd]; omega)] at c
              refine ⟨ssEnv A G i (0 + 1), ?_, ⟨i, 0 + 1, by omega, by omega, ha, by omega, by omega, rfl⟩, by simp [ssμ, ssEnv] <;> omega⟩
              simp [Eqns, Eqn.ok, ssEnv, SI.den, SS.den, SP.den, preCells, RX.flat, RX.ok, AV.val, rows1_lth, c, cur_0]
              try ((repeat' apply And.intro) <;> first | rfl | omega | exact rows1_ok _ | exact grow_ok _ | exact snoc1 (rows1_ok _) rfl | (intro xs hx; simpa [vstr] using wd_get hx) | (intro xs hx; exact grow_get hx))
        · simp [SB.den, SI.den, intCmp, ltInt_iff, ssEnv] at g3
          refine ⟨fun g4 => ?_, fun g4 => ?_⟩
          · simp [SB.den, SI.den, intCmp, ltInt_iff, ssEnv] at g4
            refine ⟨fun g5 => ?_, fun g5 => ?_⟩
            · simp [SB.den, SI.den, intCmp, ltInt_iff, ssEnv] at g5
              have hk : 0 < (wd A i).length := by omega
              have c := cur_more hk
              rw [if_pos (show gd ((wd A i)[0]?.getD 0) = true by simp [gd]; omega)] at c
              refine ⟨ssEnv A G i (0 + 1), ?_, ⟨i, 0 + 1, by omega, by omega, ha, by omega, by omega, rfl⟩, by simp [ssμ, ssEnv] <;> omega⟩
              simp [Eqns, Eqn.ok, ssEnv, SI.den, SS.den, SP.den, preCells, RX.flat, RX.ok, AV.val, rows1_lth, c, cur_0]
              try ((repeat' apply And.intro) <;> first | rfl | omega | exact rows1_ok _ | exact grow_ok _ | exact snoc1 (rows1_ok _) rfl | (intro xs hx; simpa [vstr] using wd_get hx) | (intro xs hx; exact grow_get hx))
            · simp [SB.den, SI.den, intCmp, ltInt_iff, ssEnv] at g5
              have hk : 0 < (wd A i).length := by omega
              have c := cur_more hk
              rw [if_neg (show ¬ gd ((wd A i)[0]?.getD 0) = true by simp [gd]; omega)] at c
              refine ⟨ssEnv A G i (0 + 1), ?_, ⟨i, 0 + 1, by omega, by omega, ha, by omega, by omega, rfl⟩, by simp [ssμ, ssEnv] <;> omega⟩
              simp [Eqns, Eqn.ok, ssEnv, SI.den, SS.den, SP.den, preCells, RX.flat, RX.ok, AV.val, rows1_lth, c, cur_0]
              try ((repeat' apply And.intro) <;> first | rfl | omega | exact rows1_ok _ | exact grow_ok _ | exact snoc1 (rows1_ok _) rfl | (intro xs hx; simpa [vstr] using wd_get hx) | (intro xs hx; exact grow_get hx))
          · simp [SB.den, SI.den, intCmp, ltInt_iff, ssEnv] at g4
            have hk : 0 < (wd A i).length := by omega
            have c := cur_more hk
            rw [if_neg (show ¬ gd ((wd A i)[0]?.getD 0) = true by simp [gd]; omega)] at c
            refine ⟨ssEnv A G i (0 + 1), ?_, ⟨i, 0 + 1, by omega, by omega, ha, by omega, by omega, rfl⟩, by simp [ssμ, ssEnv] <;> omega⟩
            simp [Eqns, Eqn.ok, ssEnv, SI.den, SS.den, SP.den, preCells, RX.flat, RX.ok, AV.val, rows1_lth, c, cur_0]
            try ((repeat' apply And.intro) <;> first | rfl | omega | exact rows1_ok _ | exact grow_ok _ | exact snoc1 (rows1_ok _) rfl | (intro xs hx; simpa [vstr] using wd_get hx) | (intro xs hx; exact grow_get hx))
      · simp [SB.den, SI.den, intCmp, ltInt_iff, ssEnv] at g2
        have he : (wd A i).length ≤ 0 ∨ 0 = 15 := by first | omega | simp_all
        have e := acc_same (G := G) cur_0 he (by omega)
        refine ⟨ssEnv A G (i + 1) 0, ?_, ⟨i + 1, by omega, by omega, by rw [e]; exact ha, rfl⟩, by simp [ssμ, ssEnv] <;> omega⟩
        simp [Eqns, Eqn.ok, ssEnv, SI.den, SS.den, SP.den, preCells, RX.flat, RX.ok, AV.val, rows1_lth]
        try ((repeat' apply And.intro) <;> first | rfl | omega | exact rows1_ok _ | exact grow_ok _ | exact snoc1 (rows1_ok _) rfl | (intro xs hx; simpa [vstr] using wd_get hx) | (intro xs hx; exact grow_get hx))
    · simp [SB.den, SI.den, intCmp, ltInt_iff, ssEnv] at g1
      exact ⟨ssEnv A G i 0, eqns_nl, trivial⟩
  · simp [SB.den, SI.den, intCmp, ltInt_iff, ssEnv, rows1_lth] at g0
    exact ⟨ssEnv A G i 0, eqns_nl, trivial⟩
theorem snn2 {A : List (List UInt8)} {G : List Int} (hG : G = []) (hA : 0 < A.length) {ρ : Env} (hi : ssI A G 2 ρ) : OTok (ssI A G) ssμ (fun _ => True) 2 ρ sno2 := by
  obtain ⟨i, h1, h2, ha, rfl⟩ := hi
  simp only [sno2, OTok]
  refine ⟨fun g0 => ?_, fun g0 => ?_⟩
  · simp [SB.den, SI.den, intCmp, ltInt_iff, ssEnv, rows1_lth] at g0
    refine ⟨fun g1 => ?_, fun g1 => ?_⟩
    · simp [SB.den, SI.den, intCmp, ltInt_iff, ssEnv] at g1
      refine ⟨fun g2 => ?_, fun g2 => ?_⟩
      · simp [SB.den, SI.den, intCmp, ltInt_iff, ssEnv] at g2
        refine ⟨fun g3 => ?_, fun g3 => ?_⟩
        · simp [SB.den, SI.den, intCmp, ltInt_iff, ssEnv] at g3
          refine ⟨fun g4 => ?_, fun g4 => ?_⟩
          · simp [SB.den, SI.den, intCmp, ltInt_iff, ssEnv] at g4
            have hk : 0 < (wd A i).length := by omega
            have c := cur_more hk
            rw [if_pos (show gd ((wd A i)[0]?.getD 0) = true by simp [gd]; omega)] at c
            refine ⟨ssEnv A G i (0 + 1), ?_, ⟨i, 0 + 1, by omega, by omega, ha, by omega, by omega, rfl⟩, by simp [ssμ, ssEnv] <;> omega⟩
            simp [Eqns, Eqn.ok, ssEnv, SI.den, SS.den, SP.den, preCells, RX.flat, RX.ok, AV.val, rows1_lth, c, cur_0]
            try ((repeat' apply And.intro) <;> first | rfl | omega | exact rows1_ok _ | exact grow_ok _ | exact snoc1 (rows1_ok _) rfl | (intro xs hx; simpa [vstr] using wd_get hx) | (intro xs hx; exact grow_get hx))
          · simp [SB.den, SI.den, intCmp, ltInt_iff, ssEnv] at g4
            refine ⟨fun g5 => ?_, fun g5 => ?_⟩
            · simp [SB.den, SI.den, intCmp, ltInt_iff, ssEnv] at g5
              have hk : 0 < (wd A i).length := by omega
              have c := cur_more hk
              rw [if_pos (show gd ((wd A i)[0]?.getD 0) = true by simp [gd]; omega)] at c
              refine ⟨ssEnv A G i (0 + 1), ?_, ⟨i, 0 + 1, by omega, by omega, ha, by omega, by omega, rfl⟩, by simp [ssμ, ssEnv] <;> omega⟩
              simp [Eqns, Eqn.ok, ssEnv, SI.den, SS.den, SP.den, preCells, RX.flat, RX.ok, AV.val, rows1_lth, c, cur_0]
              try ((repeat' apply And.intro) <;> first | rfl | omega | exact rows1_ok _ | exact grow_ok _ | exact snoc1 (rows1_ok _) rfl | (intro xs hx; simpa [vstr] using wd_get hx) | (intro xs hx; exact grow_get hx))
            · simp [SB.den, SI.den, intCmp, ltInt_iff, ssEnv] at g5
              have hk : 0 < (wd A i).length := by omega
              have c := cur_more hk
              rw [if_neg (show ¬ gd ((wd A i)[0]?.getD 0) = true by simp [gd]; omega)] at c
              refine ⟨ssEnv A G i (0 + 1), ?_, ⟨i, 0 + 1, by omega, by omega, ha, by omega, by omega, rfl⟩, by simp [ssμ, ssEnv] <;> omega⟩
              simp [Eqns, Eqn.ok, ssEnv, SI.den, SS.den, SP.den, preCells, RX.flat, RX.ok, AV.val, rows1_lth, c, cur_0]
              try ((repeat' apply And.intro) <;> first | rfl | omega | exact rows1_ok _ | exact grow_ok _ | exact snoc1 (rows1_ok _) rfl | (intro xs hx; simpa [vstr] using wd_get hx) | (intro xs hx; exact grow_get hx))
        · simp [SB.den, SI.den, intCmp, ltInt_iff, ssEnv] at g3
          refine ⟨fun g4 => ?_, fun g4 => ?_⟩
          · simp [SB.den, SI.den, intCmp, ltInt_iff, ssEnv] at g4
            refine ⟨fun g5 => ?_, fun g5 => ?_⟩
            · simp [SB.den, SI.den, intCmp, ltInt_iff, ssEnv] at g5
              have hk : 0 < (wd A i).length := by omega
              have c := cur_more hk
              rw [if_pos (show gd ((wd A i)[0]?.getD 0) = true by simp [gd]; omega)] at c
              refine ⟨ssEnv A G i (0 + 1), ?_, ⟨i, 0 + 1, by omega, by omega, ha, by omega, by omega, rfl⟩, by simp [ssμ, ssEnv] <;> omega⟩
              simp [Eqns, Eqn.ok, ssEnv, SI.den, SS.den, SP.den, preCells, RX.flat, RX.ok, AV.val, rows1_lth, c, cur_0]
              try ((repeat' apply And.intro) <;> first | rfl | omega | exact rows1_ok _ | exact grow_ok _ | exact snoc1 (rows1_ok _) rfl | (intro xs hx; simpa [vstr] using wd_get hx) | (intro xs hx; exact grow_get hx))
            · simp [SB.den, SI.den, intCmp, ltInt_iff, ssEnv] at g5
              have hk : 0 < (wd A i).length := by omega
              have c := cur_more hk
              rw [if_neg (show ¬ gd ((wd A i)[0]?.getD 0) = true by simp [gd]; omega)] at c
              refine ⟨ssEnv A G i (0 + 1), ?_, ⟨i, 0 + 1, by omega, by omega, ha, by omega, by omega, rfl⟩, by simp [ssμ, ssEnv] <;> omega⟩
              simp [Eqns, Eqn.ok, ssEnv, SI.den, SS.den, SP.den, preCells, RX.flat, RX.ok, AV.val, rows1_lth, c, cur_0]
              try ((repeat' apply And.intro) <;> first | rfl | omega | exact rows1_ok _ | exact grow_ok _ | exact snoc1 (rows1_ok _) rfl | (intro xs hx; simpa [vstr] using wd_get hx) | (intro xs hx; exact grow_get hx))
          · simp [SB.den, SI.den, intCmp, ltInt_iff, ssEnv] at g4
            have hk : 0 < (wd A i).length := by omega
            have c := cur_more hk
            rw [if_neg (show ¬ gd ((wd A i)[0]?.getD 0) = true by simp [gd]; omega)] at c
            refine ⟨ssEnv A G i (0 + 1), ?_, ⟨i, 0 + 1, by omega, by omega, ha, by omega, by omega, rfl⟩, by simp [ssμ, ssEnv] <;> omega⟩
            simp [Eqns, Eqn.ok, ssEnv, SI.den, SS.den, SP.den, preCells, RX.flat, RX.ok, AV.val, rows1_lth, c, cur_0]
            try ((repeat' apply And.intro) <;> first | rfl | omega | exact rows1_ok _ | exact grow_ok _ | exact snoc1 (rows1_ok _) rfl | (intro xs hx; simpa [vstr] using wd_get hx) | (intro xs hx; exact grow_get hx))
      · simp [SB.den, SI.den, intCmp, ltInt_iff, ssEnv] at g2
        have he : (wd A i).length ≤ 0 ∨ 0 = 15 := by first | omega | simp_all
        have e := acc_same (G := G) cur_0 he (by omega)
        have e2 : vs A G (i + 1) = vs A G i := by rw [vs_of (by rw [e]; exact ha), vs_of ha, e]
        refine ⟨ssEnv A G (i + 1) 0, ?_, ⟨i + 1, by omega, by omega, by rw [e]; exact ha, rfl⟩, by simp [ssμ, ssEnv] <;> omega⟩
        simp [Eqns, Eqn.ok, ssEnv, SI.den, SS.den, SP.den, preCells, RX.flat, RX.ok, AV.val, rows1_lth, e2]
        try ((repeat' apply And.intro) <;> first | rfl | omega | exact rows1_ok _ | exact grow_ok _ | exact snoc1 (rows1_ok _) rfl | (intro xs hx; simpa [vstr] using wd_get hx) | (intro xs hx; exact grow_get hx))
    · simp [SB.den, SI.den, intCmp, ltInt_iff, ssEnv] at g1
      exact ⟨ssEnv A G i 0, eqns_nl, trivial⟩
  · simp [SB.den, SI.den, intCmp, ltInt_iff, ssEnv, rows1_lth] at g0
    exact ⟨ssEnv A G i 0, eqns_nl, trivial⟩
theorem snn3 {A : List (List UInt8)} {G : List Int} (hG : G = []) (hA : 0 < A.length) {ρ : Env} (hi : ssI A G 3 ρ) : OTok (ssI A G) ssμ (fun _ => True) 3 ρ sno3 := by
  obtain ⟨i, k, h1, h2, ha, h3, h4, rfl⟩ := hi
  simp only [sno3, OTok]
  refine ⟨fun g0 => ?_, fun g0 => ?_⟩
  · simp [SB.den, SI.den, intCmp, ltInt_iff, ssEnv] at g0
    refine ⟨fun g1 => ?_, fun g1 => ?_⟩
    · simp [SB.den, SI.den, intCmp, ltInt_iff, ssEnv] at g1
      refine ⟨fun g2 => ?_, fun g2 => ?_⟩
      · simp [SB.den, SI.den, intCmp, ltInt_iff, ssEnv] at g2
        refine ⟨fun g3 => ?_, fun g3 => ?_⟩
        · simp [SB.den, SI.den, intCmp, ltInt_iff, ssEnv] at g3
          have hk : k < (wd A i).length := by omega
          have c := cur_more hk
          rw [if_pos (show gd ((wd A i)[k]?.getD 0) = true by simp [gd]; omega)] at c
          refine ⟨ssEnv A G i (k + 1), ?_, ⟨i, k + 1, by omega, by omega, ha, by omega, by omega, rfl⟩, by simp [ssμ, ssEnv] <;> omega⟩
          simp [Eqns, Eqn.ok, ssEnv, SI.den, SS.den, SP.den, preCells, RX.flat, RX.ok, AV.val, rows1_lth, c]
          try ((repeat' apply And.intro) <;> first | rfl | omega | exact rows1_ok _ | exact grow_ok _ | exact snoc1 (rows1_ok _) rfl | (intro xs hx; simpa [vstr] using wd_get hx) | (intro xs hx; exact grow_get hx))
        · simp [SB.den, SI.den, intCmp, ltInt_iff, ssEnv] at g3
          refine ⟨fun g4 => ?_, fun g4 => ?_⟩
          · simp [SB.den, SI.den, intCmp, ltInt_iff, ssEnv] at g4
            have hk : k < (wd A i).length := by omega
            have c := cur_more hk
            rw [if_pos (show gd ((wd A i)[k]?.getD 0) = true by simp [gd]; omega)] at c
            refine ⟨ssEnv A G i (k + 1), ?_, ⟨i, k + 1, by omega, by omega, ha, by omega, by omega, rfl⟩, by simp [ssμ, ssEnv] <;> omega⟩
            simp [Eqns, Eqn.ok, ssEnv, SI.den, SS.den, SP.den, preCells, RX.flat, RX.ok, AV.val, rows1_lth, c]
            try ((repeat' apply And.intro) <;> first | rfl | omega | exact rows1_ok _ | exact grow_ok _ | exact snoc1 (rows1_ok _) rfl | (intro xs hx; simpa [vstr] using wd_get hx) | (intro xs hx; exact grow_get hx))
          · simp [SB.den, SI.den, intCmp, ltInt_iff, ssEnv] at g4
            have hk : k < (wd A i).length := by omega
            have c := cur_more hk
            rw [if_neg (show ¬ gd ((wd A i)[k]?.getD 0) = true by simp [gd]; omega)] at c
            refine ⟨ssEnv A G i (k + 1), ?_, ⟨i, k + 1, by omega, by omega, ha, by omega, by omega, rfl⟩, by simp [ssμ, ssEnv] <;> omega⟩
            simp [Eqns, Eqn.ok, ssEnv, SI.den, SS.den, SP.den, preCells, RX.flat, RX.ok, AV.val, rows1_lth, c]
            try ((repeat' apply And.intro) <;> first | rfl | omega | exact rows1_ok _ | exact grow_ok _ | exact snoc1 (rows1_ok _) rfl | (intro xs hx; simpa [vstr] using wd_get hx) | (intro xs hx; exact grow_get hx))
      · simp [SB.den, SI.den, intCmp, ltInt_iff, ssEnv] at g2
        refine ⟨fun g3 => ?_, fun g3 => ?_⟩
        · simp [SB.den, SI.den, intCmp, ltInt_iff, ssEnv] at g3
          refine ⟨fun g4 => ?_, fun g4 => ?_⟩
          · simp [SB.den, SI.den, intCmp, ltInt_iff, ssEnv] at g4
            have hk : k < (wd A i).length := by omega
            have c := cur_more hk
            rw [if_pos (show gd ((wd A i)[k]?.getD 0) = true by simp [gd]; omega)] at c
            refine ⟨ssEnv A G i (k + 1), ?_, ⟨i, k + 1, by omega, by omega, ha, by omega, by omega, rfl⟩, by simp [ssμ, ssEnv] <;> omega⟩
            simp [Eqns, Eqn.ok, ssEnv, SI.den, SS.den, SP.den, preCells, RX.flat, RX.ok, AV.val, rows1_lth, c]
            try ((repeat' apply And.intro) <;> first | rfl | omega | exact rows1_ok _ | exact grow_ok _ | exact snoc1 (rows1_ok _) rfl | (intro xs hx; simpa [vstr] using wd_get hx) | (intro xs hx; exact grow_get hx))
          · simp [SB.den, SI.den, intCmp, ltInt_iff, ssEnv] at g4
            have hk : k < (wd A i).length := by omega
            have c := cur_more hk
            rw [if_neg (show ¬ gd ((wd A i)[k]?.getD 0) = true by simp [gd]; omega)] at c
            refine ⟨ssEnv A G i (k + 1), ?_, ⟨i, k + 1, by omega, by omega, ha, by omega, by omega, rfl⟩, by simp [ssμ, ssEnv] <;> omega⟩
            simp [Eqns, Eqn.ok, ssEnv, SI.den, SS.den, SP.den, preCells, RX.flat, RX.ok, AV.val, rows1_lth, c]
            try ((repeat' apply And.intro) <;> first | rfl | omega | exact rows1_ok _ | exact grow_ok _ | exact snoc1 (rows1_ok _) rfl | (intro xs hx; simpa [vstr] using wd_get hx) | (intro xs hx; exact grow_get hx))
        · simp [SB.den, SI.den, intCmp, ltInt_iff, ssEnv] at g3
          have hk : k < (wd A i).length := by omega
          have c := cur_more hk
          rw [if_neg (show ¬ gd ((wd A i)[k]?.getD 0) = true by simp [gd]; omega)] at c
          refine ⟨ssEnv A G i (k + 1), ?_, ⟨i, k + 1, by omega, by omega, ha, by omega, by omega, rfl⟩, by simp [ssμ, ssEnv] <;> omega⟩
          simp [Eqns, Eqn.ok, ssEnv, SI.den, SS.den, SP.den, preCells, RX.flat, RX.ok, AV.val, rows1_lth, c]
          try ((repeat' apply And.intro) <;> first | rfl | omega | exact rows1_ok _ | exact grow_ok _ | exact snoc1 (rows1_ok _) rfl | (intro xs hx; simpa [vstr] using wd_get hx) | (intro xs hx; exact grow_get hx))
    · simp [SB.den, SI.den, intCmp, ltInt_iff, ssEnv] at g1
      refine ⟨fun g2 => ?_, fun g2 => ?_⟩
      · simp [SB.den, SI.den, intCmp, eqInt_iff, ssEnv] at g2
        have he : (wd A i).length ≤ k ∨ k = 15 := by omega
        have e := acc_same (G := G) (by assumption) he (by omega)
        refine ⟨ssEnv A G (i + 1) 0, ?_, ⟨i + 1, by omega, by omega, by rw [e]; exact ha, rfl⟩, by simp [ssμ, ssEnv] <;> omega⟩
        simp [Eqns, Eqn.ok, ssEnv, SI.den, SS.den, SP.den, preCells, RX.flat, RX.ok, AV.val, rows1_lth]
        try ((repeat' apply And.intro) <;> first | rfl | omega | exact rows1_ok _ | exact grow_ok _ | exact snoc1 (rows1_ok _) rfl | (intro xs hx; simpa [vstr] using wd_get hx) | (intro xs hx; exact grow_get hx))
      · simp [SB.den, SI.den, intCmp, eqInt_iff, ssEnv] at g2
        have he : (wd A i).length ≤ k ∨ k = 15 := by omega
        have e := acc_add (G := G) (by assumption) he (by omega)
        have hg : gapOf G i = [32] := by unfold gapOf; (repeat' split) <;> first | rfl | omega | (simp_all; done)
        rw [hg] at e
        have e2 : vs A G (i + 1) = acc A G (i + 1) := vs_of (by rw [e]; simp)
        rw [e] at e2
        rw [ha] at e2
        refine ⟨ssEnv A G (i + 1) 0, ?_, ⟨i + 1, by omega, by omega, by rw [e]; simp, rfl⟩, by simp [ssμ, ssEnv] <;> omega⟩
        simp [Eqns, Eqn.ok, ssEnv, SI.den, SS.den, SP.den, preCells, RX.flat, RX.ok, AV.val, rows1_one, rows1_lth, e2]
        try ((repeat' apply And.intro) <;> first | rfl | omega | exact rows1_ok _ | exact grow_ok _ | exact snoc1 (rows1_ok _) rfl | (intro xs hx; simpa [vstr] using wd_get hx) | (intro xs hx; exact grow_get hx))
  · simp [SB.den, SI.den, intCmp, ltInt_iff, ssEnv] at g0
    refine ⟨fun g1 => ?_, fun g1 => ?_⟩
    · simp [SB.den, SI.den, intCmp, eqInt_iff, ssEnv] at g1
      have he : (wd A i).length ≤ k ∨ k = 15 := by omega
      have e := acc_same (G := G) (by assumption) he (by omega)
      refine ⟨ssEnv A G (i + 1) 0, ?_, ⟨i + 1, by omega, by omega, by rw [e]; exact ha, rfl⟩, by simp [ssμ, ssEnv] <;> omega⟩
      simp [Eqns, Eqn.ok, ssEnv, SI.den, SS.den, SP.den, preCells, RX.flat, RX.ok, AV.val, rows1_lth]
      try ((repeat' apply And.intro) <;> first | rfl | omega | exact rows1_ok _ | exact grow_ok _ | exact snoc1 (rows1_ok _) rfl | (intro xs hx; simpa [vstr] using wd_get hx) | (intro xs hx; exact grow_get hx))
    · simp [SB.den, SI.den, intCmp, eqInt_iff, ssEnv] at g1
      have he : (wd A i).length ≤ k ∨ k = 15 := by omega
      have e := acc_add (G := G) (by assumption) he (by omega)
      have hg : gapOf G i = [32] := by unfold gapOf; (repeat' split) <;> first | rfl | omega | (simp_all; done)
      rw [hg] at e
      have e2 : vs A G (i + 1) = acc A G (i + 1) := vs_of (by rw [e]; simp)
      rw [e] at e2
      rw [ha] at e2
      refine ⟨ssEnv A G (i + 1) 0, ?_, ⟨i + 1, by omega, by omega, by rw [e]; simp, rfl⟩, by simp [ssμ, ssEnv] <;> omega⟩
      simp [Eqns, Eqn.ok, ssEnv, SI.den, SS.den, SP.den, preCells, RX.flat, RX.ok, AV.val, rows1_one, rows1_lth, e2]
      try ((repeat' apply And.intro) <;> first | rfl | omega | exact rows1_ok _ | exact grow_ok _ | exact snoc1 (rows1_ok _) rfl | (intro xs hx; simpa [vstr] using wd_get hx) | (intro xs hx; exact grow_get hx))
theorem snn4 {A : List (List UInt8)} {G : List Int} (hG : G = []) (hA : 0 < A.length) {ρ : Env} (hi : ssI A G 4 ρ) : OTok (ssI A G) ssμ (fun _ => True) 4 ρ sno4 := by
  obtain ⟨i, k, h1, h2, ha, h3, h4, rfl⟩ := hi
  simp only [sno4, OTok]
  refine ⟨fun g0 => ?_, fun g0 => ?_⟩
  · simp [SB.den, SI.den, intCmp, ltInt_iff, ssEnv] at g0
    refine ⟨fun g1 => ?_, fun g1 => ?_⟩
    · simp [SB.den, SI.den, intCmp, ltInt_iff, ssEnv] at g1
      refine ⟨fun g2 => ?_, fun g2 => ?_⟩
      · simp [SB.den, SI.den, intCmp, ltInt_iff, ssEnv] at g2
        refine ⟨fun g3 => ?_, fun g3 => ?_⟩
        · simp [SB.den, SI.den, intCmp, ltInt_iff, ssEnv] at g3
          have hk : k < (wd A i).length := by omega
          have c := cur_more hk
          rw [if_pos (show gd ((wd A i)[k]?.getD 0) = true by simp [gd]; omega)] at c
          refine ⟨ssEnv A G i (k + 1), ?_, ⟨i, k + 1, by omega, by omega, ha, by omega, by omega, rfl⟩, by simp [ssμ, ssEnv] <;> omega⟩
          simp [Eqns, Eqn.ok, ssEnv, SI.den, SS.den, SP.den, preCells, RX.flat, RX.ok, AV.val, rows1_lth, c]
          try ((repeat' apply And.intro) <;> first | rfl | omega | exact rows1_ok _ | exact grow_ok _ | exact snoc1 (rows1_ok _) rfl | (intro xs hx; simpa [vstr] using wd_get hx) | (intro xs hx; exact grow_get hx))
        · simp [SB.den, SI.den, intCmp, ltInt_iff, ssEnv] at g3
          refine ⟨fun g4 => ?_, fun g4 => ?_⟩
          · simp [SB.den, SI.den, intCmp, ltInt_iff, ssEnv] at g4
            have hk : k < (wd A i).length := by omega
            have c := cur_more hk
            rw [if_pos (show gd ((wd A i)[k]?.getD 0) = true by simp [gd]; omega)] at c
            refine ⟨ssEnv A G i (k + 1), ?_, ⟨i, k + 1, by omega, by omega, ha, by omega, by omega, rfl⟩, by simp [ssμ, ssEnv] <;> omega⟩
            simp [Eqns, Eqn.ok, ssEnv, SI.den, SS.den, SP.den, preCells, RX.flat, RX.ok, AV.val, rows1_lth, c]
            try ((repeat' apply And.intro) <;> first | rfl | omega | exact rows1_ok _ | exact grow_ok _ | exact snoc1 (rows1_ok _) rfl | (intro xs hx; simpa [vstr] using wd_get hx) | (intro xs hx; exact grow_get hx))
          · simp [SB.den, SI.den, intCmp, ltInt_iff, ssEnv] at g4
            have hk : k < (wd A i).length := by omega
            have c := cur_more hk
            rw [if_neg (show ¬ gd ((wd A i)[k]?.getD 0) = true by simp [gd]; omega)] at c
            refine ⟨ssEnv A G i (k + 1), ?_, ⟨i, k + 1, by omega, by omega, ha, by omega, by omega, rfl⟩, by simp [ssμ, ssEnv] <;> omega⟩
            simp [Eqns, Eqn.ok, ssEnv, SI.den, SS.den, SP.den, preCells, RX.flat, RX.ok, AV.val, rows1_lth, c]
            try ((repeat' apply And.intro) <;> first | rfl | omega | exact rows1_ok _ | exact grow_ok _ | exact snoc1 (rows1_ok _) rfl | (intro xs hx; simpa [vstr] using wd_get hx) | (intro xs hx; exact grow_get hx))
      · simp [SB.den, SI.den, intCmp, ltInt_iff, ssEnv] at g2
        refine ⟨fun g3 => ?_, fun g3 => ?_⟩
        · simp [SB.den, SI.den, intCmp, ltInt_iff, ssEnv] at g3
          refine ⟨fun g4 => ?_, fun g4 => ?_⟩
          · simp [SB.den, SI.den, intCmp, ltInt_iff, ssEnv] at g4
            have hk : k < (wd A i).length := by omega
            have c := cur_more hk
            rw [if_pos (show gd ((wd A i)[k]?.getD 0) = true by simp [gd]; omega)] at c
            refine ⟨ssEnv A G i (k + 1), ?_, ⟨i, k + 1, by omega, by omega, ha, by omega, by omega, rfl⟩, by simp [ssμ, ssEnv] <;> omega⟩
            simp [Eqns, Eqn.ok, ssEnv, SI.den, SS.den, SP.den, preCells, RX.flat, RX.ok, AV.val, rows1_lth, c]
            try ((repeat' apply And.intro) <;> first | rfl | omega | exact rows1_ok _ | exact grow_ok _ | exact snoc1 (rows1_ok _) rfl | (intro xs hx; simpa [vstr] using wd_get hx) | (intro xs hx; exact grow_get hx))
          · simp [SB.den, SI.den, intCmp, ltInt_iff, ssEnv] at g4
            have hk : k < (wd A i).length := by omega
            have c := cur_more hk
            rw [if_neg (show ¬ gd ((wd A i)[k]?.getD 0) = true by simp [gd]; omega)] at c
            refine ⟨ssEnv A G i (k + 1), ?_, ⟨i, k + 1, by omega, by omega, ha, by omega, by omega, rfl⟩, by simp [ssμ, ssEnv] <;> omega⟩
            simp [Eqns, Eqn.ok, ssEnv, SI.den, SS.den, SP.den, preCells, RX.flat, RX.ok, AV.val, rows1_lth, c]
            try ((repeat' apply And.intro) <;> first | rfl | omega | exact rows1_ok _ | exact grow_ok _ | exact snoc1 (rows1_ok _) rfl | (intro xs hx; simpa [vstr] using wd_get hx) | (intro xs hx; exact grow_get hx))
        · simp [SB.den, SI.den, intCmp, ltInt_iff, ssEnv] at g3
          have hk : k < (wd A i).length := by omega
          have c := cur_more hk
          rw [if_neg (show ¬ gd ((wd A i)[k]?.getD 0) = true by simp [gd]; omega)] at c
          refine ⟨ssEnv A G i (k + 1), ?_, ⟨i, k + 1, by omega, by omega, ha, by omega, by omega, rfl⟩, by simp [ssμ, ssEnv] <;> omega⟩
          simp [Eqns, Eqn.ok, ssEnv, SI.den, SS.den, SP.den, preCells, RX.flat, RX.ok, AV.val, rows1_lth, c]
          try ((repeat' apply And.intro) <;> first | rfl | omega | exact rows1_ok _ | exact grow_ok _ | exact snoc1 (rows1_ok _) rfl | (intro xs hx; simpa [vstr] using wd_get hx) | (intro xs hx; exact grow_get hx))
    · simp [SB.den, SI.den, intCmp, ltInt_iff, ssEnv] at g1
      refine ⟨fun g2 => ?_, fun g2 => ?_⟩
      · simp [SB.den, SI.den, intCmp, eqInt_iff, ssEnv] at g2
        have he : (wd A i).length ≤ k ∨ k = 15 := by omega
        have e := acc_same (G := G) (by assumption) he (by omega)
        have e2 : vs A G (i + 1) = vs A G i := by rw [vs_of (by rw [e]; exact ha), vs_of ha, e]
        refine ⟨ssEnv A G (i + 1) 0, ?_, ⟨i + 1, by omega, by omega, by rw [e]; exact ha, rfl⟩, by simp [ssμ, ssEnv] <;> omega⟩
        simp [Eqns, Eqn.ok, ssEnv, SI.den, SS.den, SP.den, preCells, RX.flat, RX.ok, AV.val, rows1_lth, e2]
        try ((repeat' apply And.intro) <;> first | rfl | omega | exact rows1_ok _ | exact grow_ok _ | exact snoc1 (rows1_ok _) rfl | (intro xs hx; simpa [vstr] using wd_get hx) | (intro xs hx; exact grow_get hx))
      · simp [SB.den, SI.den, intCmp, eqInt_iff, ssEnv] at g2
        have he : (wd A i).length ≤ k ∨ k = 15 := by omega
        have e := acc_add (G := G) (by assumption) he (by omega)
        have hg : gapOf G i = [32] := by unfold gapOf; (repeat' split) <;> first | rfl | omega | (simp_all; done)
        rw [hg] at e
        have e2 : vs A G (i + 1) = acc A G (i + 1) := vs_of (by rw [e]; simp)
        rw [e] at e2
        rw [← vs_of ha] at e2
        refine ⟨ssEnv A G (i + 1) 0, ?_, ⟨i + 1, by omega, by omega, by rw [e]; simp, rfl⟩, by simp [ssμ, ssEnv] <;> omega⟩
        simp [Eqns, Eqn.ok, ssEnv, SI.den, SS.den, SP.den, preCells, RX.flat, RX.ok, AV.val, rows1_snoc, rows1_lth, e2]
        try ((repeat' apply And.intro) <;> first | rfl | omega | exact rows1_ok _ | exact grow_ok _ | exact snoc1 (rows1_ok _) rfl | (intro xs hx; simpa [vstr] using wd_get hx) | (intro xs hx; exact grow_get hx))
  · simp [SB.den, SI.den, intCmp, ltInt_iff, ssEnv] at g0
    refine ⟨fun g1 => ?_, fun g1 => ?_⟩
    · simp [SB.den, SI.den, intCmp, eqInt_iff, ssEnv] at g1
      have he : (wd A i).length ≤ k ∨ k = 15 := by omega
      have e := acc_same (G := G) (by assumption) he (by omega)
      have e2 : vs A G (i + 1) = vs A G i := by rw [vs_of (by rw [e]; exact ha), vs_of ha, e]
      refine ⟨ssEnv A G (i + 1) 0, ?_, ⟨i + 1, by omega, by omega, by rw [e]; exact ha, rfl⟩, by simp [ssμ, ssEnv] <;> omega⟩
      simp [Eqns, Eqn.ok, ssEnv, SI.den, SS.den, SP.den, preCells, RX.flat, RX.ok, AV.val, rows1_lth, e2]
      try ((repeat' apply And.intro) <;> first | rfl | omega | exact rows1_ok _ | exact grow_ok _ | exact snoc1 (rows1_ok _) rfl | (intro xs hx; simpa [vstr] using wd_get hx) | (intro xs hx; exact grow_get hx))
    · simp [SB.den, SI.den, intCmp, eqInt_iff, ssEnv] at g1
      have he : (wd A i).length ≤ k ∨ k = 15 := by omega
      have e := acc_add (G := G) (by assumption) he (by omega)
      have hg : gapOf G i = [32] := by unfold gapOf; (repeat' split) <;> first | rfl | omega | (simp_all; done)
      rw [hg] at e
      have e2 : vs A G (i + 1) = acc A G (i + 1) := vs_of (by rw [e]; simp)
      rw [e] at e2
      rw [← vs_of ha] at e2
      refine ⟨ssEnv A G (i + 1) 0, ?_, ⟨i + 1, by omega, by omega, by rw [e]; simp, rfl⟩, by simp [ssμ, ssEnv] <;> omega⟩
      simp [Eqns, Eqn.ok, ssEnv, SI.den, SS.den, SP.den, preCells, RX.flat, RX.ok, AV.val, rows1_snoc, rows1_lth, e2]
      try ((repeat' apply And.intro) <;> first | rfl | omega | exact rows1_ok _ | exact grow_ok _ | exact snoc1 (rows1_ok _) rfl | (intro xs hx; simpa [vstr] using wd_get hx) | (intro xs hx; exact grow_get hx))
theorem sen0 {A : List (List UInt8)} {G : List Int} (hG : G = []) (hA : 0 < A.length) {ρ : Env} (hi : ssI A G 0 ρ) : OTok (ssI A G) ssμ (fun _ => True) 0 ρ seo0 := by
  replace hi : ρ = ssEnv A G 0 0 := hi
  subst hi
  simp only [seo0, OTok]
  refine ⟨fun g0 => ?_, fun g0 => ?_⟩
  · simp [SB.den, SI.den, intCmp, ltInt_iff, ssEnv] at g0
    refine ⟨fun g1 => ?_, fun g1 => ?_⟩
    · simp [SB.den, SI.den, intCmp, ltInt_iff, ssEnv] at g1
      refine ⟨fun g2 => ?_, fun g2 => ?_⟩
      · simp [SB.den, SI.den, intCmp, ltInt_iff, ssEnv] at g2
        have hk : 0 < (wd A 0).length := by omega
        have c := cur_more hk
        rw [if_pos (show gd ((wd A 0)[0]?.getD 0) = true by simp [gd]; omega)] at c
        refine ⟨ssEnv A G 0 (0 + 1), ?_, ⟨0, 0 + 1, by omega, hA, rfl, by omega, by omega, rfl⟩, by simp [ssμ, ssEnv] <;> omega⟩
        simp [Eqns, Eqn.ok, ssEnv, SI.den, SS.den, SP.den, preCells, RX.flat, RX.ok, AV.val, rows1_lth, c, cur_0]
        try ((repeat' apply And.intro) <;> first | rfl | omega | exact rows1_ok _ | exact grow_ok _ | exact snoc1 (rows1_ok _) rfl | (intro xs hx; simpa [vstr] using wd_get hx) | (intro xs hx; exact grow_get hx))
      · simp [SB.den, SI.den, intCmp, ltInt_iff, ssEnv] at g2
        refine ⟨fun g3 => ?_, fun g3 => ?_⟩
        · simp [SB.den, SI.den, intCmp, ltInt_iff, ssEnv] at g3
          have hk : 0 < (wd A 0).length := by omega
          have c := cur_more hk
          rw [if_pos (show gd ((wd A 0)[0]?.getD 0) = true by simp [gd]; omega)] at c
          refine ⟨ssEnv A G 0 (0 + 1), ?_, ⟨0, 0 + 1, by omega, hA, rfl, by omega, by omega, rfl⟩, by simp [ssμ, ssEnv] <;> omega⟩
          simp [Eqns, Eqn.ok, ssEnv, SI.den, SS.den, SP.den, preCells, RX.flat, RX.ok, AV.val, rows1_lth, c, cur_0]
          try ((repeat' apply And.intro) <;> first | rfl | omega | exact rows1_ok _ | exact grow_ok _ | exact snoc1 (rows1_ok _) rfl | (intro xs hx; simpa [vstr] using wd_get hx) | (intro xs hx; exact grow_get hx))
        · simp [SB.den, SI.den, intCmp, ltInt_iff, ssEnv] at g3
          have hk : 0 < (wd A 0).length := by omega
          have c := cur_more hk
          rw [if_neg (show ¬ gd ((wd A 0)[0]?.getD 0) = true by simp [gd]; omega)] at c
          refine ⟨ssEnv A G 0 (0 + 1), ?_, ⟨0, 0 + 1, by omega, hA, rfl, by omega, by omega, rfl⟩, by simp [ssμ, ssEnv] <;> omega⟩
          simp [Eqns, Eqn.ok, ssEnv, SI.den, SS.den, SP.den, preCells, RX.flat, RX.ok, AV.val, rows1_lth, c, cur_0]
          try ((repeat' apply And.intro) <;> first | rfl | omega | exact rows1_ok _ | exact grow_ok _ | exact snoc1 (rows1_ok _) rfl | (intro xs hx; simpa [vstr] using wd_get hx) | (intro xs hx; exact grow_get hx))
    · simp [SB.den, SI.den, intCmp, ltInt_iff, ssEnv] at g1
      refine ⟨fun g2 => ?_, fun g2 => ?_⟩
      · simp [SB.den, SI.den, intCmp, ltInt_iff, ssEnv] at g2
        refine ⟨fun g3 => ?_, fun g3 => ?_⟩
        · simp [SB.den, SI.den, intCmp, ltInt_iff, ssEnv] at g3
          have hk : 0 < (wd A 0).length := by omega
          have c := cur_more hk
          rw [if_pos (show gd ((wd A 0)[0]?.getD 0) = true by simp [gd]; omega)] at c
          refine ⟨ssEnv A G 0 (0 + 1), ?_, ⟨0, 0 + 1, by omega, hA, rfl, by omega, by omega, rfl⟩, by simp [ssμ, ssEnv] <;> omega⟩
          simp [Eqns, Eqn.ok, ssEnv, SI.den, SS.den, SP.den, preCells, RX.flat, RX.ok, AV.val, rows1_lth, c, cur_0]
          try ((repeat' apply And.intro) <;> first | rfl | omega | exact rows1_ok _ | exact grow_ok _ | exact snoc1 (rows1_ok _) rfl | (intro xs hx; simpa [vstr] using wd_get hx) | (intro xs hx; exact grow_get hx))
        · simp [SB.den, SI.den, intCmp, ltInt_iff, ssEnv] at g3
          have hk : 0 < (wd A 0).length := by omega
          have c := cur_more hk
          rw [if_neg (show ¬ gd ((wd A 0)[0]?.getD 0) = true by simp [gd]; omega)] at c
          refine ⟨ssEnv A G 0 (0 + 1), ?_, ⟨0, 0 + 1, by omega, hA, rfl, by omega, by omega, rfl⟩, by simp [ssμ, ssEnv] <;> omega⟩
          simp [Eqns, Eqn.ok, ssEnv, SI.den, SS.den, SP.den, preCells, RX.flat, RX.ok, AV.val, rows1_lth, c, cur_0]
          try ((repeat' apply And.intro) <;> first | rfl | omega | exact rows1_ok _ | exact grow_ok _ | exact snoc1 (rows1_ok _) rfl | (intro xs hx; simpa [vstr] using wd_get hx) | (intro xs hx; exact grow_get hx))
      · simp [SB.den, SI.den, intCmp, ltInt_iff, ssEnv] at g2
        have hk : 0 < (wd A 0).length := by omega
        have c := cur_more hk
        rw [if_neg (show ¬ gd ((wd A 0)[0]?.getD 0) = true by simp [gd]; omega)] at c
        refine ⟨ssEnv A G 0 (0 + 1), ?_, ⟨0, 0 + 1, by omega, hA, rfl, by omega, by omega, rfl⟩, by simp [ssμ, ssEnv] <;> omega⟩
        simp [Eqns, Eqn.ok, ssEnv, SI.den, SS.den, SP.den, preCells, RX.flat, RX.ok, AV.val, rows1_lth, c, cur_0]
        try ((repeat' apply And.intro) <;> first | rfl | omega | exact rows1_ok _ | exact grow_ok _ | exact snoc1 (rows1_ok _) rfl | (intro xs hx; simpa [vstr] using wd_get hx) | (intro xs hx; exact grow_get hx))
  · simp [SB.den, SI.den, intCmp, ltInt_iff, ssEnv] at g0
    have he : (wd A 0).length ≤ 0 ∨ 0 = 15 := by first | omega | simp_all
    have e := acc_same (G := G) cur_0 he (by omega)
    refine ⟨ssEnv A G (0 + 1) 0, ?_, ⟨0 + 1, by omega, hA, by rw [e]; rfl, rfl⟩, by simp [ssμ, ssEnv] <;> omega⟩
    simp [Eqns, Eqn.ok, ssEnv, SI.den, SS.den, SP.den, preCells, RX.flat, RX.ok, AV.val, rows1_lth]
    try ((repeat' apply And.intro) <;> first | rfl | omega | exact rows1_ok _ | exact grow_ok _ | exact snoc1 (rows1_ok _) rfl | (intro xs hx; simpa [vstr] using wd_get hx) | (intro xs hx; exact grow_get hx))
theorem sen1 {A : List (List UInt8)} {G : List Int} (hG : G = []) (hA : 0 < A.length) {ρ : Env} (hi : ssI A G 1 ρ) : OTok (ssI A G) ssμ (fun _ => True) 1 ρ seo1 := by
  obtain ⟨i, h1, h2, ha, rfl⟩ := hi
  simp only [seo1, OTok]
  refine ⟨fun g0 => ?_, fun g0 => ?_⟩
  · simp [SB.den, SI.den, intCmp, ltInt_iff, ssEnv, rows1_lth] at g0
    refine ⟨fun g1 => ?_, fun g1 => ?_⟩
    · simp [SB.den, SI.den, intCmp, ltInt_iff, ssEnv] at g1
      refine ⟨fun g2 => ?_, fun g2 => ?_⟩
      · simp [SB.den, SI.den, intCmp, ltInt_iff, ssEnv] at g2
        refine ⟨fun g3 => ?_, fun g3 => ?_⟩
        · simp [SB.den, SI.den, intCmp, ltInt_iff, ssEnv] at g3
          refine ⟨fun g4 => ?_, fun g4 => ?_⟩
          · simp [SB.den, SI.den, intCmp, ltInt_iff, ssEnv] at g4
            have hk : 0 < (wd A i).length := by omega
            have c := cur_more hk
            rw [if_pos (show gd ((wd A i)[0]?.getD 0) = true by simp [gd]; omega)] at c
            refine ⟨ssEnv A G i (0 + 1), ?_, ⟨i, 0 + 1, by omega, by omega, ha, by omega, by omega, rfl⟩, by simp [ssμ, ssEnv] <;> omega⟩
            simp [Eqns, Eqn.ok, ssEnv, SI.den, SS.den, SP.den, preCells, RX.flat, RX.ok, AV.val, rows1_lth, c, cur_0]
            try ((repeat' apply And.intro) <;> first | rfl | omega | exact rows1_ok _ | exact grow_ok _ | exact snoc1 (rows1_ok _) rfl | (intro xs hx; simpa [vstr] using wd_get hx) | (intro xs hx; exact grow_get hx))
          · simp [SB.den, SI.den, intCmp, ltInt_iff, ssEnv] at g4
            refine ⟨fun g5 => ?_, fun g5 => ?_⟩
            · simp [SB.den, SI.den, intCmp, ltInt_iff, ssEnv] at g5
              have hk : 0 < (wd A i).length := by omega
              have c := cur_more hk
              rw [if_pos (show gd ((wd A i)[0]?.getD 0) = true by simp [gd]; omega)] at c
              refine ⟨ssEnv A G i (0 + 1), ?_, ⟨i, 0 + 1, by omega, by omega, ha, by omega, by omega, rfl⟩, by simp [ssμ, ssEnv] <;> omega⟩
              simp [Eqns, Eqn.ok, ssEnv, SI.den, SS.den, SP.den, preCells, RX.flat, RX.ok, AV.val, rows1_lth, c, cur_0]
              try ((repeat' apply And.intro) <;> first | rfl | omega | exact rows1_ok _ | exact grow_ok _ | exact snoc1 (rows1_ok _) rfl | (intro xs hx; simpa [vstr] using wd_get hx) | (intro xs hx; exact grow_get hx))
            · simp [SB.den, SI.den, intCmp, ltInt_iff, ssEnv] at g5
              have hk : 0 < (wd A i).length := by omega
              have c := cur_more hk
              rw [if_neg (show ¬ gd ((wd A i)[0]?.getD 0) = true by simp [gd]; omega)] at c
              refine ⟨ssEnv A G i (0 + 1), ?_, ⟨i, 0 + 1, by omega, by omega, ha, by omega, by omega, rfl⟩, by simp [ssμ, ssEnv] <;> omega⟩
              simp [Eqns, Eqn.ok, ssEnv, SI.den, SS.den, SP.den, preCells, RX.flat, RX.ok, AV.val, rows1_lth, c, cur_0]
              try ((repeat' apply And.intro) <;> first | rfl | omega | exact rows1_ok _ | exact grow_ok _ | exact snoc1 (rows1_ok _) rfl | (intro xs hx; simpa [vstr] using wd_get hx) | (intro xs hx; exact grow_get hx))
        · simp [SB.den, SI.den, intCmp, ltInt_iff, ssEnv] at g3
          refine ⟨fun g4 => ?_, fun g4 => ?_⟩
          · simp [SB.den, SI.den, intCmp, ltInt_iff, ssEnv] at g4
            refine ⟨fun g5 => ?_, fun g5 => ?_⟩
            · simp [SB.den, SI.den, intCmp, ltInt_iff, ssEnv] at g5
              have hk : 0 < (wd A i).length := by omega
              have c := cur_more hk
              rw [if_pos (show gd ((wd A i)[0]?.getD 0) = true by simp [gd]; omega)] at c
              refine ⟨ssEnv A G i (0 + 1), ?_, ⟨i, 0 + 1, by omega, by omega, ha, by omega, by omega, rfl⟩, by simp [ssμ, ssEnv] <;> omega⟩
              simp [Eqns, Eqn.ok, ssEnv, SI.den, SS.den, SP.den, preCells, RX.flat, RX.ok, AV.val, rows1_lth, c, cur_0]
              try ((repeat' apply And.intro) <;> first | rfl | omega | exact rows1_ok _ | exact grow_ok _ | exact snoc1 (rows1_ok _) rfl | (intro xs hx; simpa [vstr] using wd_get hx) | (intro xs hx; exact grow_get hx))
            · simp [SB.den, SI.den, intCmp, ltInt_iff, ssEnv] at g5
              have hk : 0 < (wd A i).length := by omega
              have c := cur_more hk
              rw [if_neg (show ¬ gd ((wd A i)[0]?.getD 0) = true by simp [gd]; omega)] at c
              refine ⟨ssEnv A G i (0 + 1), ?_, ⟨i, 0 + 1, by omega, by omega, ha, by omega, by omega, rfl⟩, by simp [ssμ, ssEnv] <;> omega⟩
              simp [Eqns, Eqn.ok, ssEnv, SI.den, SS.den, SP.den, preCells, RX.flat, RX.ok, AV.val, rows1_lth, c, cur_0]
              try ((repeat' apply And.intro) <;> first | rfl | omega | exact rows1_ok _ | exact grow_ok _ | exact snoc1 (rows1_ok _) rfl | (intro xs hx; simpa [vstr] using wd_get hx) | (intro xs hx; exact grow_get hx))
          · simp [SB.den, SI.den, intCmp, ltInt_iff, ssEnv] at g4
            have hk : 0 < (wd A i).length := by omega
            have c := cur_more hk
            rw [if_neg (show ¬ gd ((wd A i)[0]?.getD 0) = true by simp [gd]; omega)] at c
            refine ⟨ssEnv A G i (0 + 1), ?_, ⟨i, 0 + 1, by omega, by omega, ha, by omega, by omega, rfl⟩, by simp [ssμ, ssEnv] <;> omega⟩
            simp [Eqns, Eqn.ok, ssEnv, SI.den, SS.den, SP.den, preCells, RX.flat, RX.ok, AV.val, rows1_lth, c, cur_0]
            try ((repeat' apply And.intro) <;> first | rfl | omega | exact rows1_ok _ | exact grow_ok _ | exact snoc1 (rows1_ok _) rfl | (intro xs hx; simpa [vstr] using wd_get hx) | (intro xs hx; exact grow_get hx))
      · simp [SB.den, SI.den, intCmp, ltInt_iff, ssEnv] at g2
        have he : (wd A i).length ≤ 0 ∨ 0 = 15 := by first | omega | simp_all
        have e := acc_same (G := G) cur_0 he (by omega)
        refine ⟨ssEnv A G (i + 1) 0, ?_, ⟨i + 1, by omega, by omega, by rw [e]; exact ha, rfl⟩, by simp [ssμ, ssEnv] <;> omega⟩
        simp [Eqns, Eqn.ok, ssEnv, SI.den, SS.den, SP.den, preCells, RX.flat, RX.ok, AV.val, rows1_lth]
        try ((repeat' apply And.intro) <;> first | rfl | omega | exact rows1_ok _ | exact grow_ok _ | exact snoc1 (rows1_ok _) rfl | (intro xs hx; simpa [vstr] using wd_get hx) | (intro xs hx; exact grow_get hx))
    · simp [SB.den, SI.den, intCmp, ltInt_iff, ssEnv] at g1
      exact ⟨ssEnv A G i 0, eqns_nl, trivial⟩
  · simp [SB.den, SI.den, intCmp, ltInt_iff, ssEnv, rows1_lth] at g0
    exact ⟨ssEnv A G i 0, eqns_nl, trivial⟩
theorem sen2 {A : List (List UInt8)} {G : List Int} (hG : G = []) (hA : 0 < A.length) {ρ : Env} (hi : ssI A G 2 ρ) : OTok (ssI A G) ssμ (fun _ => True) 2 ρ seo2 := by
  obtain ⟨i, h1, h2, ha, rfl⟩ := hi
  simp only [seo2, OTok]
  refine ⟨fun g0 => ?_, fun g0 => ?_⟩
  · simp [SB.den, SI.den, intCmp, ltInt_iff, ssEnv, rows1_lth] at g0
    refine ⟨fun g1 => ?_, fun g1 => ?_⟩
    · simp [SB.den, SI.den, intCmp, ltInt_iff, ssEnv] at g1
      refine ⟨fun g2 => ?_, fun g2 => ?_⟩
      · simp [SB.den, SI.den, intCmp, ltInt_iff, ssEnv] at g2
        refine ⟨fun g3 => ?_, fun g3 => ?_⟩
        · simp [SB.den, SI.den, intCmp, ltInt_iff, ssEnv] at g3
          refine ⟨fun g4 => ?_, fun g4 => ?_⟩
          · simp [SB.den, SI.den, intCmp, ltInt_iff, ssEnv] at g4
            have hk : 0 < (wd A i).length := by omega
            have c := cur_more hk
            rw [if_pos (show gd ((wd A i)[0]?.getD 0) = true by simp [gd]; omega)] at c
            refine ⟨ssEnv A G i (0 + 1), ?_, ⟨i, 0 + 1, by omega, by omega, ha, by omega, by omega, rfl⟩, by simp [ssμ, ssEnv] <;> omega⟩
            simp [Eqns, Eqn.ok, ssEnv, SI.den, SS.den, SP.den, preCells, RX.flat, RX.ok, AV.val, rows1_lth, c, cur_0]
            try ((repeat' apply And.intro) <;> first | rfl | omega | exact rows1_ok _ | exact grow_ok _ | exact snoc1 (rows1_ok _) rfl | (intro xs hx; simpa [vstr] using wd_get hx) | (intro xs hx; exact grow_get hx))
          · simp [SB.den, SI.den, intCmp, ltInt_iff, ssEnv] at g4
            refine ⟨fun g5 => ?_, fun g5 => ?_⟩
            · simp [SB.den, SI.den, intCmp, ltInt_iff, ssEnv] at g5
              have hk : 0 < (wd A i).length := by omega
              have c := cur_more hk
              rw [if_pos (show gd ((wd A i)[0]?.getD 0) = true by simp [gd]; omega)] at c
              refine ⟨ssEnv A G i (0 + 1), ?_, ⟨i, 0 + 1, by omega, by omega, ha, by omega, by omega, rfl⟩, by simp [ssμ, ssEnv] <;> omega⟩
              simp [Eqns, Eqn.ok, ssEnv, SI.den, SS.den, SP.den, preCells, RX.flat, RX.ok, AV.val, rows1_lth, c, cur_0]
              try ((repeat' apply And.intro) <;> first | rfl | omega | exact rows1_ok _ | exact grow_ok _ | exact snoc1 (rows1_ok _) rfl | (intro xs hx; simpa [vstr] using wd_get hx) | (intro xs hx; exact grow_get hx))
            · simp [SB.den, SI.den, intCmp, ltInt_iff, ssEnv] at g5
              have hk : 0 < (wd A i).length := by omega
              have c := cur_more hk
              rw [if_neg (show ¬ gd ((wd A i)[0]?.getD 0) = true by simp [gd]; omega)] at c
              refine ⟨ssEnv A G i (0 + 1), ?_, ⟨i, 0 + 1, by omega, by omega, ha, by omega, by omega, rfl⟩, by simp [ssμ, ssEnv] <;> omega⟩
              simp [Eqns, Eqn.ok, ssEnv, SI.den, SS.den, SP.den, preCells, RX.flat, RX.ok, AV.val, rows1_lth, c, cur_0]
              try ((repeat' apply And.intro) <;> first | rfl | omega | exact rows1_ok _ | exact grow_ok _ | exact snoc1 (rows1_ok _) rfl | (intro xs hx; simpa [vstr] using wd_get hx) | (intro xs hx; exact grow_get hx))
        · simp [SB.den, SI.den, intCmp, ltInt_iff, ssEnv] at g3
          refine ⟨fun g4 => ?_, fun g4 => ?_⟩
          · simp [SB.den, SI.den, intCmp, ltInt_iff, ssEnv] at g4
            refine ⟨fun g5 => ?_, fun g5 => ?_⟩
            · simp [SB.den, SI.den, intCmp, ltInt_iff, ssEnv] at g5
              have hk : 0 < (wd A i).length := by omega
              have c := cur_more hk
              rw [if_pos (show gd ((wd A i)[0]?.getD 0) = true by simp [gd]; omega)] at c
              refine ⟨ssEnv A G i (0 + 1), ?_, ⟨i, 0 + 1, by omega, by omega, ha, by omega, by omega, rfl⟩, by simp [ssμ, ssEnv] <;> omega⟩
              simp [Eqns, Eqn.ok, ssEnv, SI.den, SS.den, SP.den, preCells, RX.flat, RX.ok, AV.val, rows1_lth, c, cur_0]
              try ((repeat' apply And.intro) <;> first | rfl | omega | exact rows1_ok _ | exact grow_ok _ | exact snoc1 (rows1_ok _) rfl | (intro xs hx; simpa [vstr] using wd_get hx) | (intro xs hx; exact grow_get hx))
            · simp [SB.den, SI.den, intCmp, ltInt_iff, ssEnv] at g5
              have hk : 0 < (wd A i).length := by omega
              have c := cur_more hk
              rw [if_neg (show ¬ gd ((wd A i)[0]?.getD 0) = true by simp [gd]; omega)] at c
              refine ⟨ssEnv A G i (0 + 1), ?_, ⟨i, 0 + 1, by omega, by omega, ha, by omega, by omega, rfl⟩, by simp [ssμ, ssEnv] <;> omega⟩
              simp [Eqns, Eqn.ok, ssEnv, SI.den, SS.den, SP.den, preCells, RX.flat, RX.ok, AV.val, rows1_lth, c, cur_0]
              try ((repeat' apply And.intro) <;> first | rfl | omega | exact rows1_ok _ | exact grow_ok _ | exact snoc1 (rows1_ok _) rfl | (intro xs hx; simpa [vstr] using wd_get hx) | (intro xs hx; exact grow_get hx))
          · simp [SB.den, SI.den, intCmp, ltInt_iff, ssEnv] at g4
            have hk : 0 < (wd A i).length := by omega
            have c := cur_more hk
            rw [if_neg (show ¬ gd ((wd A i)[0]?.getD 0) = true by simp [gd]; omega)] at c
            refine ⟨ssEnv A G i (0 + 1), ?_, ⟨i, 0 + 1, by omega, by omega, ha, by omega, by omega, rfl⟩, by simp [ssμ, ssEnv] <;> omega⟩
            simp [Eqns, Eqn.ok, ssEnv, SI.den, SS.den, SP.den, preCells, RX.flat, RX.ok, AV.val, rows1_lth, c, cur_0]
            try ((repeat' apply And.intro) <;> first | rfl | omega | exact rows1_ok _ | exact grow_ok _ | exact snoc1 (rows1_ok _) rfl | (intro xs hx; simpa [vstr] using wd_get hx) | (intro xs hx; exact grow_get hx))
      · simp [SB.den, SI.den, intCmp, ltInt_iff, ssEnv] at g2
        have he : (wd A i).length ≤ 0 ∨ 0 = 15 := by first | omega | simp_all
        have e := acc_same (G := G) cur_0 he (by omega)
        have e2 : vs A G (i + 1) = vs A G i := by rw [vs_of (by rw [e]; exact ha), vs_of ha, e]
        refine ⟨ssEnv A G (i + 1) 0, ?_, ⟨i + 1, by omega, by omega, by rw [e]; exact ha, rfl⟩, by simp [ssμ, ssEnv] <;> omega⟩
        simp [Eqns, Eqn.ok, ssEnv, SI.den, SS.den, SP.den, preCells, RX.flat, RX.ok, AV.val, rows1_lth, e2]
        try ((repeat' apply And.intro) <;> first | rfl | omega | exact rows1_ok _ | exact grow_ok _ | exact snoc1 (rows1_ok _) rfl | (intro xs hx; simpa [vstr] using wd_get hx) | (intro xs hx; exact grow_get hx))
    · simp [SB.den, SI.den, intCmp, ltInt_iff, ssEnv] at g1
      exact ⟨ssEnv A G i 0, eqns_nl, trivial⟩
  · simp [SB.den, SI.den, intCmp, ltInt_iff, ssEnv, rows1_lth] at g0
    exact ⟨ssEnv A G i 0, eqns_nl, trivial⟩
theorem sen3 {A : List (List UInt8)} {G : List Int} (hG : G = []) (hA : 0 < A.length) {ρ : Env} (hi : ssI A G 3 ρ) : OTok (ssI A G) ssμ (fun _ => True) 3 ρ seo3 := by
  obtain ⟨i, k, h1, h2, ha, h3, h4, rfl⟩ := hi
  simp only [seo3, OTok]
  refine ⟨fun g0 => ?_, fun g0 => ?_⟩
  · simp [SB.den, SI.den, intCmp, ltInt_iff, ssEnv] at g0
    refine ⟨fun g1 => ?_, fun g1 => ?_⟩
    · simp [SB.den, SI.den, intCmp, ltInt_iff, ssEnv] at g1
      refine ⟨fun g2 => ?_, fun g2 => ?_⟩
      · simp [SB.den, SI.den, intCmp, ltInt_iff, ssEnv] at g2
        refine ⟨fun g3 => ?_, fun g3 => ?_⟩
        · simp [SB.den, SI.den, intCmp, ltInt_iff, ssEnv] at g3
          have hk : k < (wd A i).length := by omega
          have c := cur_more hk
          rw [if_pos (show gd ((wd A i)[k]?.getD 0) = true by simp [gd]; omega)] at c
          refine ⟨ssEnv A G i (k + 1), ?_, ⟨i, k + 1, by omega, by omega, ha, by omega, by omega, rfl⟩, by simp [ssμ, ssEnv] <;> omega⟩
          simp [Eqns, Eqn.ok, ssEnv, SI.den, SS.den, SP.den, preCells, RX.flat, RX.ok, AV.val, rows1_lth, c]
          try ((repeat' apply And.intro) <;> first | rfl | omega | exact rows1_ok _ | exact grow_ok _ | exact snoc1 (rows1_ok _) rfl | (intro xs hx; simpa [vstr] using wd_get hx) | (intro xs hx; exact grow_get hx))
        · simp [SB.den, SI.den, intCmp, ltInt_iff, ssEnv] at g3
          refine ⟨fun g4 => ?_, fun g4 => ?_⟩
          · simp [SB.den, SI.den, intCmp, ltInt_iff, ssEnv] at g4
            have hk : k < (wd A i).length := by omega
            have c := cur_more hk
            rw [if_pos (show gd ((wd A i)[k]?.getD 0) = true by simp [gd]; omega)] at c
            refine ⟨ssEnv A G i (k + 1), ?_, ⟨i, k + 1, by omega, by omega, ha, by omega, by omega, rfl⟩, by simp [ssμ, ssEnv] <;> omega⟩
            simp [Eqns, Eqn.ok, ssEnv, SI.den, SS.den, SP.den, preCells, RX.flat, RX.ok, AV.val, rows1_lth, c]
            try ((repeat' apply And.intro) <;> first | rfl | omega | exact rows1_ok _ | exact grow_ok _ | exact snoc1 (rows1_ok _) rfl | (intro xs hx; simpa [vstr] using wd_get hx) | (intro xs hx; exact grow_get hx))
          · simp [SB.den, SI.den, intCmp, ltInt_iff, ssEnv] at g4
            have hk : k < (wd A i).length := by omega
            have c := cur_more hk
            rw [if_neg (show ¬ gd ((wd A i)[k]?.getD 0) = true by simp [gd]; omega)] at c
            refine ⟨ssEnv A G i (k + 1), ?_, ⟨i, k + 1, by omega, by omega, ha, by omega, by omega, rfl⟩, by simp [ssμ, ssEnv] <;> omega⟩
            simp [Eqns, Eqn.ok, ssEnv, SI.den, SS.den, SP.den, preCells, RX.flat, RX.ok, AV.val, rows1_lth, c]
            try ((repeat' apply And.intro) <;> first | rfl | omega | exact rows1_ok _ | exact grow_ok _ | exact snoc1 (rows1_ok _) rfl | (intro xs hx; simpa [vstr] using wd_get hx) | (intro xs hx; exact grow_get hx))
      · simp [SB.den, SI.den, intCmp, ltInt_iff, ssEnv] at g2
        refine ⟨fun g3 => ?_, fun g3 => ?_⟩
        · simp [SB.den, SI.den, intCmp, ltInt_iff, ssEnv] at g3
          refine ⟨fun g4 => ?_, fun g4 => ?_⟩
          · simp [SB.den, SI.den, intCmp, ltInt_iff, ssEnv] at g4
            have hk : k < (wd A i).length := by omega
            have c := cur_more hk
            rw [if_pos (show gd ((wd A i)[k]?.getD 0) = true by simp [gd]; omega)] at c
            refine ⟨ssEnv A G i (k + 1), ?_, ⟨i, k + 1, by omega, by omega, ha, by omega, by omega, rfl⟩, by simp [ssμ, ssEnv] <;> omega⟩
            simp [Eqns, Eqn.ok, ssEnv, SI.den, SS.den, SP.den, preCells, RX.flat, RX.ok, AV.val, rows1_lth, c]
            try ((repeat' apply And.intro) <;> first | rfl | omega | exact rows1_ok _ | exact grow_ok _ | exact snoc1 (rows1_ok _) rfl | (intro xs hx; simpa [vstr] using wd_get hx) | (intro xs hx; exact grow_get hx))
          · simp [SB.den, SI.den, intCmp, ltInt_iff, ssEnv] at g4
            have hk : k < (wd A i).length := by omega
            have c := cur_more hk
            rw [if_neg (show ¬ gd ((wd A i)[k]?.getD 0) = true by simp [gd]; omega)] at c
            refine ⟨ssEnv A G i (k + 1), ?_, ⟨i, k + 1, by omega, by omega, ha, by omega, by omega, rfl⟩, by simp [ssμ, ssEnv] <;> omega⟩
            simp [Eqns, Eqn.ok, ssEnv, SI.den, SS.den, SP.den, preCells, RX.flat, RX.ok, AV.val, rows1_lth, c]
            try ((repeat' apply And.intro) <;> first | rfl | omega | exact rows1_ok _ | exact grow_ok _ | exact snoc1 (rows1_ok _) rfl | (intro xs hx; simpa [vstr] using wd_get hx) | (intro xs hx; exact grow_get hx))
        · simp [SB.den, SI.den, intCmp, ltInt_iff, ssEnv] at g3
          have hk : k < (wd A i).length := by omega
          have c := cur_more hk
          rw [if_neg (show ¬ gd ((wd A i)[k]?.getD 0) = true by simp [gd]; omega)] at c
          refine ⟨ssEnv A G i (k + 1), ?_, ⟨i, k + 1, by omega, by omega, ha, by omega, by omega, rfl⟩, by simp [ssμ, ssEnv] <;> omega⟩
          simp [Eqns, Eqn.ok, ssEnv, SI.den, SS.den, SP.den, preCells, RX.flat, RX.ok, AV.val, rows1_lth, c]
          try ((repeat' apply And.intro) <;> first | rfl | omega | exact rows1_ok _ | exact grow_ok _ | exact snoc1 (rows1_ok _) rfl | (intro xs hx; simpa [vstr] using wd_get hx) | (intro xs hx; exact grow_get hx))
    · simp [SB.den, SI.den, intCmp, ltInt_iff, ssEnv] at g1
      refine ⟨fun g2 => ?_, fun g2 => ?_⟩
      · simp [SB.den, SI.den, intCmp, eqInt_iff, ssEnv] at g2
        have he : (wd A i).length ≤ k ∨ k = 15 := by omega
        have e := acc_same (G := G) (by assumption) he (by omega)
        refine ⟨ssEnv A G (i + 1) 0, ?_, ⟨i + 1, by omega, by omega, by rw [e]; exact ha, rfl⟩, by simp [ssμ, ssEnv] <;> omega⟩
        simp [Eqns, Eqn.ok, ssEnv, SI.den, SS.den, SP.den, preCells, RX.flat, RX.ok, AV.val, rows1_lth]
        try ((repeat' apply And.intro) <;> first | rfl | omega | exact rows1_ok _ | exact grow_ok _ | exact snoc1 (rows1_ok _) rfl | (intro xs hx; simpa [vstr] using wd_get hx) | (intro xs hx; exact grow_get hx))
      · simp [SB.den, SI.den, intCmp, eqInt_iff, ssEnv] at g2
        have he : (wd A i).length ≤ k ∨ k = 15 := by omega
        have e := acc_add (G := G) (by assumption) he (by omega)
        have hg : gapOf G i = [32] := by unfold gapOf; (repeat' split) <;> first | rfl | omega | (simp_all; done)
        rw [hg] at e
        have e2 : vs A G (i + 1) = acc A G (i + 1) := vs_of (by rw [e]; simp)
        rw [e] at e2
        rw [ha] at e2
        refine ⟨ssEnv A G (i + 1) 0, ?_, ⟨i + 1, by omega, by omega, by rw [e]; simp, rfl⟩, by simp [ssμ, ssEnv] <;> omega⟩
        simp [Eqns, Eqn.ok, ssEnv, SI.den, SS.den, SP.den, preCells, RX.flat, RX.ok, AV.val, rows1_one, rows1_lth, e2]
        try ((repeat' apply And.intro) <;> first | rfl | omega | exact rows1_ok _ | exact grow_ok _ | exact snoc1 (rows1_ok _) rfl | (intro xs hx; simpa [vstr] using wd_get hx) | (intro xs hx; exact grow_get hx))
  · simp [SB.den, SI.den, intCmp, ltInt_iff, ssEnv] at g0
    refine ⟨fun g1 => ?_, fun g1 => ?_⟩
    · simp [SB.den, SI.den, intCmp, eqInt_iff, ssEnv] at g1
      have he : (wd A i).length ≤ k ∨ k = 15 := by omega
      have e := acc_same (G := G) (by assumption) he (by omega)
      refine ⟨ssEnv A G (i + 1) 0, ?_, ⟨i + 1, by omega, by omega, by rw [e]; exact ha, rfl⟩, by simp [ssμ, ssEnv] <;> omega⟩
      simp [Eqns, Eqn.ok, ssEnv, SI.den, SS.den, SP.den, preCells, RX.flat, RX.ok, AV.val, rows1_lth]
      try ((repeat' apply And.intro) <;> first | rfl | omega | exact rows1_ok _ | exact grow_ok _ | exact snoc1 (rows1_ok _) rfl | (intro xs hx; simpa [vstr] using wd_get hx) | (intro xs hx; exact grow_get hx))
    · simp [SB.den, SI.den, intCmp, eqInt_iff, ssEnv] at g1
      have he : (wd A i).length ≤ k ∨ k = 15 := by omega
      have e := acc_add (G := G) (by assumption) he (by omega)
      have hg : gapOf G i = [32] := by unfold gapOf; (repeat' split) <;> first | rfl | omega | (simp_all; done)
      rw [hg] at e
      have e2 : vs A G (i + 1) = acc A G (i + 1) := vs_of (by rw [e]; simp)
      rw [e] at e2
      rw [ha] at e2
      refine ⟨ssEnv A G (i + 1) 0, ?_, ⟨i + 1, by omega, by omega, by rw [e]; simp, rfl⟩, by simp [ssμ, ssEnv] <;> omega⟩
      simp [Eqns, Eqn.ok, ssEnv, SI.den, SS.den, SP.den, preCells, RX.flat, RX.ok, AV.val, rows1_one, rows1_lth, e2]
      try ((repeat' apply And.intro) <;> first | rfl | omega | exact rows1_ok _ | exact grow_ok _ | exact snoc1 (rows1_ok _) rfl | (intro xs hx; simpa [vstr] using wd_get hx) | (intro xs hx; exact grow_get hx))
theorem sen4 {A : List (List UInt8)} {G : List Int} (hG : G = []) (hA : 0 < A.length) {ρ : Env} (hi : ssI A G 4 ρ) : OTok (ssI A G) ssμ (fun _ => True) 4 ρ seo4 := by
  obtain ⟨i, k, h1, h2, ha, h3, h4, rfl⟩ := hi
  simp only [seo4, OTok]
  refine ⟨fun g0 => ?_, fun g0 => ?_⟩
  · simp [SB.den, SI.den, intCmp, ltInt_iff, ssEnv] at g0
    refine ⟨fun g1 => ?_, fun g1 => ?_⟩
    · simp [SB.den, SI.den, intCmp, ltInt_iff, ssEnv] at g1
      refine ⟨fun g2 => ?_, fun g2 => ?_⟩
      · simp [SB.den, SI.den, intCmp, ltInt_iff, ssEnv] at g2
        refine ⟨fun g3 => ?_, fun g3 => ?_⟩
        · simp [SB.den, SI.den, intCmp, ltInt_iff, ssEnv] at g3
          have hk : k < (wd A i).length := by omega
          have c := cur_more hk
          rw [if_pos (show gd ((wd A i)[k]?.getD 0) = true by simp [gd]; omega)] at c
          refine ⟨ssEnv A G i (k + 1), ?_, ⟨i, k + 1, by omega, by omega, ha, by omega, by omega, rfl⟩, by simp [ssμ, ssEnv] <;> omega⟩
          simp [Eqns, Eqn.ok, ssEnv, SI.den, SS.den, SP.den, preCells, RX.flat, RX.ok, AV.val, rows1_lth, c]
          try ((repeat' apply And.intro) <;> first | rfl | omega | exact rows1_ok _ | exact grow_ok _ | exact snoc1 (rows1_ok _) rfl | (intro xs hx; simpa [vstr] using wd_get hx) | (intro xs hx; exact grow_get hx))
        · simp [SB.den, SI.den, intCmp, ltInt_iff, ssEnv] at g3
          refine ⟨fun g4 => ?_, fun g4 => ?_⟩
          · simp [SB.den, SI.den, intCmp, ltInt_iff, ssEnv] at g4
            have hk : k < (wd A i).length := by omega
            have c := cur_more hk
            rw [if_pos (show gd ((wd A i)[k]?.getD 0) = true by simp [gd]; omega)] at c
            refine ⟨ssEnv A G i (k + 1), ?_, ⟨i, k + 1, by omega, by omega, ha, by omega, by omega, rfl⟩, by simp [ssμ, ssEnv] <;> omega⟩
            simp [Eqns, Eqn.ok, ssEnv, SI.den, SS.den, SP.den, preCells, RX.flat, RX.ok, AV.val, rows1_lth, c]
            try ((repeat' apply And.intro) <;> first | rfl | omega | exact rows1_ok _ | exact grow_ok _ | exact snoc1 (rows1_ok _) rfl | (intro xs hx; simpa [vstr] using wd_get hx) | (intro xs hx; exact grow_get hx))
          · simp [SB.den, SI.den, intCmp, ltInt_iff, ssEnv] at g4
            have hk : k < (wd A i).length := by omega
            have c := cur_more hk
            rw [if_neg (show ¬ gd ((wd A i)[k]?.getD 0) = true by simp [gd]; omega)] at c
            refine ⟨ssEnv A G i (k + 1), ?_, ⟨i, k + 1, by omega, by omega, ha, by omega, by omega, rfl⟩, by simp [ssμ, ssEnv] <;> omega⟩
            simp [Eqns, Eqn.ok, ssEnv, SI.den, SS.den, SP.den, preCells, RX.flat, RX.ok, AV.val, rows1_lth, c]
            try ((repeat' apply And.intro) <;> first | rfl | omega | exact rows1_ok _ | exact grow_ok _ | exact snoc1 (rows1_ok _) rfl | (intro xs hx; simpa [vstr] using wd_get hx) | (intro xs hx; exact grow_get hx))
      · simp [SB.den, SI.den, intCmp, ltInt_iff, ssEnv] at g2
        refine ⟨fun g3 => ?_, fun g3 => ?_⟩
        · simp [SB.den, SI.den, intCmp, ltInt_iff, ssEnv] at g3
          refine ⟨fun g4 => ?_, fun g4 => ?_⟩
          · simp [SB.den, SI.den, intCmp, ltInt_iff, ssEnv] at g4
            have hk : k < (wd A i).length := by omega
            have c := cur_more hk
            rw [if_pos (show gd ((wd A i)[k]?.getD 0) = true by simp [gd]; omega)] at c
            refine ⟨ssEnv A G i (k + 1), ?_, ⟨i, k + 1, by omega, by omega, ha, by omega, by omega, rfl⟩, by simp [ssμ, ssEnv] <;> omega⟩
            simp [Eqns, Eqn.ok, ssEnv, SI.den, SS.den, SP.den, preCells, RX.flat, RX.ok, AV.val, rows1_lth, c]
            try ((repeat' apply And.intro) <;> first | rfl | omega | exact rows1_ok _ | exact grow_ok _ | exact snoc1 (rows1_ok _) rfl | (intro xs hx; simpa [vstr] using wd_get hx) | (intro xs hx; exact grow_get hx))
          · simp [SB.den, SI.den, intCmp, ltInt_iff, ssEnv] at g4
            have hk : k < (wd A i).length := by omega
            have c := cur_more hk
            rw [if_neg (show ¬ gd ((wd A i)[k]?.getD 0) = true by simp [gd]; omega)] at c
            refine ⟨ssEnv A G i (k + 1), ?_, ⟨i, k + 1, by omega, by omega, ha, by omega, by omega, rfl⟩, by simp [ssμ, ssEnv] <;> omega⟩
            simp [Eqns, Eqn.ok, ssEnv, SI.den, SS.den, SP.den, preCells, RX.flat, RX.ok, AV.val, rows1_lth, c]
            try ((repeat' apply And.intro) <;> first | rfl | omega | exact rows1_ok _ | exact grow_ok _ | exact snoc1 (rows1_ok _) rfl | (intro xs hx; simpa [vstr] using wd_get hx) | (intro xs hx; exact grow_get hx))
        · simp [SB.den, SI.den, intCmp, ltInt_iff, ssEnv] at g3
          have hk : k < (wd A i).length := by omega
          have c := cur_more hk
          rw [if_neg (show ¬ gd ((wd A i)[k]?.getD 0) = true by simp [gd]; omega)] at c
          refine ⟨ssEnv A G i (k + 1), ?_, ⟨i, k + 1, by omega, by omega, ha, by omega, by omega, rfl⟩, by simp [ssμ, ssEnv] <;> omega⟩
          simp [Eqns, Eqn.ok, ssEnv, SI.den, SS.den, SP.den, preCells, RX.flat, RX.ok, AV.val, rows1_lth, c]
          try ((repeat' apply And.intro) <;> first | rfl | omega | exact rows1_ok _ | exact grow_ok _ | exact snoc1 (rows1_ok _) rfl | (intro xs hx; simpa [vstr] using wd_get hx) | (intro xs hx; exact grow_get hx))
    · simp [SB.den, SI.den, intCmp, ltInt_iff, ssEnv] at g1
      refine ⟨fun g2 => ?_, fun g2 => ?_⟩
      · simp [SB.den, SI.den, intCmp, eqInt_iff, ssEnv] at g2
        have he : (wd A i).length ≤ k ∨ k = 15 := by omega
        have e := acc_same (G := G) (by assumption) he (by omega)
        have e2 : vs A G (i + 1) = vs A G i := by rw [vs_of (by rw [e]; exact ha), vs_of ha, e]
        refine ⟨ssEnv A G (i + 1) 0, ?_, ⟨i + 1, by omega, by omega, by rw [e]; exact ha, rfl⟩, by simp [ssμ, ssEnv] <;> omega⟩
        simp [Eqns, Eqn.ok, ssEnv, SI.den, SS.den, SP.den, preCells, RX.flat, RX.ok, AV.val, rows1_lth, e2]
        try ((repeat' apply And.intro) <;> first | rfl | omega | exact rows1_ok _ | exact grow_ok _ | exact snoc1 (rows1_ok _) rfl | (intro xs hx; simpa [vstr] using wd_get hx) | (intro xs hx; exact grow_get hx))
      · simp [SB.den, SI.den, intCmp, eqInt_iff, ssEnv] at g2
        have he : (wd A i).length ≤ k ∨ k = 15 := by omega
        have e := acc_add (G := G) (by assumption) he (by omega)
        have hg : gapOf G i = [32] := by unfold gapOf; (repeat' split) <;> first | rfl | omega | (simp_all; done)
        rw [hg] at e
        have e2 : vs A G (i + 1) = acc A G (i + 1) := vs_of (by rw [e]; simp)
        rw [e] at e2
        rw [← vs_of ha] at e2
        refine ⟨ssEnv A G (i + 1) 0, ?_, ⟨i + 1, by omega, by omega, by rw [e]; simp, rfl⟩, by simp [ssμ, ssEnv] <;> omega⟩
        simp [Eqns, Eqn.ok, ssEnv, SI.den, SS.den, SP.den, preCells, RX.flat, RX.ok, AV.val, rows1_snoc, rows1_lth, e2]
        try ((repeat' apply And.intro) <;> first | rfl | omega | exact rows1_ok _ | exact grow_ok _ | exact snoc1 (rows1_ok _) rfl | (intro xs hx; simpa [vstr] using wd_get hx) | (intro xs hx; exact grow_get hx))
  · simp [SB.den, SI.den, intCmp, ltInt_iff, ssEnv] at g0
    refine ⟨fun g1 => ?_, fun g1 => ?_⟩
    · simp [SB.den, SI.den, intCmp, eqInt_iff, ssEnv] at g1
      have he : (wd A i).length ≤ k ∨ k = 15 := by omega
      have e := acc_same (G := G) (by assumption) he (by omega)
      have e2 : vs A G (i + 1) = vs A G i := by rw [vs_of (by rw [e]; exact ha), vs_of ha, e]
      refine ⟨ssEnv A G (i + 1) 0, ?_, ⟨i + 1, by omega, by omega, by rw [e]; exact ha, rfl⟩, by simp [ssμ, ssEnv] <;> omega⟩
      simp [Eqns, Eqn.ok, ssEnv, SI.den, SS.den, SP.den, preCells, RX.flat, RX.ok, AV.val, rows1_lth, e2]
      try ((repeat' apply And.intro) <;> first | rfl | omega | exact rows1_ok _ | exact grow_ok _ | exact snoc1 (rows1_ok _) rfl | (intro xs hx; simpa [vstr] using wd_get hx) | (intro xs hx; exact grow_get hx))
    · simp [SB.den, SI.den, intCmp, eqInt_iff, ssEnv] at g1
      have he : (wd A i).length ≤ k ∨ k = 15 := by omega
      have e := acc_add (G := G) (by assumption) he (by omega)
      have hg : gapOf G i = [32] := by unfold gapOf; (repeat' split) <;> first | rfl | omega | (simp_all; done)
      rw [hg] at e
      have e2 : vs A G (i + 1) = acc A G (i + 1) := vs_of (by rw [e]; simp)
      rw [e] at e2
      rw [← vs_of ha] at e2
      refine ⟨ssEnv A G (i + 1) 0, ?_, ⟨i + 1, by omega, by omega, by rw [e]; simp, rfl⟩, by simp [ssμ, ssEnv] <;> omega⟩
      simp [Eqns, Eqn.ok, ssEnv, SI.den, SS.den, SP.den, preCells, RX.flat, RX.ok, AV.val, rows1_snoc, rows1_lth, e2]
      try ((repeat' apply And.intro) <;> first | rfl | omega | exact rows1_ok _ | exact grow_ok _ | exact snoc1 (rows1_ok _) rfl | (intro xs hx; simpa [vstr] using wd_get hx) | (intro xs hx; exact grow_get hx))
end Go.Sx
