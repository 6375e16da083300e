import Derived.Test.YtanpkoghglnphaaGreatDoorNeG
namespace Go.Sx
open Go.Proofs
set_option maxRecDepth 100000
section
variable {A : List (List UInt8)} {N : Nat}
theorem nu_ctx (n1 : 1 ≤ N) (n2 : N ≤ 20) (nA : N ≤ A.length) (each : ∀ k, k < N → (A.getD k []).length ≤ 150) {i : Nat} {w a b : List UInt8} (ii : i ≤ N) : CtxOK nuC Tryz.prog (neE A N 2 0 false i w a b) := by
  have L := neL (K := 2) (P := 0) (v := false) (w := w) (a := a) (b := b) n1 n2 nA ii each
  refine ctx18 (orcs_cons (orc_facts (by kernel_rfl) fun hf => ?_) (orcs_cons (tb_ok L) orcs_nil)) (pors_cons sh_ok (pors_cons (d0_ok (i := i) rfl (by omega) rfl) pors_nil))
  refine ta_ok L ?_
  have := hf (.cmp .lss (.var 0) (.var 62), true) (by simp [o_ta])
  simp [SB.den, SI.den, intCmp, ltInt_iff, neE] at this
  omega
theorem nu_law {φ : Pl} {W : World} {xs : List Value} (hne : A ≠ []) (hN : N = min A.length 20) (each : ∀ k, k < N → (A.getD k []).length ≤ 150) (hw : LWn 70 φ (neE A N 2 0 false 0 [] [] []) [(64, .rowv true 10 1 (.lit 0) [.str [.var 40]] 9)] W)
    (ha : VRs (neE A N 2 0 false 0 [] [] []) φ [.slice 64 0 (.rlen 10) (.rest 1), .bool (.lit false)] xs) : Calls Tryz.prog 5 ⟨xs⟩ W fun e W' => e = .returned (.bool true) ∧ Kept W W' := by
  have l1 : 1 ≤ A.length := List.length_pos_iff.2 hne
  have n1 : 1 ≤ N := by omega
  have n2 : N ≤ 20 := by omega
  have nA : N ≤ A.length := by omega
  have rk := rows1_ok A
  have wl : ∀ j n, j + n ≤ 20 → (wsuf j n).length ≤ 180 := fun j n h => by have := wsuf_len n j h; omega
  have go1 : ∀ i s, i < N → (∀ k, k < i + 1 → (A.getD k []).length ≤ 150) → wantL A (i + 1) = s → neI A N 2 0 false true 1 (neE A N 2 0 false (i + 1) (wsuf 0 (i + 1)) [] []) := fun i s h1 h2 _ => ⟨i + 1, by omega, by omega, h2, rfl⟩
  refine law_ofn (G := nuG) (C := nuC) (I := neI A N 2 0 false true) (μ := neμ N) ?_ ?_ ?_ ?_ rfl rfl rfl nust hw ha
  · intro k ρ hi
    match k, hi with
    | 0, hi =>
      replace hi : ρ = _ := hi
      subst hi; exact nu_ctx n1 n2 nA each (Nat.zero_le _)
    | 1, hi => obtain ⟨i, _, h, _, rfl⟩ := hi; exact nu_ctx n1 n2 nA each h
    | 2, hi => obtain ⟨i, a, b, h, _, _, _, rfl⟩ := hi; exact nu_ctx n1 n2 nA each (by omega)
    | 3, hi => obtain ⟨_, rfl⟩ := hi; exact nu_ctx n1 n2 nA each (Nat.zero_le _)
    | 4, hi => obtain ⟨_, i, h, rfl⟩ := hi; exact nu_ctx n1 n2 nA each h
  · intro k ρ hi
    match k, hi with
    | 0, hi =>
      replace hi : ρ = _ := hi
      subst hi
      rw [nuf0]
      intro p hp
      simp only [List.mem_cons, List.not_mem_nil, or_false] at hp
      rcases hp with rfl <;> simp [SB.den, SI.den, intCmp, ltInt_iff, neE, rows1_lth] <;> omega
    | 1, hi =>
      obtain ⟨i, i1, i2, i3, rfl⟩ := hi
      rw [nuf1]
      have e1 := wl 0 i (by omega)
      have e2 := want_len i3
      have e3 := dd_lt' (j := i) (by omega)
      intro p hp
      simp only [List.mem_cons, List.not_mem_nil, or_false] at hp
      rcases hp with rfl | rfl | rfl | rfl | rfl | rfl | rfl | rfl | rfl <;> simp [SB.den, SI.den, intCmp, ltInt_iff, neE, rows1_lth] <;> omega
    | 2, hi =>
      obtain ⟨i, a, b, i2, i3, i4, i5, rfl⟩ := hi
      rw [nuf2]
      have e1 := wl 0 (i + 1) (by omega)
      have e2 := want_len (fun k hk => i3 k (by omega) : ∀ k, k < i → _)
      have e3 := dd_lt' (j := i) (by omega)
      have e4 := i3 i (by omega)
      rw [i4, List.length_append] at e4
      intro p hp
      simp only [List.mem_cons, List.not_mem_nil, or_false] at hp
      rcases hp with rfl | rfl | rfl | rfl | rfl | rfl | rfl | rfl | rfl | rfl | rfl <;> simp [SB.den, SI.den, intCmp, ltInt_iff, neE, rows1_lth] <;> omega
    | 3, hi =>
      obtain ⟨_, rfl⟩ := hi
      rw [nuf3]
      have e1 := wl 0 N (by omega)
      have e2 := want_len each
      have e3 := dd_lt' (j := 0) (by omega)
      have e5 := wsuf_len N 0 (by omega)
      intro p hp
      simp only [List.mem_cons, List.not_mem_nil, or_false] at hp
      rcases hp with rfl | rfl | rfl | rfl | rfl | rfl | rfl | rfl | rfl | rfl <;> simp [SB.den, SI.den, intCmp, ltInt_iff, neE, rows1_lth] <;> omega
    | 4, hi =>
      obtain ⟨_, i, i2, rfl⟩ := hi
      rw [nuf4]
      have e1 := wl 0 N (by omega)
      have e2 := want_len each
      have e3 := dd_lt' (j := i) (by omega)
      have e5 := wsuf_len N 0 (by omega)
      intro p hp
      simp only [List.mem_cons, List.not_mem_nil, or_false] at hp
      rcases hp with rfl | rfl | rfl | rfl | rfl | rfl | rfl | rfl | rfl | rfl <;> simp [SB.den, SI.den, intCmp, ltInt_iff, neE, rows1_lth] <;> omega
  · intro k ρ hi
    match k, hi with
    | 0, _ => exact nuat0
    | 1, _ => exact nuat1
    | 2, _ => exact nuat2
    | 3, _ => exact nuat3
    | 4, _ => exact nuat4
  · intro k ρ hi
    match k, hi with
    | 0, hi =>
      replace hi : ρ = _ := hi
      subst hi
      show OTok _ _ _ 0 _ nuo0
      simp only [nuo0, OTok]
      have i3 : ∀ k, k < 0 → (A.getD k []).length ≤ 150 := fun k h => absurd h (by omega)
      have hw0 : wsuf 0 1 = [36, 40, 100, 111, 32, 48, 41, 46] := by rw [wsuf1, hd00]; rfl
      refine ⟨fun gN => ⟨fun _ => fin_nl, fun g150 => ?_⟩, fun gN => ⟨fun _ => fin_nl, fun g150 => ?_⟩⟩
      · have hNN : (N : Int) = 20 := by simp [SB.den, SI.den, intCmp, ltInt_iff, neE, rows1_lth] at gN; omega
        have hlen : (A.getD 0 []).length ≤ 150 := by
          simp [-List.getD_eq_getElem?_getD, SB.den, SI.den, intCmp, ltInt_iff, neE] at g150; omega
        have hea := each1 i3 hlen
        refine ⟨fun gz => ⟨fun gl => ?_, fun gl => ?_⟩, fun gz => ?_⟩
        · have hs : A.getD 0 [] ≠ [] := by
            intro c; simp [-List.getD_eq_getElem?_getD, SB.den, SI.den, intCmp, ltInt_iff, neE, c] at gz
          obtain ⟨c, d, hcd⟩ := snoc_of hs
          have hd : d = 10 := by
            rw [last10 (c := c) (d := d) hcd] at gl; simpa using gl
          subst hd
          rw [hcd, List.length_append] at hlen
          refine ⟨neE A N 2 0 false 0 (wsuf 0 1) c [10], ?_, ⟨0, c, [10], by omega, hea, hcd, by rw [hcd, trimR_nl], rfl⟩, by simp [neμ, neE] at hlen ⊢; omega⟩
          simp [-List.getD_eq_getElem?_getD, Eqns, Eqn.ok, neE, SI.den, SS.den, SP.den, preCells, RX.flat, RX.ok, AV.val, hw0, hcd, hd00, wantL]
          repeat' apply And.intro
          all_goals first | omega | exact rk | exact npk4 hcd
        · have hs : A.getD 0 [] ≠ [] := by
            intro c; simp [-List.getD_eq_getElem?_getD, SB.den, SI.den, intCmp, ltInt_iff, neE, c] at gz
          obtain ⟨c, d, hcd⟩ := snoc_of hs
          have hd : d ≠ 10 := by
            rw [last10 (c := c) (d := d) hcd] at gl; simpa using gl
          have hwt : trimR (A.getD 0 []) = A.getD 0 [] := by rw [hcd, trimR_other c hd]
          refine ⟨neE A N 2 0 false 1 (wsuf 0 1) [] [], ?_, ⟨1, by omega, by omega, hea, rfl⟩, by simp [neμ, neE]; omega⟩
          simp [-List.getD_eq_getElem?_getD, Eqns, Eqn.ok, neE, SI.den, SS.den, SP.den, preCells, RX.flat, RX.ok, AV.val, hw0, hwt, hd00, wantL]
          repeat' apply And.intro
          all_goals first | omega | exact rk | exact npk3
        · have hs : A.getD 0 [] = [] := by
            simp [-List.getD_eq_getElem?_getD, SB.den, SI.den, intCmp, ltInt_iff, neE] at gz; first | exact gz | exact List.eq_nil_of_length_eq_zero (by omega)
          have hwt : trimR (A.getD 0 []) = A.getD 0 [] := by rw [hs]; rfl
          refine ⟨neE A N 2 0 false 1 (wsuf 0 1) [] [], ?_, ⟨1, by omega, by omega, hea, rfl⟩, by simp [neμ, neE]; omega⟩
          simp [-List.getD_eq_getElem?_getD, Eqns, Eqn.ok, neE, SI.den, SS.den, SP.den, preCells, RX.flat, RX.ok, AV.val, hw0, hwt, hd00, wantL]
          repeat' apply And.intro
          all_goals first | omega | exact rk | exact npk3
      · have hNN : (N : Int) = A.length := by simp [SB.den, SI.den, intCmp, ltInt_iff, neE, rows1_lth] at gN; omega
        have hlen : (A.getD 0 []).length ≤ 150 := by
          simp [-List.getD_eq_getElem?_getD, SB.den, SI.den, intCmp, ltInt_iff, neE] at g150; omega
        have hea := each1 i3 hlen
        refine ⟨fun gz => ⟨fun gl => ?_, fun gl => ?_⟩, fun gz => ?_⟩
        · have hs : A.getD 0 [] ≠ [] := by
            intro c; simp [-List.getD_eq_getElem?_getD, SB.den, SI.den, intCmp, ltInt_iff, neE, c] at gz
          obtain ⟨c, d, hcd⟩ := snoc_of hs
          have hd : d = 10 := by
            rw [last10 (c := c) (d := d) hcd] at gl; simpa using gl
          subst hd
          rw [hcd, List.length_append] at hlen
          refine ⟨neE A N 2 0 false 0 (wsuf 0 1) c [10], ?_, ⟨0, c, [10], by omega, hea, hcd, by rw [hcd, trimR_nl], rfl⟩, by simp [neμ, neE] at hlen ⊢; omega⟩
          simp [-List.getD_eq_getElem?_getD, Eqns, Eqn.ok, rows1_lth, neE, SI.den, SS.den, SP.den, preCells, RX.flat, RX.ok, AV.val, hw0, hcd, hd00, wantL]
          repeat' apply And.intro
          all_goals first | omega | exact rk | exact npk4 hcd
        · have hs : A.getD 0 [] ≠ [] := by
            intro c; simp [-List.getD_eq_getElem?_getD, SB.den, SI.den, intCmp, ltInt_iff, neE, c] at gz
          obtain ⟨c, d, hcd⟩ := snoc_of hs
          have hd : d ≠ 10 := by
            rw [last10 (c := c) (d := d) hcd] at gl; simpa using gl
          have hwt : trimR (A.getD 0 []) = A.getD 0 [] := by rw [hcd, trimR_other c hd]
          refine ⟨neE A N 2 0 false 1 (wsuf 0 1) [] [], ?_, ⟨1, by omega, by omega, hea, rfl⟩, by simp [neμ, neE]; omega⟩
          simp [-List.getD_eq_getElem?_getD, Eqns, Eqn.ok, rows1_lth, neE, SI.den, SS.den, SP.den, preCells, RX.flat, RX.ok, AV.val, hw0, hwt, hd00, wantL]
          repeat' apply And.intro
          all_goals first | omega | exact rk | exact npk3
        · have hs : A.getD 0 [] = [] := by
            simp [-List.getD_eq_getElem?_getD, SB.den, SI.den, intCmp, ltInt_iff, neE] at gz; first | exact gz | exact List.eq_nil_of_length_eq_zero (by omega)
          have hwt : trimR (A.getD 0 []) = A.getD 0 [] := by rw [hs]; rfl
          refine ⟨neE A N 2 0 false 1 (wsuf 0 1) [] [], ?_, ⟨1, by omega, by omega, hea, rfl⟩, by simp [neμ, neE]; omega⟩
          simp [-List.getD_eq_getElem?_getD, Eqns, Eqn.ok, rows1_lth, neE, SI.den, SS.den, SP.den, preCells, RX.flat, RX.ok, AV.val, hw0, hwt, hd00, wantL]
          repeat' apply And.intro
          all_goals first | omega | exact rk | exact npk3
    | 1, hi =>
      obtain ⟨i, i1, i2, i3, rfl⟩ := hi
      show OTok _ _ _ 1 _ nuo1
      simp only [nuo1, OTok]
      refine ⟨fun gi => ⟨fun _ => fin_nl, fun g150 => ?_⟩, fun gi => ?_⟩
      rotate_left
      · have hlt : i = N := by simp [SB.den, SI.den, intCmp, ltInt_iff, neE] at gi; omega
        subst hlt
        refine ⟨neE A i 2 0 false 0 [] [] [], ?_, ⟨rfl, rfl⟩, by simp [neμ, neE]⟩
        simp [-List.getD_eq_getElem?_getD, Eqns, Eqn.ok, neE, SI.den, SS.den, SP.den, preCells, RX.flat, RX.ok]
        exact rk
      have hlt : i < N := by simp [SB.den, SI.den, intCmp, ltInt_iff, neE] at gi; omega
      have hlen : (A.getD i []).length ≤ 150 := by
        simp [-List.getD_eq_getElem?_getD, SB.den, SI.den, intCmp, ltInt_iff, neE] at g150; omega
      have hea := each1 i3 hlen
      refine ⟨fun gz => ⟨fun gl => ?_, fun gl => ?_⟩, fun gz => ?_⟩
      · have hs : A.getD i [] ≠ [] := by
          intro c; simp [-List.getD_eq_getElem?_getD, SB.den, SI.den, intCmp, ltInt_iff, neE, c] at gz
        obtain ⟨c, d, hcd⟩ := snoc_of hs
        have hd : d = 10 := by
          rw [last10 (c := c) (d := d) hcd] at gl; simpa using gl
        subst hd
        rw [hcd, List.length_append] at hlen
        refine ⟨neE A N 2 0 false i (wsuf 0 (i + 1)) c [10], ?_, ⟨i, c, [10], by omega, hea, hcd, by rw [hcd, trimR_nl], rfl⟩, by simp [neμ, neE] at hlen ⊢; omega⟩
        simp [-List.getD_eq_getElem?_getD, Eqns, Eqn.ok, neE, SI.den, SS.den, SP.den, preCells, RX.flat, RX.ok, AV.val, wsuf1 i, hcd]
        repeat' apply And.intro
        all_goals first | omega | exact rk | exact npk4 hcd
      · have hs : A.getD i [] ≠ [] := by
          intro c; simp [-List.getD_eq_getElem?_getD, SB.den, SI.den, intCmp, ltInt_iff, neE, c] at gz
        obtain ⟨c, d, hcd⟩ := snoc_of hs
        have hd : d ≠ 10 := by
          rw [last10 (c := c) (d := d) hcd] at gl; simpa using gl
        have hwt : trimR (A.getD i []) = A.getD i [] := by rw [hcd, trimR_other c hd]
        refine ⟨neE A N 2 0 false (i + 1) (wsuf 0 (i + 1)) [] [], ?_, ⟨(i + 1), by omega, by omega, hea, rfl⟩, by simp [neμ, neE]; omega⟩
        simp [-List.getD_eq_getElem?_getD, Eqns, Eqn.ok, neE, SI.den, SS.den, SP.den, preCells, RX.flat, RX.ok, AV.val, wsuf1 i, hwt, wantL]
        repeat' apply And.intro
        all_goals first | omega | exact rk | exact npk3
      · have hs : A.getD i [] = [] := by
          simp [-List.getD_eq_getElem?_getD, SB.den, SI.den, intCmp, ltInt_iff, neE] at gz; first | exact gz | exact List.eq_nil_of_length_eq_zero (by omega)
        have hwt : trimR (A.getD i []) = A.getD i [] := by rw [hs]; rfl
        refine ⟨neE A N 2 0 false (i + 1) (wsuf 0 (i + 1)) [] [], ?_, ⟨(i + 1), by omega, by omega, hea, rfl⟩, by simp [neμ, neE]; omega⟩
        simp [-List.getD_eq_getElem?_getD, Eqns, Eqn.ok, neE, SI.den, SS.den, SP.den, preCells, RX.flat, RX.ok, AV.val, wsuf1 i, hwt, wantL]
        repeat' apply And.intro
        all_goals first | omega | exact rk | exact npk3
    | 2, hi =>
      obtain ⟨i, a, b, i2, i3, i4, i5, rfl⟩ := hi
      have hal : a.length ≤ 150 := by
        have := i3 i (by omega)
        rw [i4, List.length_append] at this; omega
      show OTok _ _ _ 2 _ nuo2
      simp only [nuo2, OTok]
      refine ⟨fun gz => ⟨fun gl => ?_, fun gl => ?_⟩, fun gz => ?_⟩
      · have hs : a ≠ [] := by
          intro c; simp [SB.den, SI.den, intCmp, ltInt_iff, neE, c] at gz
        obtain ⟨c, d, hcd⟩ := snoc_of hs
        have hd : d = 10 := by
          rw [last10 (c := c) (d := d) hcd] at gl; simpa using gl
        subst hd
        subst hcd
        refine ⟨neE A N 2 0 false i (wsuf 0 (i + 1)) c (10 :: b), ?_, ⟨i, c, 10 :: b, i2, i3, by rw [i4]; simp, by rw [i5, trimR_nl], rfl⟩, by simp [neμ, neE] at hal ⊢⟩
        simp [-List.getD_eq_getElem?_getD, Eqns, Eqn.ok, neE, SI.den, SS.den, SP.den, preCells, RX.flat, RX.ok, AV.val]
        repeat' apply And.intro
        all_goals first | omega | exact rk | (exact npk4 (by rw [i4]; simp))
      · have hs : a ≠ [] := by
          intro c; simp [SB.den, SI.den, intCmp, ltInt_iff, neE, c] at gz
        obtain ⟨c, d, hcd⟩ := snoc_of hs
        have hd : d ≠ 10 := by
          rw [last10 (c := c) (d := d) hcd] at gl; simpa using gl
        have hwt : trimR (A.getD i []) = a := by rw [i5, hcd, trimR_other c hd]
        refine ⟨neE A N 2 0 false (i + 1) (wsuf 0 (i + 1)) [] [], ?_, ⟨i + 1, by omega, by omega, i3, rfl⟩, by simp [neμ, neE]; omega⟩
        simp [-List.getD_eq_getElem?_getD, Eqns, Eqn.ok, neE, SI.den, SS.den, SP.den, preCells, RX.flat, RX.ok, AV.val, want1, hwt]
        repeat' apply And.intro
        all_goals first | omega | exact rk | exact npk3
      · have hs : a = [] := by
          simp [SB.den, SI.den, intCmp, ltInt_iff, neE] at gz; first | exact gz | exact List.eq_nil_of_length_eq_zero (by omega)
        have hwt : trimR (A.getD i []) = a := by rw [i5, hs]; rfl
        refine ⟨neE A N 2 0 false (i + 1) (wsuf 0 (i + 1)) [] [], ?_, ⟨i + 1, by omega, by omega, i3, rfl⟩, by simp [neμ, neE]; omega⟩
        simp [-List.getD_eq_getElem?_getD, Eqns, Eqn.ok, neE, SI.den, SS.den, SP.den, preCells, RX.flat, RX.ok, AV.val, want1, hwt]
        repeat' apply And.intro
        all_goals first | omega | exact rk | exact npk3
    | 3, hi =>
      obtain ⟨_, rfl⟩ := hi
      show OTok _ _ _ 3 _ nuo3
      simp only [nuo3, OTok]
      refine ⟨fun g => ?_, fun g => fin_nl⟩
      refine ⟨neE A N 2 0 false 1 [] [] [], ?_, ⟨rfl, 1, n1, rfl⟩, by simp [neμ, neE]⟩
      simp [-List.getD_eq_getElem?_getD, Eqns, Eqn.ok, neE, SI.den, SS.den, SP.den, preCells, RX.flat, RX.ok]
      exact rk
    | 4, hi =>
      obtain ⟨_, i, i2, rfl⟩ := hi
      show OTok _ _ _ 4 _ nuo4
      simp only [nuo4, OTok]
      refine ⟨fun g => ?_, fun g => fin_nl⟩
      have hlt : i < N := by simp [SB.den, SI.den, intCmp, ltInt_iff, neE] at g; omega
      refine ⟨neE A N 2 0 false (i + 1) [] [] [], ?_, ⟨rfl, i + 1, by omega, rfl⟩, by simp [neμ, neE]; omega⟩
      simp [-List.getD_eq_getElem?_getD, Eqns, Eqn.ok, neE, SI.den, SS.den, SP.den, preCells, RX.flat, RX.ok]
      exact rk
end
end Go.Sx
namespace Go.Sx
open Go.Proofs
set_option maxRecDepth 100000
section
variable {A : List (List UInt8)} {N : Nat}
theorem nq_ctx (n1 : 1 ≤ N) (n2 : N ≤ 20) (nA : N ≤ A.length) (each : ∀ k, k < N → (A.getD k []).length ≤ 150) {i : Nat} {w a b : List UInt8} (ii : i ≤ N) : CtxOK nqC Tryz.prog (neE A N 1 1 true i w a b) := by
  have L := neL (K := 1) (P := 1) (v := true) (w := w) (a := a) (b := b) n1 n2 nA ii each
  refine ctx18 (orcs_cons (orc_facts (by kernel_rfl) fun hf => ?_) (orcs_cons (qb_ok L) orcs_nil)) (pors_cons sh_ok (pors_cons (d0_ok (i := i) rfl (by omega) rfl) pors_nil))
  refine qa_ok L ?_
  have := hf (.cmp .lss (.var 0) (.var 62), true) (by simp [o_qa])
  simp [SB.den, SI.den, intCmp, ltInt_iff, neE] at this
  omega
theorem nq_law {φ : Pl} {W : World} {xs : List Value} (hne : A ≠ []) (hN : N = min A.length 20) (each : ∀ k, k < N → (A.getD k []).length ≤ 150) (hw : LWn 70 φ (neE A N 1 1 true 0 [] [] []) [(64, .rowv true 10 1 (.lit 0) [.str [.var 40]] 9)] W)
    (ha : VRs (neE A N 1 1 true 0 [] [] []) φ [.slice 64 0 (.rlen 10) (.rest 1), .bool (.lit true)] xs) : Calls Tryz.prog 5 ⟨xs⟩ W fun e W' => e = .returned (.bool true) ∧ Kept W W' := by
  have l1 : 1 ≤ A.length := List.length_pos_iff.2 hne
  have n1 : 1 ≤ N := by omega
  have n2 : N ≤ 20 := by omega
  have nA : N ≤ A.length := by omega
  have rk := rows1_ok A
  have wl : ∀ j n, j + n ≤ 20 → (wsuf j n).length ≤ 180 := fun j n h => by have := wsuf_len n j h; omega
  have go1 : ∀ i s, i < N → (∀ k, k < i + 1 → (A.getD k []).length ≤ 150) → wantL A (i + 1) = s → neI A N 1 1 true true 1 (neE A N 1 1 true (i + 1) (wsuf 0 (i + 1)) [] []) := fun i s h1 h2 _ => ⟨i + 1, by omega, by omega, h2, rfl⟩
  refine law_ofn (G := nqG) (C := nqC) (I := neI A N 1 1 true true) (μ := neμ N) ?_ ?_ ?_ ?_ rfl rfl rfl nqst hw ha
  · intro k ρ hi
    match k, hi with
    | 0, hi =>
      replace hi : ρ = _ := hi
      subst hi; exact nq_ctx n1 n2 nA each (Nat.zero_le _)
    | 1, hi => obtain ⟨i, _, h, _, rfl⟩ := hi; exact nq_ctx n1 n2 nA each h
    | 2, hi => obtain ⟨i, a, b, h, _, _, _, rfl⟩ := hi; exact nq_ctx n1 n2 nA each (by omega)
    | 3, hi => obtain ⟨_, rfl⟩ := hi; exact nq_ctx n1 n2 nA each (Nat.zero_le _)
    | 4, hi => obtain ⟨_, i, h, rfl⟩ := hi; exact nq_ctx n1 n2 nA each h
  · intro k ρ hi
    match k, hi with
    | 0, hi =>
      replace hi : ρ = _ := hi
      subst hi
      rw [nqf0]
      intro p hp
      simp only [List.mem_cons, List.not_mem_nil, or_false] at hp
      rcases hp with rfl <;> simp [SB.den, SI.den, intCmp, ltInt_iff, neE, rows1_lth] <;> omega
    | 1, hi =>
      obtain ⟨i, i1, i2, i3, rfl⟩ := hi
      rw [nqf1]
      have e1 := wl 0 i (by omega)
      have e2 := want_len i3
      have e3 := dd_lt' (j := i) (by omega)
      intro p hp
      simp only [List.mem_cons, List.not_mem_nil, or_false] at hp
      rcases hp with rfl | rfl | rfl | rfl | rfl | rfl | rfl | rfl | rfl <;> simp [SB.den, SI.den, intCmp, ltInt_iff, neE, rows1_lth] <;> omega
    | 2, hi =>
      obtain ⟨i, a, b, i2, i3, i4, i5, rfl⟩ := hi
      rw [nqf2]
      have e1 := wl 0 (i + 1) (by omega)
      have e2 := want_len (fun k hk => i3 k (by omega) : ∀ k, k < i → _)
      have e3 := dd_lt' (j := i) (by omega)
      have e4 := i3 i (by omega)
      rw [i4, List.length_append] at e4
      intro p hp
      simp only [List.mem_cons, List.not_mem_nil, or_false] at hp
      rcases hp with rfl | rfl | rfl | rfl | rfl | rfl | rfl | rfl | rfl | rfl | rfl <;> simp [SB.den, SI.den, intCmp, ltInt_iff, neE, rows1_lth] <;> omega
    | 3, hi =>
      obtain ⟨_, rfl⟩ := hi
      rw [nqf3]
      have e1 := wl 0 N (by omega)
      have e2 := want_len each
      have e3 := dd_lt' (j := 0) (by omega)
      have e5 := wsuf_len N 0 (by omega)
      intro p hp
      simp only [List.mem_cons, List.not_mem_nil, or_false] at hp
      rcases hp with rfl | rfl | rfl | rfl | rfl | rfl | rfl | rfl | rfl | rfl <;> simp [SB.den, SI.den, intCmp, ltInt_iff, neE, rows1_lth] <;> omega
    | 4, hi =>
      obtain ⟨_, i, i2, rfl⟩ := hi
      rw [nqf4]
      have e1 := wl 0 N (by omega)
      have e2 := want_len each
      have e3 := dd_lt' (j := i) (by omega)
      have e5 := wsuf_len N 0 (by omega)
      intro p hp
      simp only [List.mem_cons, List.not_mem_nil, or_false] at hp
      rcases hp with rfl | rfl | rfl | rfl | rfl | rfl | rfl | rfl | rfl | rfl <;> simp [SB.den, SI.den, intCmp, ltInt_iff, neE, rows1_lth] <;> omega
  · intro k ρ hi
    match k, hi with
    | 0, _ => exact nqat0
    | 1, _ => exact nqat1
    | 2, _ => exact nqat2
    | 3, _ => exact nqat3
    | 4, _ => exact nqat4
  · intro k ρ hi
    match k, hi with
    | 0, hi =>
      replace hi : ρ = _ := hi
      subst hi
      show OTok _ _ _ 0 _ nqo0
      simp only [nqo0, OTok]
      have i3 : ∀ k, k < 0 → (A.getD k []).length ≤ 150 := fun k h => absurd h (by omega)
      have hw0 : wsuf 0 1 = [36, 40, 100, 111, 32, 48, 41, 46] := by rw [wsuf1, hd00]; rfl
      refine ⟨fun gN => ⟨fun _ => fin_nl, fun g150 => ?_⟩, fun gN => ⟨fun _ => fin_nl, fun g150 => ?_⟩⟩
      · have hNN : (N : Int) = 20 := by simp [SB.den, SI.den, intCmp, ltInt_iff, neE, rows1_lth] at gN; omega
        have hlen : (A.getD 0 []).length ≤ 150 := by
          simp [-List.getD_eq_getElem?_getD, SB.den, SI.den, intCmp, ltInt_iff, neE] at g150; omega
        have hea := each1 i3 hlen
        refine ⟨fun gz => ⟨fun gl => ?_, fun gl => ?_⟩, fun gz => ?_⟩
        · have hs : A.getD 0 [] ≠ [] := by
            intro c; simp [-List.getD_eq_getElem?_getD, SB.den, SI.den, intCmp, ltInt_iff, neE, c] at gz
          obtain ⟨c, d, hcd⟩ := snoc_of hs
          have hd : d = 10 := by
            rw [last10 (c := c) (d := d) hcd] at gl; simpa using gl
          subst hd
          rw [hcd, List.length_append] at hlen
          refine ⟨neE A N 1 1 true 0 (wsuf 0 1) c [10], ?_, ⟨0, c, [10], by omega, hea, hcd, by rw [hcd, trimR_nl], rfl⟩, by simp [neμ, neE] at hlen ⊢; omega⟩
          simp [-List.getD_eq_getElem?_getD, Eqns, Eqn.ok, neE, SI.den, SS.den, SP.den, preCells, RX.flat, RX.ok, AV.val, hw0, hcd, hd00, wantL]
          repeat' apply And.intro
          all_goals first | omega | exact rk | exact npk4 hcd
        · have hs : A.getD 0 [] ≠ [] := by
            intro c; simp [-List.getD_eq_getElem?_getD, SB.den, SI.den, intCmp, ltInt_iff, neE, c] at gz
          obtain ⟨c, d, hcd⟩ := snoc_of hs
          have hd : d ≠ 10 := by
            rw [last10 (c := c) (d := d) hcd] at gl; simpa using gl
          have hwt : trimR (A.getD 0 []) = A.getD 0 [] := by rw [hcd, trimR_other c hd]
          refine ⟨neE A N 1 1 true 1 (wsuf 0 1) [] [], ?_, ⟨1, by omega, by omega, hea, rfl⟩, by simp [neμ, neE]; omega⟩
          simp [-List.getD_eq_getElem?_getD, Eqns, Eqn.ok, neE, SI.den, SS.den, SP.den, preCells, RX.flat, RX.ok, AV.val, hw0, hwt, hd00, wantL]
          repeat' apply And.intro
          all_goals first | omega | exact rk | exact npk3
        · have hs : A.getD 0 [] = [] := by
            simp [-List.getD_eq_getElem?_getD, SB.den, SI.den, intCmp, ltInt_iff, neE] at gz; first | exact gz | exact List.eq_nil_of_length_eq_zero (by omega)
          have hwt : trimR (A.getD 0 []) = A.getD 0 [] := by rw [hs]; rfl
          refine ⟨neE A N 1 1 true 1 (wsuf 0 1) [] [], ?_, ⟨1, by omega, by omega, hea, rfl⟩, by simp [neμ, neE]; omega⟩
          simp [-List.getD_eq_getElem?_getD, Eqns, Eqn.ok, neE, SI.den, SS.den, SP.den, preCells, RX.flat, RX.ok, AV.val, hw0, hwt, hd00, wantL]
          repeat' apply And.intro
          all_goals first | omega | exact rk | exact npk3
      · have hNN : (N : Int) = A.length := by simp [SB.den, SI.den, intCmp, ltInt_iff, neE, rows1_lth] at gN; omega
        have hlen : (A.getD 0 []).length ≤ 150 := by
          simp [-List.getD_eq_getElem?_getD, SB.den, SI.den, intCmp, ltInt_iff, neE] at g150; omega
        have hea := each1 i3 hlen
        refine ⟨fun gz => ⟨fun gl => ?_, fun gl => ?_⟩, fun gz => ?_⟩
        · have hs : A.getD 0 [] ≠ [] := by
            intro c; simp [-List.getD_eq_getElem?_getD, SB.den, SI.den, intCmp, ltInt_iff, neE, c] at gz
          obtain ⟨c, d, hcd⟩ := snoc_of hs
          have hd : d = 10 := by
            rw [last10 (c := c) (d := d) hcd] at gl; simpa using gl
          subst hd
          rw [hcd, List.length_append] at hlen
          refine ⟨neE A N 1 1 true 0 (wsuf 0 1) c [10], ?_, ⟨0, c, [10], by omega, hea, hcd, by rw [hcd, trimR_nl], rfl⟩, by simp [neμ, neE] at hlen ⊢; omega⟩
          simp [-List.getD_eq_getElem?_getD, Eqns, Eqn.ok, rows1_lth, neE, SI.den, SS.den, SP.den, preCells, RX.flat, RX.ok, AV.val, hw0, hcd, hd00, wantL]
          repeat' apply And.intro
          all_goals first | omega | exact rk | exact npk4 hcd
        · have hs : A.getD 0 [] ≠ [] := by
            intro c; simp [-List.getD_eq_getElem?_getD, SB.den, SI.den, intCmp, ltInt_iff, neE, c] at gz
          obtain ⟨c, d, hcd⟩ := snoc_of hs
          have hd : d ≠ 10 := by
            rw [last10 (c := c) (d := d) hcd] at gl; simpa using gl
          have hwt : trimR (A.getD 0 []) = A.getD 0 [] := by rw [hcd, trimR_other c hd]
          refine ⟨neE A N 1 1 true 1 (wsuf 0 1) [] [], ?_, ⟨1, by omega, by omega, hea, rfl⟩, by simp [neμ, neE]; omega⟩
          simp [-List.getD_eq_getElem?_getD, Eqns, Eqn.ok, rows1_lth, neE, SI.den, SS.den, SP.den, preCells, RX.flat, RX.ok, AV.val, hw0, hwt, hd00, wantL]
          repeat' apply And.intro
          all_goals first | omega | exact rk | exact npk3
        · have hs : A.getD 0 [] = [] := by
            simp [-List.getD_eq_getElem?_getD, SB.den, SI.den, intCmp, ltInt_iff, neE] at gz; first | exact gz | exact List.eq_nil_of_length_eq_zero (by omega)
          have hwt : trimR (A.getD 0 []) = A.getD 0 [] := by rw [hs]; rfl
          refine ⟨neE A N 1 1 true 1 (wsuf 0 1) [] [], ?_, ⟨1, by omega, by omega, hea, rfl⟩, by simp [neμ, neE]; omega⟩
          simp [-List.getD_eq_getElem?_getD, Eqns, Eqn.ok, rows1_lth, neE, SI.den, SS.den, SP.den, preCells, RX.flat, RX.ok, AV.val, hw0, hwt, hd00, wantL]
          repeat' apply And.intro
          all_goals first | omega | exact rk | exact npk3
    | 1, hi =>
      obtain ⟨i, i1, i2, i3, rfl⟩ := hi
      show OTok _ _ _ 1 _ nqo1
      simp only [nqo1, OTok]
      refine ⟨fun gi => ⟨fun _ => fin_nl, fun g150 => ?_⟩, fun gi => ?_⟩
      rotate_left
      · have hlt : i = N := by simp [SB.den, SI.den, intCmp, ltInt_iff, neE] at gi; omega
        subst hlt
        refine ⟨neE A i 1 1 true 0 [] [] [], ?_, ⟨rfl, rfl⟩, by simp [neμ, neE]⟩
        simp [-List.getD_eq_getElem?_getD, Eqns, Eqn.ok, neE, SI.den, SS.den, SP.den, preCells, RX.flat, RX.ok]
        exact rk
      have hlt : i < N := by simp [SB.den, SI.den, intCmp, ltInt_iff, neE] at gi; omega
      have hlen : (A.getD i []).length ≤ 150 := by
        simp [-List.getD_eq_getElem?_getD, SB.den, SI.den, intCmp, ltInt_iff, neE] at g150; omega
      have hea := each1 i3 hlen
      refine ⟨fun gz => ⟨fun gl => ?_, fun gl => ?_⟩, fun gz => ?_⟩
      · have hs : A.getD i [] ≠ [] := by
          intro c; simp [-List.getD_eq_getElem?_getD, SB.den, SI.den, intCmp, ltInt_iff, neE, c] at gz
        obtain ⟨c, d, hcd⟩ := snoc_of hs
        have hd : d = 10 := by
          rw [last10 (c := c) (d := d) hcd] at gl; simpa using gl
        subst hd
        rw [hcd, List.length_append] at hlen
        refine ⟨neE A N 1 1 true i (wsuf 0 (i + 1)) c [10], ?_, ⟨i, c, [10], by omega, hea, hcd, by rw [hcd, trimR_nl], rfl⟩, by simp [neμ, neE] at hlen ⊢; omega⟩
        simp [-List.getD_eq_getElem?_getD, Eqns, Eqn.ok, neE, SI.den, SS.den, SP.den, preCells, RX.flat, RX.ok, AV.val, wsuf1 i, hcd]
        repeat' apply And.intro
        all_goals first | omega | exact rk | exact npk4 hcd
      · have hs : A.getD i [] ≠ [] := by
          intro c; simp [-List.getD_eq_getElem?_getD, SB.den, SI.den, intCmp, ltInt_iff, neE, c] at gz
        obtain ⟨c, d, hcd⟩ := snoc_of hs
        have hd : d ≠ 10 := by
          rw [last10 (c := c) (d := d) hcd] at gl; simpa using gl
        have hwt : trimR (A.getD i []) = A.getD i [] := by rw [hcd, trimR_other c hd]
        refine ⟨neE A N 1 1 true (i + 1) (wsuf 0 (i + 1)) [] [], ?_, ⟨(i + 1), by omega, by omega, hea, rfl⟩, by simp [neμ, neE]; omega⟩
        simp [-List.getD_eq_getElem?_getD, Eqns, Eqn.ok, neE, SI.den, SS.den, SP.den, preCells, RX.flat, RX.ok, AV.val, wsuf1 i, hwt, wantL]
        repeat' apply And.intro
        all_goals first | omega | exact rk | exact npk3
      · have hs : A.getD i [] = [] := by
          simp [-List.getD_eq_getElem?_getD, SB.den, SI.den, intCmp, ltInt_iff, neE] at gz; first | exact gz | exact List.eq_nil_of_length_eq_zero (by omega)
        have hwt : trimR (A.getD i []) = A.getD i [] := by rw [hs]; rfl
        refine ⟨neE A N 1 1 true (i + 1) (wsuf 0 (i + 1)) [] [], ?_, ⟨(i + 1), by omega, by omega, hea, rfl⟩, by simp [neμ, neE]; omega⟩
        simp [-List.getD_eq_getElem?_getD, Eqns, Eqn.ok, neE, SI.den, SS.den, SP.den, preCells, RX.flat, RX.ok, AV.val, wsuf1 i, hwt, wantL]
        repeat' apply And.intro
        all_goals first | omega | exact rk | exact npk3
    | 2, hi =>
      obtain ⟨i, a, b, i2, i3, i4, i5, rfl⟩ := hi
      have hal : a.length ≤ 150 := by
        have := i3 i (by omega)
        rw [i4, List.length_append] at this; omega
      show OTok _ _ _ 2 _ nqo2
      simp only [nqo2, OTok]
      refine ⟨fun gz => ⟨fun gl => ?_, fun gl => ?_⟩, fun gz => ?_⟩
      · have hs : a ≠ [] := by
          intro c; simp [SB.den, SI.den, intCmp, ltInt_iff, neE, c] at gz
        obtain ⟨c, d, hcd⟩ := snoc_of hs
        have hd : d = 10 := by
          rw [last10 (c := c) (d := d) hcd] at gl; simpa using gl
        subst hd
        subst hcd
        refine ⟨neE A N 1 1 true i (wsuf 0 (i + 1)) c (10 :: b), ?_, ⟨i, c, 10 :: b, i2, i3, by rw [i4]; simp, by rw [i5, trimR_nl], rfl⟩, by simp [neμ, neE] at hal ⊢⟩
        simp [-List.getD_eq_getElem?_getD, Eqns, Eqn.ok, neE, SI.den, SS.den, SP.den, preCells, RX.flat, RX.ok, AV.val]
        repeat' apply And.intro
        all_goals first | omega | exact rk | (exact npk4 (by rw [i4]; simp))
      · have hs : a ≠ [] := by
          intro c; simp [SB.den, SI.den, intCmp, ltInt_iff, neE, c] at gz
        obtain ⟨c, d, hcd⟩ := snoc_of hs
        have hd : d ≠ 10 := by
          rw [last10 (c := c) (d := d) hcd] at gl; simpa using gl
        have hwt : trimR (A.getD i []) = a := by rw [i5, hcd, trimR_other c hd]
        refine ⟨neE A N 1 1 true (i + 1) (wsuf 0 (i + 1)) [] [], ?_, ⟨i + 1, by omega, by omega, i3, rfl⟩, by simp [neμ, neE]; omega⟩
        simp [-List.getD_eq_getElem?_getD, Eqns, Eqn.ok, neE, SI.den, SS.den, SP.den, preCells, RX.flat, RX.ok, AV.val, want1, hwt]
        repeat' apply And.intro
        all_goals first | omega | exact rk | exact npk3
      · have hs : a = [] := by
          simp [SB.den, SI.den, intCmp, ltInt_iff, neE] at gz; first | exact gz | exact List.eq_nil_of_length_eq_zero (by omega)
        have hwt : trimR (A.getD i []) = a := by rw [i5, hs]; rfl
        refine ⟨neE A N 1 1 true (i + 1) (wsuf 0 (i + 1)) [] [], ?_, ⟨i + 1, by omega, by omega, i3, rfl⟩, by simp [neμ, neE]; omega⟩
        simp [-List.getD_eq_getElem?_getD, Eqns, Eqn.ok, neE, SI.den, SS.den, SP.den, preCells, RX.flat, RX.ok, AV.val, want1, hwt]
        repeat' apply And.intro
        all_goals first | omega | exact rk | exact npk3
    | 3, hi =>
      obtain ⟨_, rfl⟩ := hi
      show OTok _ _ _ 3 _ nqo3
      simp only [nqo3, OTok]
      refine ⟨fun g => ?_, fun g => fin_nl⟩
      refine ⟨neE A N 1 1 true 1 [] [] [], ?_, ⟨rfl, 1, n1, rfl⟩, by simp [neμ, neE]⟩
      simp [-List.getD_eq_getElem?_getD, Eqns, Eqn.ok, neE, SI.den, SS.den, SP.den, preCells, RX.flat, RX.ok]
      exact rk
    | 4, hi =>
      obtain ⟨_, i, i2, rfl⟩ := hi
      show OTok _ _ _ 4 _ nqo4
      simp only [nqo4, OTok]
      refine ⟨fun g => ?_, fun g => fin_nl⟩
      have hlt : i < N := by simp [SB.den, SI.den, intCmp, ltInt_iff, neE] at g; omega
      refine ⟨neE A N 1 1 true (i + 1) [] [] [], ?_, ⟨rfl, i + 1, by omega, rfl⟩, by simp [neμ, neE]; omega⟩
      simp [-List.getD_eq_getElem?_getD, Eqns, Eqn.ok, neE, SI.den, SS.den, SP.den, preCells, RX.flat, RX.ok]
      exact rk
end
end Go.Sx
namespace Go.Sx
open Go.Proofs
set_option maxRecDepth 100000
section
variable {A : List (List UInt8)} {N : Nat} {v : Bool}
theorem nx_law {φ : Pl} {W : World} {xs : List Value} (hne : A ≠ []) (hN : N = min A.length 20) (hbad : ¬ ∀ k, k < N → (A.getD k []).length ≤ 150) (hw : LWn 70 φ (neE A N 2 0 v 0 [] [] []) [(64, .rowv true 10 1 (.lit 0) [.str [.var 40]] 9)] W)
    (ha : VRs (neE A N 2 0 v 0 [] [] []) φ [.slice 64 0 (.rlen 10) (.rest 1), .bool (.var 3)] xs) : Calls Tryz.prog 5 ⟨xs⟩ W fun e W' => e = .returned (.bool true) ∧ Kept W W' := by
  have l1 : 1 ≤ A.length := List.length_pos_iff.2 hne
  have n1 : 1 ≤ N := by omega
  have n2 : N ≤ 20 := by omega
  have nA : N ≤ A.length := by omega
  have rk := rows1_ok A
  have wl : ∀ j n, j + n ≤ 20 → (wsuf j n).length ≤ 180 := fun j n h => by have := wsuf_len n j h; omega
  have go1 : ∀ i s, i < N → (∀ k, k < i + 1 → (A.getD k []).length ≤ 150) → wantL A (i + 1) = s → neI A N 2 0 v false 1 (neE A N 2 0 v (i + 1) (wsuf 0 (i + 1)) [] []) := fun i s h1 h2 _ => ⟨i + 1, by omega, by omega, h2, rfl⟩
  refine law_ofn (G := nxG) (C := nxC) (I := neI A N 2 0 v false) (μ := neμ N) ?_ ?_ ?_ ?_ rfl rfl rfl nxst hw ha
  · intro k ρ hi
    match k, hi with
    | 0, hi =>
      replace hi : ρ = _ := hi
      subst hi; exact ctx18 orcs_nil (pors_cons sh_ok (pors_cons (d0_ok (i := 0) rfl (by omega) rfl) pors_nil))
    | 1, hi => obtain ⟨i, _, h, _, rfl⟩ := hi; exact ctx18 orcs_nil (pors_cons sh_ok (pors_cons (d0_ok (i := i) rfl (by omega) rfl) pors_nil))
    | 2, hi => obtain ⟨i, a, b, h, _, _, _, rfl⟩ := hi; exact ctx18 orcs_nil (pors_cons sh_ok (pors_cons (d0_ok (i := i) rfl (by omega) rfl) pors_nil))
    | 3, hi => exact absurd hi.1 (by decide)
    | 4, hi => exact absurd hi.1 (by decide)
  · intro k ρ hi
    match k, hi with
    | 0, hi =>
      replace hi : ρ = _ := hi
      subst hi
      rw [nxf0]
      intro p hp
      simp only [List.mem_cons, List.not_mem_nil, or_false] at hp
      rcases hp with rfl <;> simp [SB.den, SI.den, intCmp, ltInt_iff, neE, rows1_lth] <;> omega
    | 1, hi =>
      obtain ⟨i, i1, i2, i3, rfl⟩ := hi
      rw [nxf1]
      have e1 := wl 0 i (by omega)
      have e2 := want_len i3
      have e3 := dd_lt' (j := i) (by omega)
      intro p hp
      simp only [List.mem_cons, List.not_mem_nil, or_false] at hp
      rcases hp with rfl | rfl | rfl | rfl | rfl | rfl | rfl | rfl | rfl <;> simp [SB.den, SI.den, intCmp, ltInt_iff, neE, rows1_lth] <;> omega
    | 2, hi =>
      obtain ⟨i, a, b, i2, i3, i4, i5, rfl⟩ := hi
      rw [nxf2]
      have e1 := wl 0 (i + 1) (by omega)
      have e2 := want_len (fun k hk => i3 k (by omega) : ∀ k, k < i → _)
      have e3 := dd_lt' (j := i) (by omega)
      have e4 := i3 i (by omega)
      rw [i4, List.length_append] at e4
      intro p hp
      simp only [List.mem_cons, List.not_mem_nil, or_false] at hp
      rcases hp with rfl | rfl | rfl | rfl | rfl | rfl | rfl | rfl | rfl | rfl | rfl <;> simp [SB.den, SI.den, intCmp, ltInt_iff, neE, rows1_lth] <;> omega
    | 3, hi =>
      exact absurd hi.1 (by decide)
    | 4, hi =>
      exact absurd hi.1 (by decide)
  · intro k ρ hi
    match k, hi with
    | 0, _ => exact nxat0
    | 1, _ => exact nxat1
    | 2, _ => exact nxat2
    | 3, hi => exact absurd hi.1 (by decide)
    | 4, hi => exact absurd hi.1 (by decide)
  · intro k ρ hi
    match k, hi with
    | 0, hi =>
      replace hi : ρ = _ := hi
      subst hi
      show OTok _ _ _ 0 _ nxo0
      simp only [nxo0, OTok]
      have i3 : ∀ k, k < 0 → (A.getD k []).length ≤ 150 := fun k h => absurd h (by omega)
      have hw0 : wsuf 0 1 = [36, 40, 100, 111, 32, 48, 41, 46] := by rw [wsuf1, hd00]; rfl
      refine ⟨fun gN => ⟨fun _ => fin_nl, fun g150 => ?_⟩, fun gN => ⟨fun _ => fin_nl, fun g150 => ?_⟩⟩
      · have hNN : (N : Int) = 20 := by simp [SB.den, SI.den, intCmp, ltInt_iff, neE, rows1_lth] at gN; omega
        have hlen : (A.getD 0 []).length ≤ 150 := by
          simp [-List.getD_eq_getElem?_getD, SB.den, SI.den, intCmp, ltInt_iff, neE] at g150; omega
        have hea := each1 i3 hlen
        refine ⟨fun gz => ⟨fun gl => ?_, fun gl => ?_⟩, fun gz => ?_⟩
        · have hs : A.getD 0 [] ≠ [] := by
            intro c; simp [-List.getD_eq_getElem?_getD, SB.den, SI.den, intCmp, ltInt_iff, neE, c] at gz
          obtain ⟨c, d, hcd⟩ := snoc_of hs
          have hd : d = 10 := by
            rw [last10 (c := c) (d := d) hcd] at gl; simpa using gl
          subst hd
          rw [hcd, List.length_append] at hlen
          refine ⟨neE A N 2 0 v 0 (wsuf 0 1) c [10], ?_, ⟨0, c, [10], by omega, hea, hcd, by rw [hcd, trimR_nl], rfl⟩, by simp [neμ, neE] at hlen ⊢; omega⟩
          simp [-List.getD_eq_getElem?_getD, Eqns, Eqn.ok, neE, SB.den, SI.den, SS.den, SP.den, preCells, RX.flat, RX.ok, AV.val, hw0, hcd, hd00, wantL]
          repeat' apply And.intro
          all_goals first | omega | exact rk | exact npk4 hcd
        · have hs : A.getD 0 [] ≠ [] := by
            intro c; simp [-List.getD_eq_getElem?_getD, SB.den, SI.den, intCmp, ltInt_iff, neE, c] at gz
          obtain ⟨c, d, hcd⟩ := snoc_of hs
          have hd : d ≠ 10 := by
            rw [last10 (c := c) (d := d) hcd] at gl; simpa using gl
          have hwt : trimR (A.getD 0 []) = A.getD 0 [] := by rw [hcd, trimR_other c hd]
          refine ⟨neE A N 2 0 v 1 (wsuf 0 1) [] [], ?_, ⟨1, by omega, by omega, hea, rfl⟩, by simp [neμ, neE]; omega⟩
          simp [-List.getD_eq_getElem?_getD, Eqns, Eqn.ok, neE, SB.den, SI.den, SS.den, SP.den, preCells, RX.flat, RX.ok, AV.val, hw0, hwt, hd00, wantL]
          repeat' apply And.intro
          all_goals first | omega | exact rk | exact npk3
        · have hs : A.getD 0 [] = [] := by
            simp [-List.getD_eq_getElem?_getD, SB.den, SI.den, intCmp, ltInt_iff, neE] at gz; first | exact gz | exact List.eq_nil_of_length_eq_zero (by omega)
          have hwt : trimR (A.getD 0 []) = A.getD 0 [] := by rw [hs]; rfl
          refine ⟨neE A N 2 0 v 1 (wsuf 0 1) [] [], ?_, ⟨1, by omega, by omega, hea, rfl⟩, by simp [neμ, neE]; omega⟩
          simp [-List.getD_eq_getElem?_getD, Eqns, Eqn.ok, neE, SB.den, SI.den, SS.den, SP.den, preCells, RX.flat, RX.ok, AV.val, hw0, hwt, hd00, wantL]
          repeat' apply And.intro
          all_goals first | omega | exact rk | exact npk3
      · have hNN : (N : Int) = A.length := by simp [SB.den, SI.den, intCmp, ltInt_iff, neE, rows1_lth] at gN; omega
        have hlen : (A.getD 0 []).length ≤ 150 := by
          simp [-List.getD_eq_getElem?_getD, SB.den, SI.den, intCmp, ltInt_iff, neE] at g150; omega
        have hea := each1 i3 hlen
        refine ⟨fun gz => ⟨fun gl => ?_, fun gl => ?_⟩, fun gz => ?_⟩
        · have hs : A.getD 0 [] ≠ [] := by
            intro c; simp [-List.getD_eq_getElem?_getD, SB.den, SI.den, intCmp, ltInt_iff, neE, c] at gz
          obtain ⟨c, d, hcd⟩ := snoc_of hs
          have hd : d = 10 := by
            rw [last10 (c := c) (d := d) hcd] at gl; simpa using gl
          subst hd
          rw [hcd, List.length_append] at hlen
          refine ⟨neE A N 2 0 v 0 (wsuf 0 1) c [10], ?_, ⟨0, c, [10], by omega, hea, hcd, by rw [hcd, trimR_nl], rfl⟩, by simp [neμ, neE] at hlen ⊢; omega⟩
          simp [-List.getD_eq_getElem?_getD, Eqns, Eqn.ok, rows1_lth, neE, SB.den, SI.den, SS.den, SP.den, preCells, RX.flat, RX.ok, AV.val, hw0, hcd, hd00, wantL]
          repeat' apply And.intro
          all_goals first | omega | exact rk | exact npk4 hcd
        · have hs : A.getD 0 [] ≠ [] := by
            intro c; simp [-List.getD_eq_getElem?_getD, SB.den, SI.den, intCmp, ltInt_iff, neE, c] at gz
          obtain ⟨c, d, hcd⟩ := snoc_of hs
          have hd : d ≠ 10 := by
            rw [last10 (c := c) (d := d) hcd] at gl; simpa using gl
          have hwt : trimR (A.getD 0 []) = A.getD 0 [] := by rw [hcd, trimR_other c hd]
          refine ⟨neE A N 2 0 v 1 (wsuf 0 1) [] [], ?_, ⟨1, by omega, by omega, hea, rfl⟩, by simp [neμ, neE]; omega⟩
          simp [-List.getD_eq_getElem?_getD, Eqns, Eqn.ok, rows1_lth, neE, SB.den, SI.den, SS.den, SP.den, preCells, RX.flat, RX.ok, AV.val, hw0, hwt, hd00, wantL]
          repeat' apply And.intro
          all_goals first | omega | exact rk | exact npk3
        · have hs : A.getD 0 [] = [] := by
            simp [-List.getD_eq_getElem?_getD, SB.den, SI.den, intCmp, ltInt_iff, neE] at gz; first | exact gz | exact List.eq_nil_of_length_eq_zero (by omega)
          have hwt : trimR (A.getD 0 []) = A.getD 0 [] := by rw [hs]; rfl
          refine ⟨neE A N 2 0 v 1 (wsuf 0 1) [] [], ?_, ⟨1, by omega, by omega, hea, rfl⟩, by simp [neμ, neE]; omega⟩
          simp [-List.getD_eq_getElem?_getD, Eqns, Eqn.ok, rows1_lth, neE, SB.den, SI.den, SS.den, SP.den, preCells, RX.flat, RX.ok, AV.val, hw0, hwt, hd00, wantL]
          repeat' apply And.intro
          all_goals first | omega | exact rk | exact npk3
    | 1, hi =>
      obtain ⟨i, i1, i2, i3, rfl⟩ := hi
      show OTok _ _ _ 1 _ nxo1
      simp only [nxo1, OTok]
      refine ⟨fun gi => ⟨fun _ => fin_nl, fun g150 => ?_⟩, fun gi => ?_⟩
      rotate_left
      · have hlt : i = N := by simp [SB.den, SI.den, intCmp, ltInt_iff, neE] at gi; omega
        subst hlt
        exact absurd i3 hbad
      have hlt : i < N := by simp [SB.den, SI.den, intCmp, ltInt_iff, neE] at gi; omega
      have hlen : (A.getD i []).length ≤ 150 := by
        simp [-List.getD_eq_getElem?_getD, SB.den, SI.den, intCmp, ltInt_iff, neE] at g150; omega
      have hea := each1 i3 hlen
      refine ⟨fun gz => ⟨fun gl => ?_, fun gl => ?_⟩, fun gz => ?_⟩
      · have hs : A.getD i [] ≠ [] := by
          intro c; simp [-List.getD_eq_getElem?_getD, SB.den, SI.den, intCmp, ltInt_iff, neE, c] at gz
        obtain ⟨c, d, hcd⟩ := snoc_of hs
        have hd : d = 10 := by
          rw [last10 (c := c) (d := d) hcd] at gl; simpa using gl
        subst hd
        rw [hcd, List.length_append] at hlen
        refine ⟨neE A N 2 0 v i (wsuf 0 (i + 1)) c [10], ?_, ⟨i, c, [10], by omega, hea, hcd, by rw [hcd, trimR_nl], rfl⟩, by simp [neμ, neE] at hlen ⊢; omega⟩
        simp [-List.getD_eq_getElem?_getD, Eqns, Eqn.ok, neE, SB.den, SI.den, SS.den, SP.den, preCells, RX.flat, RX.ok, AV.val, wsuf1 i, hcd]
        repeat' apply And.intro
        all_goals first | omega | exact rk | exact npk4 hcd
      · have hs : A.getD i [] ≠ [] := by
          intro c; simp [-List.getD_eq_getElem?_getD, SB.den, SI.den, intCmp, ltInt_iff, neE, c] at gz
        obtain ⟨c, d, hcd⟩ := snoc_of hs
        have hd : d ≠ 10 := by
          rw [last10 (c := c) (d := d) hcd] at gl; simpa using gl
        have hwt : trimR (A.getD i []) = A.getD i [] := by rw [hcd, trimR_other c hd]
        refine ⟨neE A N 2 0 v (i + 1) (wsuf 0 (i + 1)) [] [], ?_, ⟨(i + 1), by omega, by omega, hea, rfl⟩, by simp [neμ, neE]; omega⟩
        simp [-List.getD_eq_getElem?_getD, Eqns, Eqn.ok, neE, SB.den, SI.den, SS.den, SP.den, preCells, RX.flat, RX.ok, AV.val, wsuf1 i, hwt, wantL]
        repeat' apply And.intro
        all_goals first | omega | exact rk | exact npk3
      · have hs : A.getD i [] = [] := by
          simp [-List.getD_eq_getElem?_getD, SB.den, SI.den, intCmp, ltInt_iff, neE] at gz; first | exact gz | exact List.eq_nil_of_length_eq_zero (by omega)
        have hwt : trimR (A.getD i []) = A.getD i [] := by rw [hs]; rfl
        refine ⟨neE A N 2 0 v (i + 1) (wsuf 0 (i + 1)) [] [], ?_, ⟨(i + 1), by omega, by omega, hea, rfl⟩, by simp [neμ, neE]; omega⟩
        simp [-List.getD_eq_getElem?_getD, Eqns, Eqn.ok, neE, SB.den, SI.den, SS.den, SP.den, preCells, RX.flat, RX.ok, AV.val, wsuf1 i, hwt, wantL]
        repeat' apply And.intro
        all_goals first | omega | exact rk | exact npk3
    | 2, hi =>
      obtain ⟨i, a, b, i2, i3, i4, i5, rfl⟩ := hi
      have hal : a.length ≤ 150 := by
        have := i3 i (by omega)
        rw [i4, List.length_append] at this; omega
      show OTok _ _ _ 2 _ nxo2
      simp only [nxo2, OTok]
      refine ⟨fun gz => ⟨fun gl => ?_, fun gl => ?_⟩, fun gz => ?_⟩
      · have hs : a ≠ [] := by
          intro c; simp [SB.den, SI.den, intCmp, ltInt_iff, neE, c] at gz
        obtain ⟨c, d, hcd⟩ := snoc_of hs
        have hd : d = 10 := by
          rw [last10 (c := c) (d := d) hcd] at gl; simpa using gl
        subst hd
        subst hcd
        refine ⟨neE A N 2 0 v i (wsuf 0 (i + 1)) c (10 :: b), ?_, ⟨i, c, 10 :: b, i2, i3, by rw [i4]; simp, by rw [i5, trimR_nl], rfl⟩, by simp [neμ, neE] at hal ⊢⟩
        simp [-List.getD_eq_getElem?_getD, Eqns, Eqn.ok, neE, SB.den, SI.den, SS.den, SP.den, preCells, RX.flat, RX.ok, AV.val]
        repeat' apply And.intro
        all_goals first | omega | exact rk | (exact npk4 (by rw [i4]; simp))
      · have hs : a ≠ [] := by
          intro c; simp [SB.den, SI.den, intCmp, ltInt_iff, neE, c] at gz
        obtain ⟨c, d, hcd⟩ := snoc_of hs
        have hd : d ≠ 10 := by
          rw [last10 (c := c) (d := d) hcd] at gl; simpa using gl
        have hwt : trimR (A.getD i []) = a := by rw [i5, hcd, trimR_other c hd]
        refine ⟨neE A N 2 0 v (i + 1) (wsuf 0 (i + 1)) [] [], ?_, ⟨i + 1, by omega, by omega, i3, rfl⟩, by simp [neμ, neE]; omega⟩
        simp [-List.getD_eq_getElem?_getD, Eqns, Eqn.ok, neE, SB.den, SI.den, SS.den, SP.den, preCells, RX.flat, RX.ok, AV.val, want1, hwt]
        repeat' apply And.intro
        all_goals first | omega | exact rk | exact npk3
      · have hs : a = [] := by
          simp [SB.den, SI.den, intCmp, ltInt_iff, neE] at gz; first | exact gz | exact List.eq_nil_of_length_eq_zero (by omega)
        have hwt : trimR (A.getD i []) = a := by rw [i5, hs]; rfl
        refine ⟨neE A N 2 0 v (i + 1) (wsuf 0 (i + 1)) [] [], ?_, ⟨i + 1, by omega, by omega, i3, rfl⟩, by simp [neμ, neE]; omega⟩
        simp [-List.getD_eq_getElem?_getD, Eqns, Eqn.ok, neE, SB.den, SI.den, SS.den, SP.den, preCells, RX.flat, RX.ok, AV.val, want1, hwt]
        repeat' apply And.intro
        all_goals first | omega | exact rk | exact npk3
    | 3, hi => exact absurd hi.1 (by decide)
    | 4, hi => exact absurd hi.1 (by decide)
end
end Go.Sx
namespace Go.Sx
open Go.Proofs
set_option maxRecDepth 100000
theorem nzn_law {φ : Pl} {W : World} {xs : List Value} {ρ : Env} (hw : LWn 70 φ ρ [] W) (ha : VRs ρ φ [.nilSlice, .bool (.var 3)] xs) : Calls Tryz.prog 5 ⟨xs⟩ W fun e W' => e = .returned (.bool true) ∧ Kept W W' := by
  refine law_ofn (G := nznG) (C := nznC) (I := fun k ρ' => k = 0 ∧ ρ' = ρ) (μ := fun _ _ => 0) (fun _ _ _ => ctx18 orcs_nil (pors_cons sh_ok pors_nil)) ?_ ?_ ?_ ⟨rfl, rfl⟩ rfl rfl nznst hw ha
  · rintro k ρ' ⟨rfl, rfl⟩
    rw [nznf0]
    intro p hp; cases hp
  · rintro k ρ' ⟨rfl, rfl⟩; exact nznat0
  · rintro k ρ' ⟨rfl, rfl⟩
    show OTok _ _ _ 0 ρ' nzno0
    simp only [nzno0, OTok]
    exact ⟨fun _ => ⟨ρ', eqns_nl, trivial⟩, fun _ => ⟨ρ', eqns_nl, trivial⟩⟩
theorem nze_law {φ : Pl} {W : World} {xs : List Value} {ρ : Env} (hw : LWn 70 φ ρ [] W) (ha : VRs ρ φ [.eslice 64 1, .bool (.var 3)] xs) : Calls Tryz.prog 5 ⟨xs⟩ W fun e W' => e = .returned (.bool true) ∧ Kept W W' := by
  refine law_ofn (G := nzeG) (C := nzeC) (I := fun k ρ' => k = 0 ∧ ρ' = ρ) (μ := fun _ _ => 0) (fun _ _ _ => ctx18 orcs_nil (pors_cons sh_ok pors_nil)) ?_ ?_ ?_ ⟨rfl, rfl⟩ rfl rfl nzest hw ha
  · rintro k ρ' ⟨rfl, rfl⟩
    rw [nzef0]
    intro p hp; cases hp
  · rintro k ρ' ⟨rfl, rfl⟩; exact nzeat0
  · rintro k ρ' ⟨rfl, rfl⟩
    show OTok _ _ _ 0 ρ' nzeo0
    simp only [nzeo0, OTok]
    exact ⟨fun _ => ⟨ρ', eqns_nl, trivial⟩, fun _ => ⟨ρ', eqns_nl, trivial⟩⟩
theorem fresh70 (b off cap : Nat) : ∀ i, 70 ≤ i → pl64 b off cap i = none := fun i h => fresh64 b off cap i (by omega)
theorem needs_ok {W : World} {ss : List (List UInt8)} {v0 : Value} (q : Bool) (h0 : FormOf W (fun i x => x = vstr (ss.getD i [])) v0) :
    Calls Tryz.prog 5 #[v0, .bool q] W fun e W' => e = .returned (.bool true) ∧ Kept W W' := by
  have vb : ∀ (φ : Pl) (ρ : Env), ρ.boo 3 = q → VR ρ φ (.bool (.var 3)) (.bool q) := fun φ ρ h => by simp only [VR, SB.den, h]
  rcases h0 with rfl | ⟨b, off, n, cap, c, ek, fz, rfl, hb, hn, hcap, hc⟩
  · exact nzn_law (ρ := neE [] 0 2 0 q 0 [] [] []) (lwn (glob64 0 0 0) (fresh70 0 0 0) no_blocks) (VRs.cons vr_nils (VRs.cons (vb _ _ rfl) VRs.nil))
  · by_cases hz : n = 0
    · subst hz
      exact nze_law (ρ := neE [] 0 2 0 q 0 [] [] []) (lwn (glob64 b 0 (off + cap)) (fresh70 b 0 (off + cap)) no_blocks) (VRs.cons (vr_emp (pl64_at _ _ _)) (VRs.cons (vb _ _ rfl) VRs.nil))
    · obtain ⟨A, hAl, hA⟩ := strsOf hn hc
      have hne : A ≠ [] := by rintro rfl; exact hz hAl.symm
      have lw : ∀ (K P : Int) (v : Bool), LWn 70 (pl64 b off cap) (neE A (min A.length 20) K P v 0 [] [] []) [(64, .rowv true 10 1 (.lit 0) [.str [.var 40]] 9)] W := by
        intro K P v
        refine lwn (glob64 b off cap) (fresh70 b off cap) (fun i d h => ?_)
        obtain ⟨rfl, rfl⟩ := get_one h
        exact ⟨rfl, _, _, pl64_at _ _ _, hb, row_strs rfl rfl (hcap (by omega)) (by omega) hA⟩
      have va : ∀ (K P : Int) (v : Bool), VR (neE A (min A.length 20) K P v 0 [] [] []) (pl64 b off cap) (.slice 64 0 (.rlen 10) (.rest 1)) (.slice (some ⟨b, off, none⟩) n cap) := fun K P v => vr_rows (pl64_at _ _ _) (by rw [← hAl]; exact rows1_lth A) hn
      by_cases hg : ∀ k, k < min A.length 20 → (A.getD k []).length ≤ 150
      · cases q with
        | true => exact nq_law hne rfl hg (lw 1 1 true) (VRs.cons (va 1 1 true) (VRs.cons (by simp only [VR, SB.den]) VRs.nil))
        | false => exact nu_law hne rfl hg (lw 2 0 false) (VRs.cons (va 2 0 false) (VRs.cons (by simp only [VR, SB.den]) VRs.nil))
      · exact nx_law hne rfl hg (lw 2 0 q) (VRs.cons (va 2 0 q) (VRs.cons (vb _ _ rfl) VRs.nil))
end Go.Sx
