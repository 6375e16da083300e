import Derived.Test.YtanpkoghglnphaaGreatDoorNeA
namespace Go.Sx
open Go.Proofs
set_option maxRecDepth 1000000

noncomputable def tnC : Ctx := ctxOf Tryz.prog lies18 exts18 [] []
noncomputable def tntg : List AM := [st tnC 33 [.ptr 79 0] (hpOf [(79, .cells false none [.slice 82 0 (.rlen 22) (.rest 2), .int .i64 (.var 1)] 77), (82, .rowv false 22 2 (.lit 0) [.str [.var 76], .int .i64 (.var 77)] 79)] 83) [(.cmp .leq (.slen 76) (.lit 4000), true), (.cmp .eql (.var 77) (.lit 3), false), (.cmp .geq (.rlen 22) (.lit 1), true), (.cmp .leq (.rlen 22) (.lit 60), true)],
    nd tnC 33 0 [(3, .ptr 83 0), (9, .slice 82 0 (.rlen 22) (.rest 2)), (10, .int .i64 (.rlen 22)), (11, .int .i64 (.var 0))]
      [(82, .rowv false 22 2 (.var 0) [.str [.var 30], .int .i64 (.var 31)] 79), (83, .cells false none [.ptr 83 0, .nilSlice] 70)] 84
      [(.cmp .geq (.var 0) (.lit 1), true), (.cmp .leq (.var 0) (.rlen 22), true), (.cmp .leq (.slen 30) (.lit 4000), true), (.cmp .eql (.var 31) (.lit 3), false), (.cmp .geq (.rlen 22) (.lit 1), true), (.cmp .leq (.rlen 22) (.lit 60), true)],
    nd tnC 33 0 [(3, .ptr 83 0), (9, .slice 82 0 (.rlen 22) (.rest 2)), (10, .int .i64 (.rlen 22)), (11, .int .i64 (.var 0))]
      [(82, .rowv false 22 2 (.var 0) [.str [.var 30], .int .i64 (.var 31)] 79), (83, .cells false none [.ptr 83 0, .slice 84 0 (.slen 32) (.rest 1)] 70), (84, .bytes [.var 32] 5 false)] 85
      [(.cmp .geq (.var 0) (.lit 1), true), (.cmp .leq (.var 0) (.rlen 22), true), (.cmp .leq (.slen 30) (.lit 4000), true), (.cmp .eql (.var 31) (.lit 3), false), (.cmp .geq (.rlen 22) (.lit 1), true), (.cmp .leq (.rlen 22) (.lit 60), true), (.cmp .geq (.slen 32) (.lit 1), true), (.cmp .leq (.slen 32) (.lit 4000), true)]]
noncomputable def tno0 : OT := (.fork (.cmp .eql (.slen 76) (.lit 0)) (.to 1 ⟨83, 84, [(83, 83)]⟩ [.int (.var 0) (.lit 1), .int (.rlen 22) (.rlen 22), .int (.rlen 22) (.rlen 22), .row 22 2 (some ((.v 22), 2)) [], .peek 22 (.var 0) [.str [.var 30], .int .i64 (.var 31)]]) (.to 2 ⟨83, 85, [(83, 83), (84, 85)]⟩ [.int (.var 0) (.lit 1), .int (.rlen 22) (.rlen 22), .int (.rlen 22) (.rlen 22), .int (.slen 32) (.slen 76), .str [.var 32] [.var 76], .row 22 2 (some ((.v 22), 2)) [], .peek 22 (.var 0) [.str [.var 30], .int .i64 (.var 31)]]))
noncomputable def tno1 : OT := (.fork (.cmp .lss (.var 0) (.rlen 22)) (.fork (.cmp .eql (.slen 30) (.lit 0)) (.to 1 ⟨83, 84, [(83, 83)]⟩ [.int (.var 0) (.add (.var 0) (.lit 1)), .int (.rlen 22) (.rlen 22), .int (.rlen 22) (.rlen 22), .row 22 2 (some ((.v 22), 2)) [], .peek 22 (.var 0) [.str [.var 30], .int .i64 (.var 31)]]) (.to 2 ⟨83, 85, [(83, 83), (84, 85)]⟩ [.int (.var 0) (.add (.var 0) (.lit 1)), .int (.rlen 22) (.rlen 22), .int (.rlen 22) (.rlen 22), .int (.slen 32) (.slen 30), .str [.var 32] [.var 30], .row 22 2 (some ((.v 22), 2)) [], .peek 22 (.var 0) [.str [.var 30], .int .i64 (.var 31)]])) (.fin ⟨83, 85, []⟩ [.str [.var 75] []]))
noncomputable def tno2 : OT := (.fork (.cmp .lss (.var 0) (.rlen 22)) (.to 2 ⟨83, 85, [(83, 83), (84, 86)]⟩ [.int (.var 0) (.add (.var 0) (.lit 1)), .int (.rlen 22) (.rlen 22), .int (.rlen 22) (.rlen 22), .int (.slen 32) (.add (.slen 32) (.slen 30)), .str [.var 32] [.var 32, .var 30], .row 22 2 (some ((.v 22), 2)) [], .peek 22 (.var 0) [.str [.var 30], .int .i64 (.var 31)]]) (.fin ⟨83, 85, []⟩ [.str [.var 75] [.var 32]]))
noncomputable def tnG : Graph := { tg := pick tntg, stop := (stopAny [(33, (0, 3))]), n := (fun _ => 800), pl := fun k => ([tno0, tno1, tno2].getD k .no).plan, o := fun k => [tno0, tno1, tno2].getD k .no, v := .str [.var 75], h := (hpOf [] 85), f := 33, N := 83 }
theorem tnat0 : tnG.At tnC 0 := ⟨by kernel_rfl, by kernel_rfl, by kernel_rfl⟩
theorem tnat1 : tnG.At tnC 1 := ⟨by kernel_rfl, by kernel_rfl, by kernel_rfl⟩
theorem tnat2 : tnG.At tnC 2 := ⟨by kernel_rfl, by kernel_rfl, by kernel_rfl⟩
theorem tnf0 : (tnG.tg 0).facts = [(.cmp .leq (.slen 76) (.lit 4000), true), (.cmp .eql (.var 77) (.lit 3), false), (.cmp .geq (.rlen 22) (.lit 1), true), (.cmp .leq (.rlen 22) (.lit 60), true)] := by kernel_rfl
theorem tnf1 : (tnG.tg 1).facts = [(.cmp .geq (.var 0) (.lit 1), true), (.cmp .leq (.var 0) (.rlen 22), true), (.cmp .leq (.slen 30) (.lit 4000), true), (.cmp .eql (.var 31) (.lit 3), false), (.cmp .geq (.rlen 22) (.lit 1), true), (.cmp .leq (.rlen 22) (.lit 60), true)] := by kernel_rfl
theorem tnf2 : (tnG.tg 2).facts = [(.cmp .geq (.var 0) (.lit 1), true), (.cmp .leq (.var 0) (.rlen 22), true), (.cmp .leq (.slen 30) (.lit 4000), true), (.cmp .eql (.var 31) (.lit 3), false), (.cmp .geq (.rlen 22) (.lit 1), true), (.cmp .leq (.rlen 22) (.lit 60), true), (.cmp .geq (.slen 32) (.lit 1), true), (.cmp .leq (.slen 32) (.lit 4000), true)] := by kernel_rfl
theorem tnst : startF tnC [(.cmp .leq (.slen 76) (.lit 4000), true), (.cmp .eql (.var 77) (.lit 3), false), (.cmp .geq (.rlen 22) (.lit 1), true), (.cmp .leq (.rlen 22) (.lit 60), true)] 33 [.ptr 79 0] (hpOf [(79, .cells false none [.slice 82 0 (.rlen 22) (.rest 2), .int .i64 (.var 1)] 77), (82, .rowv false 22 2 (.lit 0) [.str [.var 76], .int .i64 (.var 77)] 79)] 83) = some (tnG.tg 0) := by kernel_rfl
end Go.Sx
namespace Go.Sx
open Go.Proofs
set_option maxRecDepth 100000
noncomputable def p_tr : POrc := { facts := [], f := 112, args := [.str [.var 50], .str [.lit [10]]], pre := [], v := .str [.var 51] }
def nrow (p : Int × List UInt8) : List Value := qrow p.1 p.2
def ng (T : List (Int × List UInt8)) (i : Nat) : Int × List UInt8 := T.getD i (0, [])
def ntx (T : List (Int × List UInt8)) : List UInt8 := (T.map fun p => p.2).flatten
theorem nrow_ok (L : List (Int × List UInt8)) : ∀ q ∈ L.map nrow, q.length = 2 ∧ ∀ v ∈ q, v.oneCell' = true := by
  intro q h
  obtain ⟨p, _, rfl⟩ := List.mem_map.1 h
  exact ⟨rfl, fun v hv => by simp [nrow, qrow] at hv; rcases hv with rfl | rfl <;> rfl⟩
theorem npk {T : List (Int × List UInt8)} {i : Nat} : ∀ (xs : List Value) (x : Int) (y : List UInt8), T[i]? = some (x, y) → nrow (x, y) = xs → xs = [vstr (ng T i).2, .int .i64 (ng T i).1] := by
  intro xs x y h1 h2
  rw [← h2]; simp [ng, List.getD, h1, nrow, qrow]
theorem npk1 {T : List (Int × List UInt8)} {i : Nat} : ∀ (xs : List Value), (T.map nrow)[i]? = some xs → xs = [vstr (ng T i).2, .int .i64 (ng T i).1] := by
  intro xs h
  simp only [List.getElem?_map, Option.map_eq_some_iff] at h
  obtain ⟨⟨x, y⟩, h1, h2⟩ := h
  exact npk xs x y h1 h2
theorem ntx_app (a b : List (Int × List UInt8)) : ntx (a ++ b) = ntx a ++ ntx b := by simp [ntx]
theorem ntx_take {T : List (Int × List UInt8)} {i : Nat} (h : i < T.length) : ntx (T.take (i + 1)) = ntx (T.take i) ++ (ng T i).2 := by
  rw [List.take_succ_eq_append_getElem h, ntx_app]
  simp [ntx, ng, List.getD, List.getElem?_eq_getElem h]
theorem ntx_le (T : List (Int × List UInt8)) (i : Nat) : (ntx (T.take i)).length ≤ (ntx T).length := by
  conv => rhs; rw [← List.take_append_drop i T, ntx_app]
  simp
theorem ng_le (T : List (Int × List UInt8)) (i : Nat) : (ng T i).2.length ≤ (ntx T).length := by
  rcases Nat.lt_or_ge i T.length with h | h
  · have h1 := ntx_take h
    have h2 := ntx_le T (i + 1)
    rw [h1, List.length_append] at h2; omega
  · simp [ng, List.getD, List.getElem?_eq_none h]
theorem ng_k {T : List (Int × List UInt8)} (hk : ∀ p ∈ T, p.1 ≠ 3) (i : Nat) : (ng T i).1 ≠ 3 := by
  rcases Nat.lt_or_ge i T.length with h | h
  · have := hk T[i] (List.getElem_mem h)
    simpa [ng, List.getD, List.getElem?_eq_getElem h] using this
  · simp [ng, List.getD, List.getElem?_eq_none h]
def tnE (r : Nat) (T : List (Int × List UInt8)) (ρ : Env) (i : Nat) : Env := ((((ρ.setI 0 i).setI 31 (ng T i).1).setS 30 (ng T i).2).setS 32 (ntx (T.take i))).setR r (T.map nrow)
def tnI (r : Nat) (T : List (Int × List UInt8)) (ρ0 : Env) : Nat → Env → Prop
  | 0, ρ => ρ = ρ0
  | 1, ρ => ∃ i : Nat, 1 ≤ i ∧ i ≤ T.length ∧ ntx (T.take i) = [] ∧ ρ = tnE r T ρ0 i
  | 2, ρ => ∃ i : Nat, 1 ≤ i ∧ i ≤ T.length ∧ ntx (T.take i) ≠ [] ∧ ρ = tnE r T ρ0 i
  | _, _ => False
def tnμ (T : List (Int × List UInt8)) : Nat → Env → Nat
  | 0, _ => T.length + 2
  | _, ρ => T.length + 1 - (ρ.int 0).toNat
noncomputable def o_tn : Orc := { facts := [], f := 33, args := [.ptr 79 0], pre := [(79, .cells false none [.slice 82 0 (.rlen 22) (.rest 2), .int .i64 (.var 1)] 77), (82, .cells false (some (.v 22, 2)) [] 79)], next := 83, v := .str [.var 75], post := [], next' := 85 }
theorem tn_ok {T : List (Int × List UInt8)} {ρ : Env} (hT : T ≠ []) (hl : T.length ≤ 60) (hk : ∀ p ∈ T, p.1 ≠ 3) (hs : (ntx T).length ≤ 4000) (h22 : ρ.rows 22 = T.map nrow) (h75 : ρ.str 75 = ntx T) (h76 : ρ.str 76 = (ng T 0).2) (h77 : ρ.int 77 = (ng T 0).1) : OrcOK Tryz.prog ρ o_tn := by
  have gk := ng_k hk
  have gl : ∀ i, (ng T i).2.length ≤ 4000 := fun i => Nat.le_trans (ng_le T i) hs
  have gt : ∀ i, (ntx (T.take i)).length ≤ 4000 := fun i => Nat.le_trans (ntx_le T i) hs
  have T1 : 1 ≤ T.length := List.length_pos_iff.2 hT
  have rk := nrow_ok T
  refine orc_of_graph (G := tnG) (C := tnC) (I := tnI 22 T ρ) (μ := tnμ T) (l0 := [(79, .cells false none [.slice 82 0 (.rlen 22) (.rest 2), .int .i64 (.var 1)] 77), (82, .rowv false 22 2 (.lit 0) [.str [.var 76], .int .i64 (.var 77)] 79)]) (fun _ _ _ => ctx18 orcs_nil pors_nil) ?_ ?_ ?_ rfl tnst rfl rfl rfl rfl (by decide) (by kernel_rfl) ?_
  · intro k ρ' hi
    match k, hi with
    | 0, hi =>
      replace hi : ρ' = ρ := hi
      subst hi
      rw [tnf0]
      have e1 := gk 0
      have e2 := gl 0
      intro p hp
      simp only [List.mem_cons, List.not_mem_nil, or_false] at hp
      rcases hp with rfl | rfl | rfl | rfl <;> simp [SB.den, SI.den, intCmp, ltInt_iff, eqInt_iff, h22, h76, h77] <;> omega
    | 1, hi =>
      obtain ⟨i, h1, h2, h3, rfl⟩ := hi
      rw [tnf1]
      have e1 := gk i
      have e2 := gl i
      have e3 := gt i
      intro p hp
      simp only [List.mem_cons, List.not_mem_nil, or_false] at hp
      rcases hp with rfl | rfl | rfl | rfl | rfl | rfl <;> simp [SB.den, SI.den, intCmp, ltInt_iff, eqInt_iff, tnE, setI_int, setR_int, setR_rows, setR_str, setS_int, setS_str] <;> omega
    | 2, hi =>
      obtain ⟨i, h1, h2, h3, rfl⟩ := hi
      rw [tnf2]
      have e1 := gk i
      have e2 := gl i
      have e3 := gt i
      have e4 := List.length_pos_iff.2 h3
      intro p hp
      simp only [List.mem_cons, List.not_mem_nil, or_false] at hp
      rcases hp with rfl | rfl | rfl | rfl | rfl | rfl | rfl | rfl <;> simp [SB.den, SI.den, intCmp, ltInt_iff, eqInt_iff, tnE, setI_int, setR_int, setR_rows, setR_str, setS_int, setS_str] <;> omega
  · intro k ρ' hi
    match k, hi with
    | 0, _ => exact tnat0
    | 1, _ => exact tnat1
    | 2, _ => exact tnat2
  · intro k ρ' hi
    match k, hi with
    | 0, hi =>
      replace hi : ρ' = ρ := hi
      subst hi
      show OTok _ _ _ 0 ρ' tno0
      simp only [tno0, OTok]
      have hx := ntx_take (T := T) (i := 0) (by omega)
      simp only [List.take_zero, show ntx [] = [] from rfl, List.nil_append, Nat.zero_add] at hx
      refine ⟨fun g => ?_, fun g => ?_⟩
      · have g0 : (ng T 0).2 = [] := by simpa [SB.den, SI.den, intCmp, eqInt_iff, h76] using g
        refine ⟨tnE 22 T ρ' 1, ?_, ⟨1, by omega, by omega, by rw [hx, g0], rfl⟩, by simp [tnμ, tnE, setS_int, setR_int, setI_int]⟩
        simp [Eqns, Eqn.ok, tnE, SI.den, SS.den, SP.den, setI_int, setI_rows, setR_int, setR_rows, setR_str, setS_int, setS_rows, setS_str, preCells, RX.flat, RX.ok, AV.val, h22]
        repeat' apply And.intro
        all_goals first | omega | exact npk | (simpa using rk)
      · have g0 : (ng T 0).2 ≠ [] := by simpa [SB.den, SI.den, intCmp, eqInt_iff, h76] using g
        refine ⟨tnE 22 T ρ' 1, ?_, ⟨1, by omega, by omega, by rw [hx]; exact g0, rfl⟩, by simp [tnμ, tnE, setS_int, setR_int, setI_int]⟩
        simp [Eqns, Eqn.ok, tnE, SI.den, SS.den, SP.den, setI_int, setI_rows, setR_int, setR_rows, setR_str, setS_int, setS_rows, setS_str, preCells, RX.flat, RX.ok, AV.val, h22, hx, h76]
        repeat' apply And.intro
        all_goals first | omega | exact npk | (simpa using rk)
    | 1, hi =>
      obtain ⟨i, h1, h2, h3, rfl⟩ := hi
      show OTok _ _ _ 1 _ tno1
      simp only [tno1, OTok]
      refine ⟨fun h => ⟨fun g => ?_, fun g => ?_⟩, fun h => ?_⟩
      ·
        have hlt : i < T.length := by
          simp [SB.den, SI.den, intCmp, ltInt_iff, tnE, setS_int, setR_int, setI_int, setR_rows] at h
          omega
        have hx := ntx_take hlt
        have g0 : (ng T i).2 = [] := by simpa [SB.den, SI.den, intCmp, eqInt_iff, tnE, setS_str, setR_str, setI_str] using g
        refine ⟨tnE 22 T ρ (i + 1), ?_, ⟨i + 1, by omega, by omega, by rw [hx, h3, g0]; rfl, rfl⟩, by simp [tnμ, tnE, setS_int, setR_int, setI_int]; omega⟩
        simp [Eqns, Eqn.ok, tnE, SI.den, SS.den, SP.den, setI_int, setI_rows, setR_int, setR_rows, setR_str, setS_int, setS_rows, setS_str, preCells, RX.flat, RX.ok, AV.val, hx, h3, g0]
        repeat' apply And.intro
        all_goals first | omega | exact npk | (simpa using rk)
      ·
        have hlt : i < T.length := by
          simp [SB.den, SI.den, intCmp, ltInt_iff, tnE, setS_int, setR_int, setI_int, setR_rows] at h
          omega
        have hx := ntx_take hlt
        have g0 : (ng T i).2 ≠ [] := by simpa [SB.den, SI.den, intCmp, eqInt_iff, tnE, setS_str, setR_str, setI_str] using g
        refine ⟨tnE 22 T ρ (i + 1), ?_, ⟨i + 1, by omega, by omega, by rw [hx, h3]; simpa using g0, rfl⟩, by simp [tnμ, tnE, setS_int, setR_int, setI_int]; omega⟩
        simp [Eqns, Eqn.ok, tnE, SI.den, SS.den, SP.den, setI_int, setI_rows, setR_int, setR_rows, setR_str, setS_int, setS_rows, setS_str, preCells, RX.flat, RX.ok, AV.val, hx, h3]
        repeat' apply And.intro
        all_goals first | omega | exact npk | (simpa using rk)
      ·
        have hlt : T.length ≤ i := by
          simp [SB.den, SI.den, intCmp, ltInt_iff, tnE, setS_int, setR_int, setI_int, setR_rows] at h
          omega
        rw [List.take_of_length_le hlt] at h3
        refine ⟨ρ, ?_, rfl⟩
        simp [Eqns, Eqn.ok, tnE, SS.den, SP.den, preCells, RX.ok, h75, List.take_of_length_le hlt, h3]
    | 2, hi =>
      obtain ⟨i, h1, h2, h3, rfl⟩ := hi
      show OTok _ _ _ 2 _ tno2
      simp only [tno2, OTok]
      refine ⟨fun h => ?_, fun h => ?_⟩
      ·
        have hlt : i < T.length := by
          simp [SB.den, SI.den, intCmp, ltInt_iff, tnE, setS_int, setR_int, setI_int, setR_rows] at h
          omega
        have hx := ntx_take hlt
        refine ⟨tnE 22 T ρ (i + 1), ?_, ⟨i + 1, by omega, by omega, by rw [hx]; simp [h3], rfl⟩, by simp [tnμ, tnE, setS_int, setR_int, setI_int]; omega⟩
        simp [Eqns, Eqn.ok, tnE, SI.den, SS.den, SP.den, setI_int, setI_rows, setR_int, setR_rows, setR_str, setS_int, setS_rows, setS_str, preCells, RX.flat, RX.ok, AV.val, hx]
        repeat' apply And.intro
        all_goals first | omega | exact npk | (simpa using rk)
      ·
        have hlt : T.length ≤ i := by
          simp [SB.den, SI.den, intCmp, ltInt_iff, tnE, setS_int, setR_int, setI_int, setR_rows] at h
          omega
        rw [List.take_of_length_le hlt] at h3
        refine ⟨ρ, ?_, rfl⟩
        simp [Eqns, Eqn.ok, tnE, SS.den, SP.den, setR_str, setS_str, preCells, RX.ok, h75, List.take_of_length_le hlt]
  · refine ⟨rfl, .inl rfl, rfl, .inr ⟨_, _, _, _, _, _, rfl, rfl, rfl, by simp [SI.den], ?_⟩, trivial⟩
    intro xs hx
    simp only [SI.den, h22] at hx
    rw [npk1 xs hx]
    simp [AV.val, SS.den, SP.den, SI.den, h76, h77, vstr]
end Go.Sx
namespace Go.Sx
open Go.Proofs
set_option maxRecDepth 1000000

noncomputable def tmC : Ctx := ctxOf Tryz.prog lies18 exts18 [] []
noncomputable def tmtg : List AM := [st tmC 33 [.ptr 79 0] (hpOf [(79, .cells false none [.slice 86 0 (.add (.lit 1) (.rlen 22)) (.rest 2), .int .i64 (.var 1)] 77), (86, .cells false (some ((.cs [.str [], .int .i64 (.lit 4)] (.v 22)), 2)) [] 79)] 87) [(.cmp .geq (.rlen 22) (.lit 1), true), (.cmp .leq (.rlen 22) (.lit 60), true)],
    nd tmC 33 0 [(3, .ptr 87 0), (9, .slice 86 0 (.rlen 23) (.rest 2)), (10, .int .i64 (.rlen 23)), (11, .int .i64 (.var 0))]
      [(86, .rowv false 23 2 (.var 0) [.str [.var 30], .int .i64 (.var 31)] 79), (87, .cells false none [.ptr 87 0, .nilSlice] 70)] 88
      [(.cmp .geq (.var 0) (.lit 1), true), (.cmp .leq (.var 0) (.rlen 23), true), (.cmp .leq (.slen 30) (.lit 4000), true), (.cmp .eql (.var 31) (.lit 3), false), (.cmp .leq (.rlen 23) (.lit 61), true)],
    nd tmC 33 0 [(3, .ptr 87 0), (9, .slice 86 0 (.rlen 23) (.rest 2)), (10, .int .i64 (.rlen 23)), (11, .int .i64 (.var 0))]
      [(86, .rowv false 23 2 (.var 0) [.str [.var 30], .int .i64 (.var 31)] 79), (87, .cells false none [.ptr 87 0, .slice 88 0 (.slen 32) (.rest 1)] 70), (88, .bytes [.var 32] 5 false)] 89
      [(.cmp .geq (.var 0) (.lit 1), true), (.cmp .leq (.var 0) (.rlen 23), true), (.cmp .leq (.slen 30) (.lit 4000), true), (.cmp .eql (.var 31) (.lit 3), false), (.cmp .leq (.rlen 23) (.lit 61), true), (.cmp .geq (.slen 32) (.lit 1), true), (.cmp .leq (.slen 32) (.lit 4000), true)]]
noncomputable def tmo0 : OT := (.to 1 ⟨87, 88, [(87, 87)]⟩ [.int (.var 0) (.lit 1), .int (.rlen 23) (.add (.lit 1) (.rlen 22)), .int (.rlen 23) (.add (.lit 1) (.rlen 22)), .row 23 2 (some ((.cs [.str [], .int .i64 (.lit 4)] (.v 22)), 2)) [], .peek 23 (.var 0) [.str [.var 30], .int .i64 (.var 31)]])
noncomputable def tmo1 : OT := (.fork (.cmp .lss (.var 0) (.rlen 23)) (.fork (.cmp .eql (.slen 30) (.lit 0)) (.to 1 ⟨87, 88, [(87, 87)]⟩ [.int (.var 0) (.add (.var 0) (.lit 1)), .int (.rlen 23) (.rlen 23), .int (.rlen 23) (.rlen 23), .row 23 2 (some ((.v 23), 2)) [], .peek 23 (.var 0) [.str [.var 30], .int .i64 (.var 31)]]) (.to 2 ⟨87, 89, [(87, 87), (88, 89)]⟩ [.int (.var 0) (.add (.var 0) (.lit 1)), .int (.rlen 23) (.rlen 23), .int (.rlen 23) (.rlen 23), .int (.slen 32) (.slen 30), .str [.var 32] [.var 30], .row 23 2 (some ((.v 23), 2)) [], .peek 23 (.var 0) [.str [.var 30], .int .i64 (.var 31)]])) (.fin ⟨87, 89, []⟩ [.str [.var 75] []]))
noncomputable def tmo2 : OT := (.fork (.cmp .lss (.var 0) (.rlen 23)) (.to 2 ⟨87, 89, [(87, 87), (88, 90)]⟩ [.int (.var 0) (.add (.var 0) (.lit 1)), .int (.rlen 23) (.rlen 23), .int (.rlen 23) (.rlen 23), .int (.slen 32) (.add (.slen 32) (.slen 30)), .str [.var 32] [.var 32, .var 30], .row 23 2 (some ((.v 23), 2)) [], .peek 23 (.var 0) [.str [.var 30], .int .i64 (.var 31)]]) (.fin ⟨87, 89, []⟩ [.str [.var 75] [.var 32]]))
noncomputable def tmG : Graph := { tg := pick tmtg, stop := (stopAny [(33, (0, 3))]), n := (fun _ => 800), pl := fun k => ([tmo0, tmo1, tmo2].getD k .no).plan, o := fun k => [tmo0, tmo1, tmo2].getD k .no, v := .str [.var 75], h := (hpOf [] 89), f := 33, N := 87 }
theorem tmat0 : tmG.At tmC 0 := ⟨by kernel_rfl, by kernel_rfl, by kernel_rfl⟩
theorem tmat1 : tmG.At tmC 1 := ⟨by kernel_rfl, by kernel_rfl, by kernel_rfl⟩
theorem tmat2 : tmG.At tmC 2 := ⟨by kernel_rfl, by kernel_rfl, by kernel_rfl⟩
theorem tmf0 : (tmG.tg 0).facts = [(.cmp .geq (.rlen 22) (.lit 1), true), (.cmp .leq (.rlen 22) (.lit 60), true)] := by kernel_rfl
theorem tmf1 : (tmG.tg 1).facts = [(.cmp .geq (.var 0) (.lit 1), true), (.cmp .leq (.var 0) (.rlen 23), true), (.cmp .leq (.slen 30) (.lit 4000), true), (.cmp .eql (.var 31) (.lit 3), false), (.cmp .leq (.rlen 23) (.lit 61), true)] := by kernel_rfl
theorem tmf2 : (tmG.tg 2).facts = [(.cmp .geq (.var 0) (.lit 1), true), (.cmp .leq (.var 0) (.rlen 23), true), (.cmp .leq (.slen 30) (.lit 4000), true), (.cmp .eql (.var 31) (.lit 3), false), (.cmp .leq (.rlen 23) (.lit 61), true), (.cmp .geq (.slen 32) (.lit 1), true), (.cmp .leq (.slen 32) (.lit 4000), true)] := by kernel_rfl
theorem tmst : startF tmC [(.cmp .geq (.rlen 22) (.lit 1), true), (.cmp .leq (.rlen 22) (.lit 60), true)] 33 [.ptr 79 0] (hpOf [(79, .cells false none [.slice 86 0 (.add (.lit 1) (.rlen 22)) (.rest 2), .int .i64 (.var 1)] 77), (86, .cells false (some ((.cs [.str [], .int .i64 (.lit 4)] (.v 22)), 2)) [] 79)] 87) = some (tmG.tg 0) := by kernel_rfl
end Go.Sx
namespace Go.Sx
open Go.Proofs
set_option maxRecDepth 100000
noncomputable def o_tm : Orc := { facts := [], f := 33, args := [.ptr 79 0], pre := [(79, .cells false none [.slice 86 0 (.add (.lit 1) (.rlen 22)) (.rest 2), .int .i64 (.var 1)] 77), (86, .cells false (some ((.cs [.str [], .int .i64 (.lit 4)] (.v 22)), 2)) [] 79)], next := 87, v := .str [.var 75], post := [], next' := 89 }
theorem tm_ok {U : List (Int × List UInt8)} {ρ : Env} (hU : U ≠ []) (hl0 : U.length ≤ 60) (hk0 : ∀ p ∈ U, p.1 ≠ 3) (hs0 : (ntx U).length ≤ 4000) (h22 : ρ.rows 22 = U.map nrow) (h75 : ρ.str 75 = ntx U) : OrcOK Tryz.prog ρ o_tm := by
  obtain ⟨T, hTd⟩ : ∃ T, T = ((4, []) : Int × List UInt8) :: U := ⟨_, rfl⟩
  have hT : T ≠ [] := by rw [hTd]; simp
  have hl : T.length = U.length + 1 := by rw [hTd]; simp
  have hU1 := List.length_pos_iff.2 hU
  have hn : ntx T = ntx U := by rw [hTd]; simp [ntx]
  have hs : (ntx T).length ≤ 4000 := by rw [hn]; exact hs0
  have hk : ∀ p ∈ T, p.1 ≠ 3 := by
    intro p hp
    rw [hTd] at hp
    rcases List.mem_cons.1 hp with rfl | hp
    · decide
    · exact hk0 p hp
  rw [← hn] at h75
  have gk := ng_k hk
  have gl : ∀ i, (ng T i).2.length ≤ 4000 := fun i => Nat.le_trans (ng_le T i) hs
  have gt : ∀ i, (ntx (T.take i)).length ≤ 4000 := fun i => Nat.le_trans (ntx_le T i) hs
  have T1 : 1 ≤ T.length := List.length_pos_iff.2 hT
  have rk := nrow_ok T
  refine orc_of_graph (G := tmG) (C := tmC) (I := tnI 23 T ρ) (μ := tnμ T) (l0 := o_tm.pre) (fun _ _ _ => ctx18 orcs_nil pors_nil) ?_ ?_ ?_ rfl tmst rfl rfl rfl rfl (by decide) (by kernel_rfl) (RefL.refl ρ _)
  · intro k ρ' hi
    match k, hi with
    | 0, hi =>
      replace hi : ρ' = ρ := hi
      subst hi
      rw [tmf0]
      intro p hp
      simp only [List.mem_cons, List.not_mem_nil, or_false] at hp
      rcases hp with rfl | rfl <;> simp [SB.den, SI.den, intCmp, ltInt_iff, h22] <;> omega
    | 1, hi =>
      obtain ⟨i, h1, h2, h3, rfl⟩ := hi
      rw [tmf1]
      have e1 := gk i
      have e2 := gl i
      have e3 := gt i
      intro p hp
      simp only [List.mem_cons, List.not_mem_nil, or_false] at hp
      rcases hp with rfl | rfl | rfl | rfl | rfl <;> simp [SB.den, SI.den, intCmp, ltInt_iff, eqInt_iff, tnE, setI_int, setR_int, setR_rows, setR_str, setS_int, setS_str] <;> omega
    | 2, hi =>
      obtain ⟨i, h1, h2, h3, rfl⟩ := hi
      rw [tmf2]
      have e1 := gk i
      have e2 := gl i
      have e3 := gt i
      have e4 := List.length_pos_iff.2 h3
      intro p hp
      simp only [List.mem_cons, List.not_mem_nil, or_false] at hp
      rcases hp with rfl | rfl | rfl | rfl | rfl | rfl | rfl <;> simp [SB.den, SI.den, intCmp, ltInt_iff, eqInt_iff, tnE, setI_int, setR_int, setR_rows, setR_str, setS_int, setS_str] <;> omega
  · intro k ρ' hi
    match k, hi with
    | 0, _ => exact tmat0
    | 1, _ => exact tmat1
    | 2, _ => exact tmat2
  · intro k ρ' hi
    match k, hi with
    | 0, hi =>
      replace hi : ρ' = ρ := hi
      subst hi
      show OTok _ _ _ 0 ρ' tmo0
      simp only [tmo0, OTok]
      have h0 : ntx (T.take 1) = [] := by rw [hTd]; rfl
      have hr : T.map nrow = qrow 4 [] :: U.map nrow := by rw [hTd]; rfl
      refine ⟨tnE 23 T ρ' 1, ?_, ⟨1, by omega, by omega, h0, rfl⟩, by simp [tnμ, tnE, setS_int, setR_int, setI_int]⟩
      simp [Eqns, Eqn.ok, tnE, SI.den, SS.den, SP.den, setI_int, setI_rows, setR_int, setR_rows, setR_str, setS_int, setS_rows, setS_str, preCells, RX.flat, RX.ok, AV.val, h22]
      repeat' apply And.intro
      all_goals first | omega | (rw [hr]; simp [qrow, vstr]; done) | exact npk | (simpa using rk)
    | 1, hi =>
      obtain ⟨i, h1, h2, h3, rfl⟩ := hi
      show OTok _ _ _ 1 _ tmo1
      simp only [tmo1, OTok]
      refine ⟨fun h => ⟨fun g => ?_, fun g => ?_⟩, fun h => ?_⟩
      ·
        have hlt : i < T.length := by
          simp [SB.den, SI.den, intCmp, ltInt_iff, tnE, setS_int, setR_int, setI_int, setR_rows] at h
          omega
        have hx := ntx_take hlt
        have g0 : (ng T i).2 = [] := by simpa [SB.den, SI.den, intCmp, eqInt_iff, tnE, setS_str, setR_str, setI_str] using g
        refine ⟨tnE 23 T ρ (i + 1), ?_, ⟨i + 1, by omega, by omega, by rw [hx, h3, g0]; rfl, rfl⟩, by simp [tnμ, tnE, setS_int, setR_int, setI_int]; omega⟩
        simp [Eqns, Eqn.ok, tnE, SI.den, SS.den, SP.den, setI_int, setI_rows, setR_int, setR_rows, setR_str, setS_int, setS_rows, setS_str, preCells, RX.flat, RX.ok, AV.val, hx, h3, g0]
        repeat' apply And.intro
        all_goals first | omega | exact npk | (simpa using rk)
      ·
        have hlt : i < T.length := by
          simp [SB.den, SI.den, intCmp, ltInt_iff, tnE, setS_int, setR_int, setI_int, setR_rows] at h
          omega
        have hx := ntx_take hlt
        have g0 : (ng T i).2 ≠ [] := by simpa [SB.den, SI.den, intCmp, eqInt_iff, tnE, setS_str, setR_str, setI_str] using g
        refine ⟨tnE 23 T ρ (i + 1), ?_, ⟨i + 1, by omega, by omega, by rw [hx, h3]; simpa using g0, rfl⟩, by simp [tnμ, tnE, setS_int, setR_int, setI_int]; omega⟩
        simp [Eqns, Eqn.ok, tnE, SI.den, SS.den, SP.den, setI_int, setI_rows, setR_int, setR_rows, setR_str, setS_int, setS_rows, setS_str, preCells, RX.flat, RX.ok, AV.val, hx, h3]
        repeat' apply And.intro
        all_goals first | omega | exact npk | (simpa using rk)
      ·
        have hlt : T.length ≤ i := by
          simp [SB.den, SI.den, intCmp, ltInt_iff, tnE, setS_int, setR_int, setI_int, setR_rows] at h
          omega
        rw [List.take_of_length_le hlt] at h3
        refine ⟨ρ, ?_, rfl⟩
        simp [Eqns, Eqn.ok, tnE, SS.den, SP.den, preCells, RX.ok, h75, List.take_of_length_le hlt, h3]
    | 2, hi =>
      obtain ⟨i, h1, h2, h3, rfl⟩ := hi
      show OTok _ _ _ 2 _ tmo2
      simp only [tmo2, OTok]
      refine ⟨fun h => ?_, fun h => ?_⟩
      ·
        have hlt : i < T.length := by
          simp [SB.den, SI.den, intCmp, ltInt_iff, tnE, setS_int, setR_int, setI_int, setR_rows] at h
          omega
        have hx := ntx_take hlt
        refine ⟨tnE 23 T ρ (i + 1), ?_, ⟨i + 1, by omega, by omega, by rw [hx]; simp [h3], rfl⟩, by simp [tnμ, tnE, setS_int, setR_int, setI_int]; omega⟩
        simp [Eqns, Eqn.ok, tnE, SI.den, SS.den, SP.den, setI_int, setI_rows, setR_int, setR_rows, setR_str, setS_int, setS_rows, setS_str, preCells, RX.flat, RX.ok, AV.val, hx]
        repeat' apply And.intro
        all_goals first | omega | exact npk | (simpa using rk)
      ·
        have hlt : T.length ≤ i := by
          simp [SB.den, SI.den, intCmp, ltInt_iff, tnE, setS_int, setR_int, setI_int, setR_rows] at h
          omega
        rw [List.take_of_length_le hlt] at h3
        refine ⟨ρ, ?_, rfl⟩
        simp [Eqns, Eqn.ok, tnE, SS.den, SP.den, setR_str, setS_str, preCells, RX.ok, h75, List.take_of_length_le hlt]
end Go.Sx
