import Derived.Test.YtanpkoghglnphaaGreatDoorSxH
import Derived.Test.YtanpkoghglnphaaGreatDoorCtx
import Derived.Test.YtanpkoghglnphaaGreatDoorEnv
namespace Go.Sx
open Go.Proofs
set_option maxRecDepth 1000000

noncomputable def alC : Ctx := ctxOf Tryz.prog lies18 exts18 [] []
noncomputable def altg : List AM := [st alC 109 [.ptr 76 0, .ptr 88 0, .str [.lit [42]], .bool (.lit true)] (hpOf [(64, .rowv true 10 1 (.lit 0) [.str [.var 40]] 9), (71, .cells false none [.str [.lit [73, 70, 83]], .str [.var 6], .bool (.lit false), .bool (.lit false)] 61), (76, .cells false none [.slice 71 0 (.lit 1) (.rest 4), .slice 64 0 (.rlen 10) (.rest 1), .str [], .int .i64 (.lit 0), .int .i64 (.lit 0), .int .i64 (.lit 0), .str [], .nilSlice, .nilSlice, .int .i64 (.lit 0)] 64), (88, .cells false none [.nilSlice, .int .i64 (.lit 0)] 77)] 92) [(.cmp .geq (.rlen 10) (.lit 1), true), (.cmp .leq (.rlen 10) (.lit 20), true), (.cmp .leq (.slen 40) (.lit 100), true), (.cmp .leq (.slen 6) (.lit 1024), true)],
    nd alC 109 0 [(1, .ptr 88 0), (9, .str [.var 7]), (20, .slice 64 0 (.rlen 10) (.rest 1)), (40, .slice 64 0 (.rlen 10) (.rest 1)), (41, .int .i64 (.rlen 10)), (42, .int .i64 (.var 0))]
      [(64, .rowv true 10 1 (.var 0) [.str [.var 9]] 9), (71, .cells false none [.str [.lit [73, 70, 83]], .str [.var 6], .bool (.lit false), .bool (.lit false)] 61), (76, .cells false none [.slice 71 0 (.lit 1) (.rest 4), .slice 64 0 (.rlen 10) (.rest 1), .str [], .int .i64 (.lit 0), .int .i64 (.lit 0), .int .i64 (.lit 0), .str [], .nilSlice, .nilSlice, .int .i64 (.lit 0)] 64), (88, .cells false none [.slice 92 0 (.rlen 11) (.rest 2), .int .i64 (.var 1)] 77), (92, .cells false (some (.v 11, 2)) [] 79)] 93
      [(.cmp .geq (.var 0) (.lit 1), true), (.cmp .leq (.var 0) (.rlen 10), true), (.cmp .leq (.rlen 10) (.lit 20), true), (.cmp .leq (.slen 7) (.lit 1), true), (.cmp .leq (.slen 9) (.lit 100), true), (.cmp .geq (.var 1) (.lit 0), true), (.cmp .leq (.var 1) (.lit 3000), true), (.cmp .leq (.rlen 11) (.lit 1000), true), (.cmp .geq (.rlen 11) (.lit 1), true)]]
noncomputable def alo0 : OT := (.fork (.cmp .lss (.slen 6) (.lit 1)) (.to 1 ⟨92, 93, [(92, 97)]⟩ [.str [.var 7] [.var 6], .int (.rlen 10) (.rlen 10), .int (.rlen 10) (.rlen 10), .int (.rlen 10) (.rlen 10), .int (.var 0) (.lit 1), .str [.var 6] [.var 6], .row 10 1 (some ((.v 10), 1)) [], .peek 10 (.var 0) [.str [.var 9]], .int (.rlen 11) (.lit 1), .int (.var 1) (.slen 40), .int (.rlen 10) (.rlen 10), .row 11 2 none [.str [.var 40], .int .i64 (.lit 1)]]) (.to 1 ⟨92, 93, [(92, 97)]⟩ [.str [.var 7] [.chr (.sbyte 6 (.lit 0))], .int (.rlen 10) (.rlen 10), .int (.rlen 10) (.rlen 10), .int (.rlen 10) (.rlen 10), .int (.var 0) (.lit 1), .str [.var 6] [.var 6], .row 10 1 (some ((.v 10), 1)) [], .peek 10 (.var 0) [.str [.var 9]], .int (.rlen 11) (.lit 1), .int (.var 1) (.slen 40), .int (.rlen 10) (.rlen 10), .row 11 2 none [.str [.var 40], .int .i64 (.lit 1)]]))
noncomputable def alo1 : OT := (.fork (.cmp .lss (.var 0) (.rlen 10)) (.to 1 ⟨92, 93, [(92, 96)]⟩ [.str [.var 7] [.var 7], .int (.rlen 10) (.rlen 10), .int (.rlen 10) (.rlen 10), .int (.rlen 10) (.rlen 10), .int (.var 0) (.add (.var 0) (.lit 1)), .str [.var 6] [.var 6], .row 10 1 (some ((.v 10), 1)) [], .peek 10 (.var 0) [.str [.var 9]], .int (.rlen 11) (.add (.add (.rlen 11) (.lit 1)) (.lit 1)), .int (.var 1) (.add (.add (.var 1) (.slen 7)) (.slen 9)), .int (.rlen 10) (.rlen 10), .row 11 2 (some ((.v 11), 2)) [.str [.var 7], .int .i64 (.lit 1), .str [.var 9], .int .i64 (.lit 1)]]) (.fin ⟨92, 93, [(92, 92)]⟩ [.str [.var 6] [.var 6], .int (.rlen 21) (.rlen 11), .int (.var 21) (.var 1), .int (.rlen 10) (.rlen 10), .row 21 2 (some ((.v 11), 2)) []]))
noncomputable def alG : Graph := { tg := pick altg, stop := stopAny [(109, (0, 4))], n := fun _ => 800, pl := fun k => ([alo0, alo1].getD k .no).plan, o := fun k => [alo0, alo1].getD k .no, v := .tup [], h := (hpOf [(71, .cells false none [.str [.lit [73, 70, 83]], .str [.var 6], .bool (.lit false), .bool (.lit false)] 61), (76, .cells false none [.slice 71 0 (.lit 1) (.rest 4), .slice 64 0 (.rlen 10) (.rest 1), .str [], .int .i64 (.lit 0), .int .i64 (.lit 0), .int .i64 (.lit 0), .str [], .nilSlice, .nilSlice, .int .i64 (.lit 0)] 64), (88, .cells false none [.slice 92 0 (.rlen 21) (.rest 2), .int .i64 (.var 21)] 77), (92, .cells false (some (.v 21, 2)) [] 79)] 93), f := 109, N := 92 }
theorem alat0 : alG.At alC 0 := ⟨by kernel_rfl, by kernel_rfl, by kernel_rfl⟩
theorem alat1 : alG.At alC 1 := ⟨by kernel_rfl, by kernel_rfl, by kernel_rfl⟩
theorem alf0 : (alG.tg 0).facts = [(.cmp .geq (.rlen 10) (.lit 1), true), (.cmp .leq (.rlen 10) (.lit 20), true), (.cmp .leq (.slen 40) (.lit 100), true), (.cmp .leq (.slen 6) (.lit 1024), true)] := by kernel_rfl
theorem alf1 : (alG.tg 1).facts = [(.cmp .geq (.var 0) (.lit 1), true), (.cmp .leq (.var 0) (.rlen 10), true), (.cmp .leq (.rlen 10) (.lit 20), true), (.cmp .leq (.slen 7) (.lit 1), true), (.cmp .leq (.slen 9) (.lit 100), true), (.cmp .geq (.var 1) (.lit 0), true), (.cmp .leq (.var 1) (.lit 3000), true), (.cmp .leq (.rlen 11) (.lit 1000), true), (.cmp .geq (.rlen 11) (.lit 1), true)] := by kernel_rfl
theorem alst : startF alC [(.cmp .geq (.rlen 10) (.lit 1), true), (.cmp .leq (.rlen 10) (.lit 20), true), (.cmp .leq (.slen 40) (.lit 100), true), (.cmp .leq (.slen 6) (.lit 1024), true)] 109 [.ptr 76 0, .ptr 88 0, .str [.lit [42]], .bool (.lit true)] (hpOf [(64, .rowv true 10 1 (.lit 0) [.str [.var 40]] 9), (71, .cells false none [.str [.lit [73, 70, 83]], .str [.var 6], .bool (.lit false), .bool (.lit false)] 61), (76, .cells false none [.slice 71 0 (.lit 1) (.rest 4), .slice 64 0 (.rlen 10) (.rest 1), .str [], .int .i64 (.lit 0), .int .i64 (.lit 0), .int .i64 (.lit 0), .str [], .nilSlice, .nilSlice, .int .i64 (.lit 0)] 64), (88, .cells false none [.nilSlice, .int .i64 (.lit 0)] 77)] 92) = some (alG.tg 0) := by kernel_rfl
end Go.Sx
namespace Go.Sx
open Go.Proofs
set_option maxRecDepth 100000
def starR (by' : List UInt8) : List (List UInt8) → List (List Value)
  | [] => []
  | a :: l => qrow 1 a :: l.flatMap fun b => [qrow 1 by', qrow 1 b]
def starN (by' : List UInt8) : List (List UInt8) → Int
  | [] => 0
  | a :: l => l.foldl (fun n b => n + by'.length + b.length) a.length
theorem starR_snoc (by' : List UInt8) {l : List (List UInt8)} (h : l ≠ []) (b : List UInt8) : starR by' (l ++ [b]) = starR by' l ++ [qrow 1 by', qrow 1 b] := by
  cases l with
  | nil => exact absurd rfl h
  | cons a l => simp [starR]
theorem starN_snoc (by' : List UInt8) {l : List (List UInt8)} (h : l ≠ []) (b : List UInt8) : starN by' (l ++ [b]) = starN by' l + by'.length + b.length := by
  cases l with
  | nil => exact absurd rfl h
  | cons a l => simp [starN]
theorem starR_len (by' : List UInt8) : ∀ l : List (List UInt8), (starR by' l).length ≤ 2 * l.length ∧ (l ≠ [] → 1 ≤ (starR by' l).length)
  | [] => by simp [starR]
  | a :: l => by
    have : (l.flatMap fun b => [qrow 1 by', qrow 1 b]).length = 2 * l.length := by
      induction l with
      | nil => rfl
      | cons b l ih => simp only [List.flatMap_cons, List.length_append, ih, List.length_cons]; simp; omega
    simp only [starR, List.length_cons, this]; omega
theorem starN_le (by' : List UInt8) (hby : by'.length ≤ 1) : ∀ l : List (List UInt8), (∀ a ∈ l, a.length ≤ 100) → 0 ≤ starN by' l ∧ starN by' l ≤ 101 * l.length := by
  intro l
  rw [← List.reverse_reverse l]
  induction l.reverse with
  | nil => intro _; simp [starN]
  | cons b m ih =>
    intro h
    rw [List.reverse_cons] at h ⊢
    have ih := ih (fun a ha => h a (List.mem_append_left _ ha))
    have hb := h b (by simp)
    by_cases hm : m.reverse = []
    · rw [hm]; simp [starN]; omega
    · rw [starN_snoc by' hm]
      simp only [List.length_append, List.length_cons, List.length_nil] at ih ⊢
      omega
theorem starR_ok (by' : List UInt8) (l : List (List UInt8)) : ∀ q ∈ starR by' l, q.length = 2 ∧ ∀ v ∈ q, v.oneCell' = true := by
  have hq : ∀ s, (qrow 1 s).length = 2 ∧ ∀ v ∈ qrow 1 s, v.oneCell' = true := fun s => ⟨rfl, fun v hv => by simp [qrow] at hv; rcases hv with rfl | rfl <;> rfl⟩
  intro q h
  cases l with
  | nil => cases h
  | cons a l =>
    rcases List.mem_cons.1 h with rfl | h
    · exact hq a
    · obtain ⟨b, _, hb⟩ := List.mem_flatMap.1 h
      simp only [List.mem_cons, List.not_mem_nil, or_false] at hb
      rcases hb with rfl | rfl
      · exact hq _
      · exact hq b
/-- what the letters of the law stand for -/
structure LC (A : List (List UInt8)) (ifs by' : List UInt8) (ρ : Env) : Prop where
  ne : A ≠ []
  len : A.length ≤ 20
  each : ∀ a ∈ A, a.length ≤ 100
  by1 : by'.length ≤ 1
  rows : ρ.rows 10 = rows1 A
  first : ρ.str 40 = A.getD 0 []
  star : ρ.rows 21 = starR by' A
  starn : ρ.int 21 = starN by' A
theorem each_getD {A : List (List UInt8)} (h : ∀ a ∈ A, a.length ≤ 100) (i : Nat) : (A.getD i []).length ≤ 100 := by
  simp only [List.getD]
  cases ha : A[i]? with
  | none => simp
  | some a => simpa using h a (List.mem_of_getElem? ha)
def aE (A : List (List UInt8)) (by' : List UInt8) (ρ : Env) (i : Nat) : Env :=
  ((((ρ.setI 0 i).setI 1 (starN by' (A.take i))).setR 11 (starR by' (A.take i))).setS 7 by').setS 9 (A.getD i [])
def aI (A : List (List UInt8)) (by' : List UInt8) (ρ0 : Env) : Nat → Env → Prop
  | 0, ρ => ρ = ρ0
  | 1, ρ => ∃ i : Nat, 1 ≤ i ∧ i ≤ A.length ∧ ρ = aE A by' ρ0 i
  | _, _ => False
def aμ (A : List (List UInt8)) : Nat → Env → Nat
  | 0, _ => A.length + 2
  | _, ρ => A.length + 1 - (ρ.int 0).toNat
theorem take_ne {α : Type} {A : List α} {i : Nat} (hA : A ≠ []) (h : 1 ≤ i) : A.take i ≠ [] := by
  intro c
  rw [List.take_eq_nil_iff] at c
  rcases c with c | c
  · omega
  · exact hA c
theorem take_getD {A : List (List UInt8)} {i : Nat} (h : i < A.length) : A.take (i + 1) = A.take i ++ [A.getD i []] := by
  rw [List.take_succ_eq_append_getElem h]
  simp [List.getD, List.getElem?_eq_getElem h]
noncomputable def o_al : Orc := { facts := [], f := 109, args := [.ptr 76 0, .ptr 88 0, .str [.lit [42]], .bool (.lit true)], pre := [(64, .cells true (some (.v 10, 1)) [] 9), (71, .cells false none [.str [.lit [73, 70, 83]], .str [.var 6], .bool (.lit false), .bool (.lit false)] 61), (76, .cells false none [.slice 71 0 (.lit 1) (.rest 4), .slice 64 0 (.rlen 10) (.rest 1), .str [], .int .i64 (.lit 0), .int .i64 (.lit 0), .int .i64 (.lit 0), .str [], .nilSlice, .nilSlice, .int .i64 (.lit 0)] 64), (88, .cells false none [.nilSlice, .int .i64 (.lit 0)] 77)], next := 92, v := .tup [], post := [(71, .cells false none [.str [.lit [73, 70, 83]], .str [.var 6], .bool (.lit false), .bool (.lit false)] 61), (76, .cells false none [.slice 71 0 (.lit 1) (.rest 4), .slice 64 0 (.rlen 10) (.rest 1), .str [], .int .i64 (.lit 0), .int .i64 (.lit 0), .int .i64 (.lit 0), .str [], .nilSlice, .nilSlice, .int .i64 (.lit 0)] 64), (88, .cells false none [.slice 92 0 (.rlen 21) (.rest 2), .int .i64 (.var 21)] 77), (92, .cells false (some (.v 21, 2)) [] 79)], next' := 93 }
theorem alC_ok {ρ : Env} : CtxOK alC Tryz.prog ρ := ctx18 orcs_nil pors_nil
theorem al_ok {A : List (List UInt8)} {ifs by' : List UInt8} {ρ : Env} (L : LC A ifs by' ρ) (hifs : ρ.str 6 = ifs) (hil : ifs.length ≤ 1024) (hby : by' = ifs.take 1) : OrcOK Tryz.prog ρ o_al := by
  have hA0 : 1 ≤ A.length := by
    cases h : A with
    | nil => exact absurd h L.ne
    | cons a l => simp
  refine orc_of_graph (G := alG) (C := alC) (I := aI A by' ρ) (μ := aμ A) (l0 := [(64, .rowv true 10 1 (.lit 0) [.str [.var 40]] 9), (71, .cells false none [.str [.lit [73, 70, 83]], .str [.var 6], .bool (.lit false), .bool (.lit false)] 61), (76, .cells false none [.slice 71 0 (.lit 1) (.rest 4), .slice 64 0 (.rlen 10) (.rest 1), .str [], .int .i64 (.lit 0), .int .i64 (.lit 0), .int .i64 (.lit 0), .str [], .nilSlice, .nilSlice, .int .i64 (.lit 0)] 64), (88, .cells false none [.nilSlice, .int .i64 (.lit 0)] 77)])
    (fun _ _ _ => alC_ok) ?_ ?_ ?_ rfl alst rfl rfl rfl rfl (by decide) (by kernel_rfl) ?_
  · intro k ρ' hi
    match k, hi with
    | 0, hi =>
      subst hi
      rw [alf0]
      have := each_getD L.each 0
      intro p hp
      simp only [List.mem_cons, List.not_mem_nil, or_false] at hp
      rcases hp with rfl | rfl | rfl | rfl <;> simp [SB.den, SI.den, intCmp, ltInt_iff, L.rows, L.first, hifs, rows1] <;> (try simp [List.getD] at this) <;> (have := L.len; omega)
    | 1, hi =>
      obtain ⟨i, h1, h2, rfl⟩ := hi
      rw [alf1]
      have e1 := each_getD L.each i
      have e2 := starR_len by' (A.take i)
      have e3 := starN_le by' L.by1 (A.take i) (fun a ha => L.each a (List.mem_of_mem_take ha))
      have e4 := e2.2 (take_ne L.ne h1)
      have e5 := L.len
      have e6 := L.by1
      have e7 : (A.take i).length = i := by rw [List.length_take]; omega
      rw [e7] at e2 e3
      intro p hp
      simp only [List.mem_cons, List.not_mem_nil, or_false] at hp
      rcases hp with rfl | rfl | rfl | rfl | rfl | rfl | rfl | rfl | rfl <;> simp only [SB.den, SI.den, intCmp, ltInt_iff, aE, setI_int, setI_rows, setI_str, setR_int, setR_rows, setR_str, setS_int, setS_rows, setS_str, L.rows, rows1, List.length_map, Option.getD_some, Bool.not_eq_true', decide_eq_false_iff_not] <;> simp <;> (try simp [List.getD] at e1) <;> omega
  · intro k ρ' hi
    match k, hi with
    | 0, _ => exact alat0
    | 1, _ => exact alat1
  · intro k ρ' hi
    match k, hi with
    | 0, hi =>
      subst hi
      show OTok _ _ _ 0 ρ' alo0
      simp only [alo0, OTok]
      have ht : A.take 1 = [A.getD 0 []] := by
        cases h : A with
        | nil => exact absurd h L.ne
        | cons a l => rfl
      refine ⟨fun h => ⟨aE A by' ρ' 1, ?_, ⟨1, by omega, hA0, rfl⟩, by simp [aμ, aE, setS_int, setR_int, setI_int]⟩, fun h => ⟨aE A by' ρ' 1, ?_, ⟨1, by omega, hA0, rfl⟩, by simp [aμ, aE, setS_int, setR_int, setI_int]⟩⟩
      · simp only [SB.den, SI.den, intCmp, ltInt_iff, Option.getD_some, decide_eq_true_eq, hifs] at h
        have hq : ifs = [] := List.eq_nil_of_length_eq_zero (by omega)
        have hb : by' = [] := by rw [hby, hq]; rfl
        rw [hq] at hifs
        simp [Eqns, Eqn.ok, aE, SI.den, SS.den, SP.den, setI_int, setI_rows, setI_str, setR_int, setR_rows, setR_str, setS_int, setS_rows, setS_str, preCells, RX.flat, RX.ok, AV.val, L.rows, L.first, ht, starR, starN, qrow, vstr, hb, hifs]
        repeat' apply And.intro
        all_goals first | exact rows1_ok A | rfl | (intro xs hx; simpa [vstr, List.getD] using rows1_get hx)
      · simp only [SB.den, SI.den, intCmp, ltInt_iff, Option.getD_some, decide_eq_false_iff_not, hifs] at h
        have hb : ∃ c l, ifs = c :: l := by
          cases hq : ifs with
          | nil => simp [hq] at h
          | cons c l => exact ⟨c, l, rfl⟩
        obtain ⟨c, l, hq⟩ := hb
        have hb : by' = [c] := by rw [hby, hq]; rfl
        rw [hq] at hifs
        simp [Eqns, Eqn.ok, aE, SI.den, SS.den, SP.den, setI_int, setI_rows, setI_str, setR_int, setR_rows, setR_str, setS_int, setS_rows, setS_str, preCells, RX.flat, RX.ok, AV.val, L.rows, L.first, ht, starR, starN, qrow, vstr, hb, hifs]
        repeat' apply And.intro
        all_goals first | exact rows1_ok A | rfl | (intro xs hx; simpa [vstr, List.getD] using rows1_get hx)
    | 1, hi =>
      obtain ⟨i, h1, h2, rfl⟩ := hi
      show OTok _ _ _ 1 _ alo1
      simp only [alo1, OTok]
      refine ⟨fun h => ?_, fun h => ?_⟩
      · 
        have hlt : i < A.length := by
          simp [SB.den, SI.den, intCmp, ltInt_iff, aE, setS_int, setR_int, setI_int, setS_rows, setR_rows, setI_rows, L.rows, rows1] at h
          omega
        have hne := take_ne L.ne h1
        have ht := take_getD hlt
        refine ⟨aE A by' ρ (i + 1), ?_, ⟨i + 1, by omega, by omega, rfl⟩, by simp [aμ, aE, setS_int, setR_int, setI_int]; omega⟩
        simp [Eqns, Eqn.ok, aE, SI.den, SS.den, SP.den, setI_int, setI_rows, setI_str, setR_int, setR_rows, setR_str, setS_int, setS_rows, setS_str, preCells, RX.flat, RX.ok, AV.val, L.rows, L.first, L.star, L.starn, ht, starR_snoc _ hne, starN_snoc _ hne]
        have hst := starR_ok by' (A.take (i + 1))
        rw [ht, starR_snoc _ hne] at hst
        repeat' apply And.intro
        all_goals first | exact rows1_ok A | rfl | omega | (intro xs hx; simpa [vstr, List.getD] using rows1_get hx) | simpa using hst
      · 
        have hlt : i = A.length := by
          simp [SB.den, SI.den, intCmp, ltInt_iff, aE, setS_int, setR_int, setI_int, setS_rows, setR_rows, setI_rows, L.rows, rows1] at h
          omega
        refine ⟨ρ, ?_, rfl⟩
        subst hlt
        simp [Eqns, Eqn.ok, aE, SI.den, SS.den, SP.den, setI_int, setI_rows, setI_str, setR_int, setR_rows, setR_str, setS_int, setS_rows, setS_str, preCells, RX.flat, RX.ok, AV.val, L.rows, L.first, L.star, L.starn]
        exact starR_ok by' A
  · 
    refine ⟨rfl, .inr ⟨_, _, _, _, _, _, rfl, rfl, rfl, by simp [SI.den], ?_⟩, RefL.refl ρ _⟩
    intro xs hx
    simp only [SI.den, L.rows] at hx
    rw [rows1_get hx]
    simp [AV.val, SS.den, SP.den, L.first, vstr]
end Go.Sx
namespace Go.Sx
open Go.Proofs
set_option maxRecDepth 1000000

noncomputable def anC : Ctx := ctxOf Tryz.prog lies18 exts18 [] []
noncomputable def antg : List AM := [st anC 109 [.ptr 107 0, .ptr 120 0, .str [.lit [42]], .bool (.lit true)] (hpOf [(64, .rowv true 10 1 (.lit 0) [.str [.var 40]] 9), (71, .cells false none [.str [.lit [73, 70, 83]], .str [.var 6], .bool (.lit false), .bool (.lit false)] 61), (107, .cells false none [.slice 71 0 (.lit 1) (.rest 4), .slice 64 0 (.rlen 10) (.rest 1), .str [], .int .i64 (.lit 0), .int .i64 (.lit 0), .int .i64 (.lit 0), .str [], .nilSlice, .nilSlice, .int .i64 (.lit 0)] 64), (120, .cells false none [.nilSlice, .int .i64 (.lit 0)] 77)] 124) [(.cmp .geq (.rlen 10) (.lit 1), true), (.cmp .leq (.rlen 10) (.lit 20), true), (.cmp .leq (.slen 40) (.lit 100), true), (.cmp .leq (.slen 6) (.lit 1024), true)],
    nd anC 109 0 [(1, .ptr 120 0), (9, .str [.var 7]), (20, .slice 64 0 (.rlen 10) (.rest 1)), (40, .slice 64 0 (.rlen 10) (.rest 1)), (41, .int .i64 (.rlen 10)), (42, .int .i64 (.var 0))]
      [(64, .rowv true 10 1 (.var 0) [.str [.var 9]] 9), (71, .cells false none [.str [.lit [73, 70, 83]], .str [.var 6], .bool (.lit false), .bool (.lit false)] 61), (107, .cells false none [.slice 71 0 (.lit 1) (.rest 4), .slice 64 0 (.rlen 10) (.rest 1), .str [], .int .i64 (.lit 0), .int .i64 (.lit 0), .int .i64 (.lit 0), .str [], .nilSlice, .nilSlice, .int .i64 (.lit 0)] 64), (120, .cells false none [.slice 124 0 (.rlen 11) (.rest 2), .int .i64 (.var 1)] 77), (124, .cells false (some (.v 11, 2)) [] 79)] 125
      [(.cmp .geq (.var 0) (.lit 1), true), (.cmp .leq (.var 0) (.rlen 10), true), (.cmp .leq (.rlen 10) (.lit 20), true), (.cmp .leq (.slen 7) (.lit 1), true), (.cmp .leq (.slen 9) (.lit 100), true), (.cmp .geq (.var 1) (.lit 0), true), (.cmp .leq (.var 1) (.lit 3000), true), (.cmp .leq (.rlen 11) (.lit 1000), true), (.cmp .geq (.rlen 11) (.lit 1), true)]]
noncomputable def ano0 : OT := (.fork (.cmp .lss (.slen 6) (.lit 1)) (.to 1 ⟨124, 125, [(124, 129)]⟩ [.str [.var 7] [.var 6], .int (.rlen 10) (.rlen 10), .int (.rlen 10) (.rlen 10), .int (.rlen 10) (.rlen 10), .int (.var 0) (.lit 1), .str [.var 6] [.var 6], .int (.rlen 10) (.rlen 10), .row 10 1 (some ((.v 10), 1)) [], .peek 10 (.var 0) [.str [.var 9]], .int (.rlen 11) (.lit 1), .int (.var 1) (.slen 40), .row 11 2 none [.str [.var 40], .int .i64 (.lit 1)]]) (.to 1 ⟨124, 125, [(124, 129)]⟩ [.str [.var 7] [.chr (.sbyte 6 (.lit 0))], .int (.rlen 10) (.rlen 10), .int (.rlen 10) (.rlen 10), .int (.rlen 10) (.rlen 10), .int (.var 0) (.lit 1), .str [.var 6] [.var 6], .int (.rlen 10) (.rlen 10), .row 10 1 (some ((.v 10), 1)) [], .peek 10 (.var 0) [.str [.var 9]], .int (.rlen 11) (.lit 1), .int (.var 1) (.slen 40), .row 11 2 none [.str [.var 40], .int .i64 (.lit 1)]]))
noncomputable def ano1 : OT := (.fork (.cmp .lss (.var 0) (.rlen 10)) (.to 1 ⟨124, 125, [(124, 128)]⟩ [.str [.var 7] [.var 7], .int (.rlen 10) (.rlen 10), .int (.rlen 10) (.rlen 10), .int (.rlen 10) (.rlen 10), .int (.var 0) (.add (.var 0) (.lit 1)), .str [.var 6] [.var 6], .int (.rlen 10) (.rlen 10), .row 10 1 (some ((.v 10), 1)) [], .peek 10 (.var 0) [.str [.var 9]], .int (.rlen 11) (.add (.add (.rlen 11) (.lit 1)) (.lit 1)), .int (.var 1) (.add (.add (.var 1) (.slen 7)) (.slen 9)), .row 11 2 (some ((.v 11), 2)) [.str [.var 7], .int .i64 (.lit 1), .str [.var 9], .int .i64 (.lit 1)]]) (.fin ⟨124, 125, [(124, 124)]⟩ [.str [.var 6] [.var 6], .int (.rlen 10) (.rlen 10), .int (.rlen 21) (.rlen 11), .int (.var 21) (.var 1), .row 21 2 (some ((.v 11), 2)) []]))
noncomputable def anG : Graph := { tg := pick antg, stop := stopAny [(109, (0, 4))], n := fun _ => 800, pl := fun k => ([ano0, ano1].getD k .no).plan, o := fun k => [ano0, ano1].getD k .no, v := .tup [], h := (hpOf [(71, .cells false none [.str [.lit [73, 70, 83]], .str [.var 6], .bool (.lit false), .bool (.lit false)] 61), (107, .cells false none [.slice 71 0 (.lit 1) (.rest 4), .slice 64 0 (.rlen 10) (.rest 1), .str [], .int .i64 (.lit 0), .int .i64 (.lit 0), .int .i64 (.lit 0), .str [], .nilSlice, .nilSlice, .int .i64 (.lit 0)] 64), (120, .cells false none [.slice 124 0 (.rlen 21) (.rest 2), .int .i64 (.var 21)] 77), (124, .cells false (some (.v 21, 2)) [] 79)] 125), f := 109, N := 124 }
theorem anat0 : anG.At anC 0 := ⟨by kernel_rfl, by kernel_rfl, by kernel_rfl⟩
theorem anat1 : anG.At anC 1 := ⟨by kernel_rfl, by kernel_rfl, by kernel_rfl⟩
theorem anf0 : (anG.tg 0).facts = [(.cmp .geq (.rlen 10) (.lit 1), true), (.cmp .leq (.rlen 10) (.lit 20), true), (.cmp .leq (.slen 40) (.lit 100), true), (.cmp .leq (.slen 6) (.lit 1024), true)] := by kernel_rfl
theorem anf1 : (anG.tg 1).facts = [(.cmp .geq (.var 0) (.lit 1), true), (.cmp .leq (.var 0) (.rlen 10), true), (.cmp .leq (.rlen 10) (.lit 20), true), (.cmp .leq (.slen 7) (.lit 1), true), (.cmp .leq (.slen 9) (.lit 100), true), (.cmp .geq (.var 1) (.lit 0), true), (.cmp .leq (.var 1) (.lit 3000), true), (.cmp .leq (.rlen 11) (.lit 1000), true), (.cmp .geq (.rlen 11) (.lit 1), true)] := by kernel_rfl
theorem anst : startF anC [(.cmp .geq (.rlen 10) (.lit 1), true), (.cmp .leq (.rlen 10) (.lit 20), true), (.cmp .leq (.slen 40) (.lit 100), true), (.cmp .leq (.slen 6) (.lit 1024), true)] 109 [.ptr 107 0, .ptr 120 0, .str [.lit [42]], .bool (.lit true)] (hpOf [(64, .rowv true 10 1 (.lit 0) [.str [.var 40]] 9), (71, .cells false none [.str [.lit [73, 70, 83]], .str [.var 6], .bool (.lit false), .bool (.lit false)] 61), (107, .cells false none [.slice 71 0 (.lit 1) (.rest 4), .slice 64 0 (.rlen 10) (.rest 1), .str [], .int .i64 (.lit 0), .int .i64 (.lit 0), .int .i64 (.lit 0), .str [], .nilSlice, .nilSlice, .int .i64 (.lit 0)] 64), (120, .cells false none [.nilSlice, .int .i64 (.lit 0)] 77)] 124) = some (anG.tg 0) := by kernel_rfl
end Go.Sx
namespace Go.Sx
open Go.Proofs
set_option maxRecDepth 100000
noncomputable def o_an : Orc := { facts := [], f := 109, args := [.ptr 107 0, .ptr 120 0, .str [.lit [42]], .bool (.lit true)], pre := [(64, .cells true (some (.v 10, 1)) [] 9), (71, .cells false none [.str [.lit [73, 70, 83]], .str [.var 6], .bool (.lit false), .bool (.lit false)] 61), (107, .cells false none [.slice 71 0 (.lit 1) (.rest 4), .slice 64 0 (.rlen 10) (.rest 1), .str [], .int .i64 (.lit 0), .int .i64 (.lit 0), .int .i64 (.lit 0), .str [], .nilSlice, .nilSlice, .int .i64 (.lit 0)] 64), (120, .cells false none [.nilSlice, .int .i64 (.lit 0)] 77)], next := 124, v := .tup [], post := [(71, .cells false none [.str [.lit [73, 70, 83]], .str [.var 6], .bool (.lit false), .bool (.lit false)] 61), (107, .cells false none [.slice 71 0 (.lit 1) (.rest 4), .slice 64 0 (.rlen 10) (.rest 1), .str [], .int .i64 (.lit 0), .int .i64 (.lit 0), .int .i64 (.lit 0), .str [], .nilSlice, .nilSlice, .int .i64 (.lit 0)] 64), (120, .cells false none [.slice 124 0 (.rlen 21) (.rest 2), .int .i64 (.var 21)] 77), (124, .cells false (some (.v 21, 2)) [] 79)], next' := 125 }
theorem anC_ok {ρ : Env} : CtxOK anC Tryz.prog ρ := ctx18 orcs_nil pors_nil
theorem an_ok {A : List (List UInt8)} {ifs by' : List UInt8} {ρ : Env} (L : LC A ifs by' ρ) (hifs : ρ.str 6 = ifs) (hil : ifs.length ≤ 1024) (hby : by' = ifs.take 1) : OrcOK Tryz.prog ρ o_an := by
  have hA0 : 1 ≤ A.length := by
    cases h : A with
    | nil => exact absurd h L.ne
    | cons a l => simp
  refine orc_of_graph (G := anG) (C := anC) (I := aI A by' ρ) (μ := aμ A) (l0 := [(64, .rowv true 10 1 (.lit 0) [.str [.var 40]] 9), (71, .cells false none [.str [.lit [73, 70, 83]], .str [.var 6], .bool (.lit false), .bool (.lit false)] 61), (107, .cells false none [.slice 71 0 (.lit 1) (.rest 4), .slice 64 0 (.rlen 10) (.rest 1), .str [], .int .i64 (.lit 0), .int .i64 (.lit 0), .int .i64 (.lit 0), .str [], .nilSlice, .nilSlice, .int .i64 (.lit 0)] 64), (120, .cells false none [.nilSlice, .int .i64 (.lit 0)] 77)])
    (fun _ _ _ => anC_ok) ?_ ?_ ?_ rfl anst rfl rfl rfl rfl (by decide) (by kernel_rfl) ?_
  · intro k ρ' hi
    match k, hi with
    | 0, hi =>
      subst hi
      rw [anf0]
      have := each_getD L.each 0
      intro p hp
      simp only [List.mem_cons, List.not_mem_nil, or_false] at hp
      rcases hp with rfl | rfl | rfl | rfl <;> simp [SB.den, SI.den, intCmp, ltInt_iff, L.rows, L.first, hifs, rows1] <;> (try simp [List.getD] at this) <;> (have := L.len; omega)
    | 1, hi =>
      obtain ⟨i, h1, h2, rfl⟩ := hi
      rw [anf1]
      have e1 := each_getD L.each i
      have e2 := starR_len by' (A.take i)
      have e3 := starN_le by' L.by1 (A.take i) (fun a ha => L.each a (List.mem_of_mem_take ha))
      have e4 := e2.2 (take_ne L.ne h1)
      have e5 := L.len
      have e6 := L.by1
      have e7 : (A.take i).length = i := by rw [List.length_take]; omega
      rw [e7] at e2 e3
      intro p hp
      simp only [List.mem_cons, List.not_mem_nil, or_false] at hp
      rcases hp with rfl | rfl | rfl | rfl | rfl | rfl | rfl | rfl | rfl <;> simp only [SB.den, SI.den, intCmp, ltInt_iff, aE, setI_int, setI_rows, setI_str, setR_int, setR_rows, setR_str, setS_int, setS_rows, setS_str, L.rows, rows1, List.length_map, Option.getD_some, Bool.not_eq_true', decide_eq_false_iff_not] <;> simp <;> (try simp [List.getD] at e1) <;> omega
  · intro k ρ' hi
    match k, hi with
    | 0, _ => exact anat0
    | 1, _ => exact anat1
  · intro k ρ' hi
    match k, hi with
    | 0, hi =>
      subst hi
      show OTok _ _ _ 0 ρ' ano0
      simp only [ano0, OTok]
      have ht : A.take 1 = [A.getD 0 []] := by
        cases h : A with
        | nil => exact absurd h L.ne
        | cons a l => rfl
      refine ⟨fun h => ⟨aE A by' ρ' 1, ?_, ⟨1, by omega, hA0, rfl⟩, by simp [aμ, aE, setS_int, setR_int, setI_int]⟩, fun h => ⟨aE A by' ρ' 1, ?_, ⟨1, by omega, hA0, rfl⟩, by simp [aμ, aE, setS_int, setR_int, setI_int]⟩⟩
      · simp only [SB.den, SI.den, intCmp, ltInt_iff, Option.getD_some, decide_eq_true_eq, hifs] at h
        have hq : ifs = [] := List.eq_nil_of_length_eq_zero (by omega)
        have hb : by' = [] := by rw [hby, hq]; rfl
        rw [hq] at hifs
        simp [Eqns, Eqn.ok, aE, SI.den, SS.den, SP.den, setI_int, setI_rows, setI_str, setR_int, setR_rows, setR_str, setS_int, setS_rows, setS_str, preCells, RX.flat, RX.ok, AV.val, L.rows, L.first, ht, starR, starN, qrow, vstr, hb, hifs]
        repeat' apply And.intro
        all_goals first | exact rows1_ok A | rfl | (intro xs hx; simpa [vstr, List.getD] using rows1_get hx)
      · simp only [SB.den, SI.den, intCmp, ltInt_iff, Option.getD_some, decide_eq_false_iff_not, hifs] at h
        have hb : ∃ c l, ifs = c :: l := by
          cases hq : ifs with
          | nil => simp [hq] at h
          | cons c l => exact ⟨c, l, rfl⟩
        obtain ⟨c, l, hq⟩ := hb
        have hb : by' = [c] := by rw [hby, hq]; rfl
        rw [hq] at hifs
        simp [Eqns, Eqn.ok, aE, SI.den, SS.den, SP.den, setI_int, setI_rows, setI_str, setR_int, setR_rows, setR_str, setS_int, setS_rows, setS_str, preCells, RX.flat, RX.ok, AV.val, L.rows, L.first, ht, starR, starN, qrow, vstr, hb, hifs]
        repeat' apply And.intro
        all_goals first | exact rows1_ok A | rfl | (intro xs hx; simpa [vstr, List.getD] using rows1_get hx)
    | 1, hi =>
      obtain ⟨i, h1, h2, rfl⟩ := hi
      show OTok _ _ _ 1 _ ano1
      simp only [ano1, OTok]
      refine ⟨fun h => ?_, fun h => ?_⟩
      · 
        have hlt : i < A.length := by
          simp [SB.den, SI.den, intCmp, ltInt_iff, aE, setS_int, setR_int, setI_int, setS_rows, setR_rows, setI_rows, L.rows, rows1] at h
          omega
        have hne := take_ne L.ne h1
        have ht := take_getD hlt
        refine ⟨aE A by' ρ (i + 1), ?_, ⟨i + 1, by omega, by omega, rfl⟩, by simp [aμ, aE, setS_int, setR_int, setI_int]; omega⟩
        simp [Eqns, Eqn.ok, aE, SI.den, SS.den, SP.den, setI_int, setI_rows, setI_str, setR_int, setR_rows, setR_str, setS_int, setS_rows, setS_str, preCells, RX.flat, RX.ok, AV.val, L.rows, L.first, L.star, L.starn, ht, starR_snoc _ hne, starN_snoc _ hne]
        have hst := starR_ok by' (A.take (i + 1))
        rw [ht, starR_snoc _ hne] at hst
        repeat' apply And.intro
        all_goals first | exact rows1_ok A | rfl | omega | (intro xs hx; simpa [vstr, List.getD] using rows1_get hx) | simpa using hst
      · 
        have hlt : i = A.length := by
          simp [SB.den, SI.den, intCmp, ltInt_iff, aE, setS_int, setR_int, setI_int, setS_rows, setR_rows, setI_rows, L.rows, rows1] at h
          omega
        refine ⟨ρ, ?_, rfl⟩
        subst hlt
        simp [Eqns, Eqn.ok, aE, SI.den, SS.den, SP.den, setI_int, setI_rows, setI_str, setR_int, setR_rows, setR_str, setS_int, setS_rows, setS_str, preCells, RX.flat, RX.ok, AV.val, L.rows, L.first, L.star, L.starn]
        exact starR_ok by' A
  · 
    refine ⟨rfl, .inr ⟨_, _, _, _, _, _, rfl, rfl, rfl, by simp [SI.den], ?_⟩, RefL.refl ρ _⟩
    intro xs hx
    simp only [SI.den, L.rows] at hx
    rw [rows1_get hx]
    simp [AV.val, SS.den, SP.den, L.first, vstr]
end Go.Sx
namespace Go.Sx
open Go.Proofs
set_option maxRecDepth 1000000

noncomputable def txC : Ctx := ctxOf Tryz.prog lies18 exts18 [] []
noncomputable def txtg : List AM := [st txC 33 [.ptr 81 0] (hpOf [(81, .cells false none [.slice 94 0 (.add (.lit 1) (.rlen 21)) (.rest 2), .int .i64 (.var 21)] 77), (94, .cells false (some ((.cs [.str [], .int .i64 (.lit 4)] (.v 21)), 2)) [] 79)] 95) [(.cmp .geq (.rlen 21) (.lit 1), true), (.cmp .leq (.rlen 21) (.lit 1000), true)],
    nd txC 33 0 [(3, .ptr 95 0), (9, .slice 94 0 (.rlen 23) (.rest 2)), (10, .int .i64 (.rlen 23)), (11, .int .i64 (.var 0))]
      [(94, .rowv false 23 2 (.var 0) [.str [.var 30], .int .i64 (.lit 1)] 79), (95, .cells false none [.ptr 95 0, .nilSlice] 70)] 96
      [(.cmp .geq (.var 0) (.lit 1), true), (.cmp .leq (.var 0) (.rlen 23), true), (.cmp .leq (.rlen 23) (.lit 1001), true), (.cmp .leq (.slen 30) (.lit 4000), true)],
    nd txC 33 0 [(3, .ptr 95 0), (9, .slice 94 0 (.rlen 23) (.rest 2)), (10, .int .i64 (.rlen 23)), (11, .int .i64 (.var 0))]
      [(94, .rowv false 23 2 (.var 0) [.str [.var 30], .int .i64 (.lit 1)] 79), (95, .cells false none [.ptr 95 0, .slice 96 0 (.slen 31) (.rest 1)] 70), (96, .bytes [.var 31] 5 false)] 97
      [(.cmp .geq (.var 0) (.lit 1), true), (.cmp .leq (.var 0) (.rlen 23), true), (.cmp .leq (.rlen 23) (.lit 1001), true), (.cmp .leq (.slen 30) (.lit 4000), true), (.cmp .geq (.slen 31) (.lit 1), true), (.cmp .leq (.slen 31) (.lit 4000), true)]]
noncomputable def txo0 : OT := (.to 1 ⟨95, 96, [(95, 95)]⟩ [.int (.var 0) (.lit 1), .int (.rlen 23) (.add (.lit 1) (.rlen 21)), .int (.rlen 23) (.add (.lit 1) (.rlen 21)), .row 23 2 (some ((.cs [.str [], .int .i64 (.lit 4)] (.v 21)), 2)) [], .peek 23 (.var 0) [.str [.var 30], .int .i64 (.lit 1)]])
noncomputable def txo1 : OT := (.fork (.cmp .lss (.var 0) (.rlen 23)) (.fork (.cmp .eql (.slen 30) (.lit 0)) (.to 1 ⟨95, 96, [(95, 95)]⟩ [.int (.var 0) (.add (.var 0) (.lit 1)), .int (.rlen 23) (.rlen 23), .int (.rlen 23) (.rlen 23), .row 23 2 (some ((.v 23), 2)) [], .peek 23 (.var 0) [.str [.var 30], .int .i64 (.lit 1)]]) (.to 2 ⟨95, 97, [(95, 95), (96, 97)]⟩ [.int (.var 0) (.add (.var 0) (.lit 1)), .int (.rlen 23) (.rlen 23), .int (.rlen 23) (.rlen 23), .int (.slen 31) (.slen 30), .str [.var 31] [.var 30], .row 23 2 (some ((.v 23), 2)) [], .peek 23 (.var 0) [.str [.var 30], .int .i64 (.lit 1)]])) (.fin ⟨95, 100, []⟩ [.str [.var 22] []]))
noncomputable def txo2 : OT := (.fork (.cmp .lss (.var 0) (.rlen 23)) (.to 2 ⟨95, 97, [(95, 95), (96, 98)]⟩ [.int (.var 0) (.add (.var 0) (.lit 1)), .int (.rlen 23) (.rlen 23), .int (.rlen 23) (.rlen 23), .int (.slen 31) (.add (.slen 31) (.slen 30)), .str [.var 31] [.var 31, .var 30], .row 23 2 (some ((.v 23), 2)) [], .peek 23 (.var 0) [.str [.var 30], .int .i64 (.lit 1)]]) (.fin ⟨95, 100, []⟩ [.str [.var 22] [.var 31]]))
noncomputable def txG : Graph := { tg := pick txtg, stop := stopAny [(33, (0, 3))], n := fun _ => 800, pl := fun k => ([txo0, txo1, txo2].getD k .no).plan, o := fun k => [txo0, txo1, txo2].getD k .no, v := .str [.var 22], h := (hpOf [] 100), f := 33, N := 95 }
theorem txat0 : txG.At txC 0 := ⟨by kernel_rfl, by kernel_rfl, by kernel_rfl⟩
theorem txat1 : txG.At txC 1 := ⟨by kernel_rfl, by kernel_rfl, by kernel_rfl⟩
theorem txat2 : txG.At txC 2 := ⟨by kernel_rfl, by kernel_rfl, by kernel_rfl⟩
theorem txf0 : (txG.tg 0).facts = [(.cmp .geq (.rlen 21) (.lit 1), true), (.cmp .leq (.rlen 21) (.lit 1000), true)] := by kernel_rfl
theorem txf1 : (txG.tg 1).facts = [(.cmp .geq (.var 0) (.lit 1), true), (.cmp .leq (.var 0) (.rlen 23), true), (.cmp .leq (.rlen 23) (.lit 1001), true), (.cmp .leq (.slen 30) (.lit 4000), true)] := by kernel_rfl
theorem txf2 : (txG.tg 2).facts = [(.cmp .geq (.var 0) (.lit 1), true), (.cmp .leq (.var 0) (.rlen 23), true), (.cmp .leq (.rlen 23) (.lit 1001), true), (.cmp .leq (.slen 30) (.lit 4000), true), (.cmp .geq (.slen 31) (.lit 1), true), (.cmp .leq (.slen 31) (.lit 4000), true)] := by kernel_rfl
theorem txst : startF txC [(.cmp .geq (.rlen 21) (.lit 1), true), (.cmp .leq (.rlen 21) (.lit 1000), true)] 33 [.ptr 81 0] (hpOf [(81, .cells false none [.slice 94 0 (.add (.lit 1) (.rlen 21)) (.rest 2), .int .i64 (.var 21)] 77), (94, .cells false (some ((.cs [.str [], .int .i64 (.lit 4)] (.v 21)), 2)) [] 79)] 95) = some (txG.tg 0) := by kernel_rfl
end Go.Sx
namespace Go.Sx
open Go.Proofs
set_option maxRecDepth 100000
def starS (by' : List UInt8) : List (List UInt8) → List (List UInt8)
  | [] => []
  | a :: l => a :: l.flatMap fun b => [by', b]
theorem starR_map (by' : List UInt8) (l : List (List UInt8)) : starR by' l = (starS by' l).map (qrow 1) := by
  cases l with
  | nil => rfl
  | cons a l => simp [starR, starS, List.map_flatMap]
theorem starS_snoc (by' : List UInt8) {l : List (List UInt8)} (h : l ≠ []) (b : List UInt8) : starS by' (l ++ [b]) = starS by' l ++ [by', b] := by
  cases l with
  | nil => exact absurd rfl h
  | cons a l => simp [starS]
theorem starS_sum (by' : List UInt8) : ∀ l : List (List UInt8), ((starS by' l).flatten.length : Int) = starN by' l := by
  intro l
  rw [← List.reverse_reverse l]
  induction l.reverse with
  | nil => rfl
  | cons b m ih =>
    rw [List.reverse_cons]
    by_cases hm : m.reverse = []
    · rw [hm]; simp [starS, starN]
    · rw [starN_snoc by' hm, starS_snoc by' hm, ← ih]
      simp; omega
/-- a marked place, then quoted texts -/
def mrows (T : List (List UInt8)) : List (List Value) := qrow 4 [] :: T.map (qrow 1)
theorem qrow_ok (k : Int) (s : List UInt8) : (qrow k s).length = 2 ∧ ∀ v ∈ qrow k s, v.oneCell' = true := ⟨rfl, fun v hv => by simp [qrow] at hv; rcases hv with rfl | rfl <;> rfl⟩
theorem mrows_ok (T : List (List UInt8)) : ∀ q ∈ mrows T, q.length = 2 ∧ ∀ v ∈ q, v.oneCell' = true := by
  intro q h
  rcases List.mem_cons.1 h with rfl | h
  · exact qrow_ok _ _
  · obtain ⟨s, _, rfl⟩ := List.mem_map.1 h; exact qrow_ok _ _
theorem mrows_get {T : List (List UInt8)} {i : Nat} {xs : List Value} (hi : 1 ≤ i) (h : (mrows T)[i]? = some xs) : xs = qrow 1 (T.getD (i - 1) []) := by
  obtain ⟨j, rfl⟩ : ∃ j, i = j + 1 := ⟨i - 1, by omega⟩
  simp only [mrows, List.getElem?_cons_succ, List.getElem?_map] at h
  cases ha : T[j]? with
  | none => rw [ha] at h; cases h
  | some a => rw [ha] at h; cases h; simp [List.getD, ha]
def tE (T : List (List UInt8)) (ρ : Env) (i : Nat) : Env := (((ρ.setI 0 i).setR 23 (mrows T)).setS 30 (T.getD (i - 1) [])).setS 31 (T.take (i - 1)).flatten
def tI (T : List (List UInt8)) (ρ0 : Env) : Nat → Env → Prop
  | 0, ρ => ρ = ρ0
  | 1, ρ => ∃ i : Nat, 1 ≤ i ∧ i ≤ T.length + 1 ∧ (T.take (i - 1)).flatten = [] ∧ ρ = tE T ρ0 i
  | 2, ρ => ∃ i : Nat, 1 ≤ i ∧ i ≤ T.length + 1 ∧ (T.take (i - 1)).flatten ≠ [] ∧ ρ = tE T ρ0 i
  | _, _ => False
def tμ (T : List (List UInt8)) : Nat → Env → Nat
  | 0, _ => T.length + 3
  | _, ρ => T.length + 2 - (ρ.int 0).toNat
theorem flatten_take_le (T : List (List UInt8)) (i : Nat) : (T.take i).flatten.length ≤ T.flatten.length := by
  have : T.flatten = (T.take i).flatten ++ (T.drop i).flatten := by rw [← List.flatten_append, List.take_append_drop]
  rw [this, List.length_append]; omega
theorem getD_le (T : List (List UInt8)) (i : Nat) : (T.getD i []).length ≤ T.flatten.length := by
  rcases Nat.lt_or_ge i T.length with h | h
  · have := flatten_take_le T (i + 1)
    rw [take_getD h] at this
    simp at this ⊢; omega
  · simp [List.getD, List.getElem?_eq_none h]
theorem tlt {T : List (List UInt8)} {ρ : Env} {i : Nat} (h : SB.den (tE T ρ i) (.cmp .lss (.var 0) (.rlen 23)) = true) : i < T.length + 1 := by
  simp [SB.den, SI.den, intCmp, ltInt_iff, tE, setS_int, setR_int, setI_int, setS_rows, setR_rows, mrows] at h
  omega
theorem tend {T : List (List UInt8)} {ρ : Env} {i : Nat} (h2 : i ≤ T.length + 1) (h : SB.den (tE T ρ i) (.cmp .lss (.var 0) (.rlen 23)) = false) : i = T.length + 1 := by
  simp [SB.den, SI.den, intCmp, ltInt_iff, tE, setS_int, setR_int, setI_int, setS_rows, setR_rows, mrows] at h
  omega
theorem temp {T : List (List UInt8)} {ρ : Env} {i : Nat} (_ : i < T.length + 1) (h : SB.den (tE T ρ i) (.cmp .eql (.slen 30) (.lit 0)) = true) : T.getD (i - 1) [] = [] := by
  simp [SB.den, SI.den, intCmp, eqInt_iff, tE, setS_str] at h
  simpa using h
theorem tnem {T : List (List UInt8)} {ρ : Env} {i : Nat} (_ : i < T.length + 1) (h : SB.den (tE T ρ i) (.cmp .eql (.slen 30) (.lit 0)) = false) : T.getD (i - 1) [] ≠ [] := by
  simp [SB.den, SI.den, intCmp, eqInt_iff, tE, setS_str] at h
  simpa using h
theorem tflat {T : List (List UInt8)} {i : Nat} (h1 : 1 ≤ i) (h : i < T.length + 1) : (T.take (i + 1 - 1)).flatten = (T.take (i - 1)).flatten ++ T.getD (i - 1) [] := by
  obtain ⟨j, rfl⟩ : ∃ j, i = j + 1 := ⟨i - 1, by omega⟩
  simp only [Nat.add_sub_cancel]
  rw [take_getD (by omega)]
  simp
noncomputable def o_tx : Orc := { facts := [], f := 33, args := [.ptr 81 0], pre := [(81, .cells false none [.slice 94 0 (.add (.lit 1) (.rlen 21)) (.rest 2), .int .i64 (.var 21)] 77), (94, .cells false (some ((.cs [.str [], .int .i64 (.lit 4)] (.v 21)), 2)) [] 79)], next := 95, v := .str [.var 22], post := [], next' := 100 }
theorem txC_ok {ρ : Env} : CtxOK txC Tryz.prog ρ := ctx18 orcs_nil pors_nil
theorem tx_ok {T : List (List UInt8)} {ρ : Env} (hT : 1 ≤ T.length) (hT2 : T.length ≤ 1000) (hlen : T.flatten.length ≤ 4000) (hR : ρ.rows 21 = T.map (qrow 1)) (hS : ρ.str 22 = T.flatten) : OrcOK Tryz.prog ρ o_tx := by
  refine orc_of_graph (G := txG) (C := txC) (I := tI T ρ) (μ := tμ T) (l0 := o_tx.pre) (fun _ _ _ => txC_ok) ?_ ?_ ?_ rfl txst rfl rfl rfl rfl (by decide) (by kernel_rfl) (RefL.refl ρ _)
  · intro k ρ' hi
    match k, hi with
    | 0, hi =>
      subst hi
      rw [txf0]
      intro p hp
      simp only [List.mem_cons, List.not_mem_nil, or_false] at hp
      rcases hp with rfl | rfl <;> simp [SB.den, SI.den, intCmp, ltInt_iff, hR] <;> omega
    | 1, hi =>
      obtain ⟨i, h1, h2, _, rfl⟩ := hi
      rw [txf1]
      have e1 : (T[i - 1]?.getD []).length ≤ 4000 := Nat.le_trans (getD_le T (i - 1)) hlen
      intro p hp
      simp only [List.mem_cons, List.not_mem_nil, or_false] at hp
      rcases hp with rfl | rfl | rfl | rfl <;> simp [SB.den, SI.den, intCmp, ltInt_iff, tE, setI_int, setR_int, setR_rows, setS_int, setS_rows, setS_str, mrows] <;> omega
    | 2, hi =>
      obtain ⟨i, h1, h2, h3, rfl⟩ := hi
      rw [txf2]
      have e1 : (T[i - 1]?.getD []).length ≤ 4000 := Nat.le_trans (getD_le T (i - 1)) hlen
      have e2 := Nat.le_trans (flatten_take_le T (i - 1)) hlen
      have e3 : 1 ≤ (T.take (i - 1)).flatten.length := by
        cases h : (T.take (i - 1)).flatten with
        | nil => exact absurd h h3
        | cons a l => simp
      intro p hp
      simp only [List.mem_cons, List.not_mem_nil, or_false] at hp
      rcases hp with rfl | rfl | rfl | rfl | rfl | rfl <;> simp [-List.length_flatten, SB.den, SI.den, intCmp, ltInt_iff, tE, setI_int, setR_int, setR_rows, setS_int, setS_rows, setS_str, mrows] <;> omega
  · intro k ρ' hi
    match k, hi with
    | 0, _ => exact txat0
    | 1, _ => exact txat1
    | 2, _ => exact txat2
  · intro k ρ' hi
    match k, hi with
    | 0, hi =>
      subst hi
      show OTok _ _ _ 0 ρ' txo0
      simp only [txo0, OTok]
      refine ⟨tE T ρ' 1, ?_, ⟨1, by omega, by omega, rfl, rfl⟩, by simp [tμ, tE, setS_int, setR_int, setI_int]⟩
      simp [Eqns, Eqn.ok, tE, SI.den, SS.den, SP.den, setI_int, setI_rows, setI_str, setR_int, setR_rows, setR_str, setS_int, setS_rows, setS_str, preCells, RX.flat, RX.ok, AV.val, hR]
      repeat' apply And.intro
      all_goals first | exact mrows_ok T | (simp [mrows]; omega) | (simp [mrows, qrow, vstr]; done) | (intro xs hx; simpa [qrow, vstr] using mrows_get (Nat.le_refl 1) hx)
    | 1, hi =>
      obtain ⟨i, h1, h2, h3, rfl⟩ := hi
      show OTok _ _ _ 1 _ txo1
      simp only [txo1, OTok]
      refine ⟨fun h => ⟨fun g => ?_, fun g => ?_⟩, fun h => ?_⟩
      · have hlt := tlt h
        have hem := temp hlt g
        refine ⟨tE T ρ (i + 1), ?_, ⟨i + 1, by omega, by omega, by rw [tflat h1 hlt, h3, hem]; rfl, rfl⟩, by simp [tμ, tE, setS_int, setR_int, setI_int]; omega⟩
        simp [Eqns, Eqn.ok, tE, SI.den, SS.den, SP.den, setI_int, setI_rows, setI_str, setR_int, setR_rows, setR_str, setS_int, setS_rows, setS_str, preCells, RX.flat, RX.ok, AV.val]
        repeat' apply And.intro
        all_goals first | exact mrows_ok T | omega | (intro xs hx; simpa [qrow, vstr] using mrows_get (by omega) hx)
      · have hlt := tlt h
        have hem := tnem hlt g
        refine ⟨tE T ρ (i + 1), ?_, ⟨i + 1, by omega, by omega, by rw [tflat h1 hlt, h3]; simpa using hem, rfl⟩, by simp [tμ, tE, setS_int, setR_int, setI_int]; omega⟩
        have hx := tflat h1 hlt
        rw [h3] at hx
        simp [-List.length_flatten, Eqns, Eqn.ok, tE, SI.den, SS.den, SP.den, setI_int, setI_rows, setI_str, setR_int, setR_rows, setR_str, setS_int, setS_rows, setS_str, preCells, RX.flat, RX.ok, AV.val, show i + 1 - 1 = i by omega] at hx ⊢
        repeat' apply And.intro
        all_goals first | exact hx | exact mrows_ok T | omega | (rw [hx]; done) | (intro xs hx'; simpa [qrow, vstr] using mrows_get (by omega) hx')
      · have hend := tend h2 h
        refine ⟨ρ, ?_, rfl⟩
        rw [hend] at h3
        simp at h3
        simp [Eqns, Eqn.ok, tE, SI.den, SS.den, SP.den, setI_int, setI_rows, setI_str, setR_int, setR_rows, setR_str, setS_int, setS_rows, setS_str, preCells, RX.flat, RX.ok, AV.val, hS]
        exact h3
    | 2, hi =>
      obtain ⟨i, h1, h2, h3, rfl⟩ := hi
      show OTok _ _ _ 2 _ txo2
      simp only [txo2, OTok]
      refine ⟨fun h => ?_, fun h => ?_⟩
      · have hlt := tlt h
        refine ⟨tE T ρ (i + 1), ?_, ⟨i + 1, by omega, by omega, by rw [tflat h1 hlt]; simp [h3], rfl⟩, by simp [tμ, tE, setS_int, setR_int, setI_int]; omega⟩
        have hx := tflat h1 hlt
        simp [-List.length_flatten, Eqns, Eqn.ok, tE, SI.den, SS.den, SP.den, setI_int, setI_rows, setI_str, setR_int, setR_rows, setR_str, setS_int, setS_rows, setS_str, preCells, RX.flat, RX.ok, AV.val, show i + 1 - 1 = i by omega] at hx ⊢
        repeat' apply And.intro
        all_goals first | exact hx | exact mrows_ok T | omega | (rw [hx]; simp only [List.length_append]; omega) | (intro xs hx'; simpa [qrow, vstr] using mrows_get (by omega) hx')
      · have hend := tend h2 h
        refine ⟨ρ, ?_, rfl⟩
        simp [Eqns, Eqn.ok, tE, SI.den, SS.den, SP.den, setI_int, setI_rows, setI_str, setR_int, setR_rows, setR_str, setS_int, setS_rows, setS_str, preCells, RX.flat, RX.ok, AV.val, hS]
        rw [hend]; simp
end Go.Sx
namespace Go.Sx
open Go.Proofs
set_option maxRecDepth 1000000

noncomputable def wdC : Ctx := ctxOf Tryz.prog lies18 exts18 [o_an] [{ facts := [], f := 93, args := [.str [.var 30]], pre := [], v := .str [.var 32] }]
noncomputable def wdtg : List AM := [st wdC 28 [.ptr 103 0, .ptr 108 0] (hpOf [(64, .cells true (some (.v 10, 1)) [] 9), (71, .cells false none [.str [.lit [73, 70, 83]], .str [.var 6], .bool (.lit false), .bool (.lit false)] 61), (102, .cells false none [.str [.lit [34, 36, 42, 34]]] 9), (103, .cells false none [.slice 102 0 (.lit 1) (.known 1)] 22), (107, .cells false none [.slice 71 0 (.lit 1) (.rest 4), .slice 64 0 (.rlen 10) (.rest 1), .str [], .int .i64 (.lit 0), .int .i64 (.lit 0), .int .i64 (.lit 0), .str [], .nilSlice, .nilSlice, .int .i64 (.lit 0)] 64), (108, .cells false none [.ptr 107 0] 62)] 112) [(.cmp .leq (.rlen 10) (.lit 20), true), (.cmp .geq (.rlen 10) (.lit 1), true), (.cmp .leq (.var 21) (.lit 3000), true), (.cmp .geq (.var 21) (.lit 0), true), (.cmp .leq (.rlen 21) (.lit 1000), true), (.cmp .geq (.rlen 21) (.lit 1), true)],
    nd wdC 28 1 [(2, .nilSlice), (3, .ptr 112 0), (7, .str [.var 6]), (13, .slice 102 0 (.lit 1) (.known 1)), (14, .int .i64 (.lit 1)), (15, .int .i64 (.lit 0)), (35, .slice 113 0 (.rlen 23) (.rest 2)), (36, .int .i64 (.rlen 23)), (37, .int .i64 (.var 0))]
      [(71, .cells false none [.str [.lit [73, 70, 83]], .str [.var 6], .bool (.lit false), .bool (.lit false)] 61), (107, .cells false none [.slice 71 0 (.lit 1) (.rest 4), .slice 64 0 (.rlen 10) (.rest 1), .str [], .int .i64 (.lit 0), .int .i64 (.lit 0), .int .i64 (.lit 0), .str [], .nilSlice, .nilSlice, .int .i64 (.lit 0)] 64), (112, .cells false none [.nilSlice, .nilPtr, .nilSlice, .bool (.lit true), .bool (.lit false), .bool (.lit false), .bool (.lit false)] 72), (113, .rowv false 23 2 (.var 0) [.str [.var 30], .int .i64 (.lit 1)] 79)] 114
      [(.cmp .geq (.var 0) (.lit 1), true), (.cmp .leq (.var 0) (.rlen 23), true), (.cmp .leq (.rlen 23) (.lit 1001), true), (.cmp .leq (.slen 30) (.lit 4000), true), (.cmp .leq (.slen 32) (.lit 8000), true), (.cmp .geq (.slen 32) (.slen 30), true)],
    nd wdC 28 1 [(2, .nilSlice), (3, .ptr 112 0), (7, .str [.var 6]), (13, .slice 102 0 (.lit 1) (.known 1)), (14, .int .i64 (.lit 1)), (15, .int .i64 (.lit 0)), (35, .slice 113 0 (.rlen 23) (.rest 2)), (36, .int .i64 (.rlen 23)), (37, .int .i64 (.var 0))]
      [(71, .cells false none [.str [.lit [73, 70, 83]], .str [.var 6], .bool (.lit false), .bool (.lit false)] 61), (107, .cells false none [.slice 71 0 (.lit 1) (.rest 4), .slice 64 0 (.rlen 10) (.rest 1), .str [], .int .i64 (.lit 0), .int .i64 (.lit 0), .int .i64 (.lit 0), .str [], .nilSlice, .nilSlice, .int .i64 (.lit 0)] 64), (112, .cells false none [.nilSlice, .ptr 112 1, .slice 114 0 (.slen 31) (.rest 1), .bool (.lit true), .bool (.lit true), .bool (.lit false), .bool (.lit false)] 72), (113, .rowv false 23 2 (.var 0) [.str [.var 30], .int .i64 (.lit 1)] 79), (114, .bytes [.var 31] 5 false)] 115
      [(.cmp .geq (.var 0) (.lit 1), true), (.cmp .leq (.var 0) (.rlen 23), true), (.cmp .leq (.rlen 23) (.lit 1001), true), (.cmp .leq (.slen 30) (.lit 4000), true), (.cmp .leq (.slen 32) (.lit 8000), true), (.cmp .geq (.slen 32) (.slen 30), true), (.cmp .geq (.slen 31) (.lit 1), true), (.cmp .leq (.slen 31) (.lit 9000), true)]]
noncomputable def wdo0 : OT := (.to 1 ⟨112, 114, [(112, 112), (113, 126)]⟩ [.str [.var 6] [.var 6], .int (.rlen 23) (.add (.lit 1) (.rlen 21)), .int (.var 0) (.lit 1), .int (.rlen 23) (.add (.lit 1) (.rlen 21)), .str [.var 6] [.var 6], .int (.rlen 10) (.rlen 10), .row 23 2 (some ((.cs [.str [], .int .i64 (.lit 4)] (.v 21)), 2)) [], .peek 23 (.var 0) [.str [.var 30], .int .i64 (.lit 1)]])
noncomputable def wdo1 : OT := (.fork (.cmp .lss (.var 0) (.rlen 23)) (.fork (.cmp .eql (.slen 30) (.lit 0)) (.to 1 ⟨112, 114, [(112, 112), (113, 113)]⟩ [.str [.var 6] [.var 6], .int (.rlen 23) (.rlen 23), .int (.var 0) (.add (.var 0) (.lit 1)), .int (.rlen 23) (.rlen 23), .str [.var 6] [.var 6], .int (.rlen 10) (.rlen 10), .row 23 2 (some ((.v 23), 2)) [], .peek 23 (.var 0) [.str [.var 30], .int .i64 (.lit 1)]]) (.fork (.cmp .eql (.slen 32) (.lit 0)) .no (.to 2 ⟨112, 115, [(112, 112), (113, 113), (114, 116)]⟩ [.str [.var 6] [.var 6], .int (.rlen 23) (.rlen 23), .int (.var 0) (.add (.var 0) (.lit 1)), .int (.rlen 23) (.rlen 23), .str [.var 6] [.var 6], .int (.rlen 10) (.rlen 10), .row 23 2 (some ((.v 23), 2)) [], .peek 23 (.var 0) [.str [.var 30], .int .i64 (.lit 1)], .int (.slen 31) (.slen 32), .str [.var 31] [.var 32]]))) (.fin ⟨112, 113, [(112, 116)]⟩ [.str [.var 6] [.var 6], .int (.rlen 10) (.rlen 10)]))
noncomputable def wdo2 : OT := (.fork (.cmp .lss (.var 0) (.rlen 23)) (.fork (.cmp .eql (.slen 30) (.lit 0)) (.to 2 ⟨112, 115, [(112, 112), (113, 113), (114, 114)]⟩ [.str [.var 6] [.var 6], .int (.rlen 23) (.rlen 23), .int (.var 0) (.add (.var 0) (.lit 1)), .int (.rlen 23) (.rlen 23), .str [.var 6] [.var 6], .int (.rlen 10) (.rlen 10), .row 23 2 (some ((.v 23), 2)) [], .peek 23 (.var 0) [.str [.var 30], .int .i64 (.lit 1)], .int (.slen 31) (.slen 31), .str [.var 31] [.var 31]]) (.to 2 ⟨112, 115, [(112, 112), (113, 113), (114, 117)]⟩ [.str [.var 6] [.var 6], .int (.rlen 23) (.rlen 23), .int (.var 0) (.add (.var 0) (.lit 1)), .int (.rlen 23) (.rlen 23), .str [.var 6] [.var 6], .int (.rlen 10) (.rlen 10), .row 23 2 (some ((.v 23), 2)) [], .peek 23 (.var 0) [.str [.var 30], .int .i64 (.lit 1)], .int (.slen 31) (.add (.slen 31) (.slen 32)), .str [.var 31] [.var 31, .var 32]])) (.fin ⟨112, 113, [(112, 117)]⟩ [.str [.var 6] [.var 6], .int (.rlen 10) (.rlen 10)]))
noncomputable def wdG : Graph := { tg := pick wdtg, stop := stopAny [(28, (0, 8))], n := fun _ => 3000, pl := fun k => ([wdo0, wdo1, wdo2].getD k .no).plan, o := fun k => [wdo0, wdo1, wdo2].getD k .no, v := .slice 112 0 (.lit 1) (.known 1), h := (hpOf [(71, .cells false none [.str [.lit [73, 70, 83]], .str [.var 6], .bool (.lit false), .bool (.lit false)] 61), (107, .cells false none [.slice 71 0 (.lit 1) (.rest 4), .slice 64 0 (.rlen 10) (.rest 1), .str [], .int .i64 (.lit 0), .int .i64 (.lit 0), .int .i64 (.lit 0), .str [], .nilSlice, .nilSlice, .int .i64 (.lit 0)] 64)] 113), f := 28, N := 112 }
theorem wdat0 : wdG.At wdC 0 := ⟨by kernel_rfl, by kernel_rfl, by kernel_rfl⟩
theorem wdat1 : wdG.At wdC 1 := ⟨by kernel_rfl, by kernel_rfl, by kernel_rfl⟩
theorem wdat2 : wdG.At wdC 2 := ⟨by kernel_rfl, by kernel_rfl, by kernel_rfl⟩
theorem wdf0 : (wdG.tg 0).facts = [(.cmp .leq (.rlen 10) (.lit 20), true), (.cmp .geq (.rlen 10) (.lit 1), true), (.cmp .leq (.var 21) (.lit 3000), true), (.cmp .geq (.var 21) (.lit 0), true), (.cmp .leq (.rlen 21) (.lit 1000), true), (.cmp .geq (.rlen 21) (.lit 1), true)] := by kernel_rfl
theorem wdf1 : (wdG.tg 1).facts = [(.cmp .geq (.var 0) (.lit 1), true), (.cmp .leq (.var 0) (.rlen 23), true), (.cmp .leq (.rlen 23) (.lit 1001), true), (.cmp .leq (.slen 30) (.lit 4000), true), (.cmp .leq (.slen 32) (.lit 8000), true), (.cmp .geq (.slen 32) (.slen 30), true)] := by kernel_rfl
theorem wdf2 : (wdG.tg 2).facts = [(.cmp .geq (.var 0) (.lit 1), true), (.cmp .leq (.var 0) (.rlen 23), true), (.cmp .leq (.rlen 23) (.lit 1001), true), (.cmp .leq (.slen 30) (.lit 4000), true), (.cmp .leq (.slen 32) (.lit 8000), true), (.cmp .geq (.slen 32) (.slen 30), true), (.cmp .geq (.slen 31) (.lit 1), true), (.cmp .leq (.slen 31) (.lit 9000), true)] := by kernel_rfl
theorem wdst : startF wdC [(.cmp .leq (.rlen 10) (.lit 20), true), (.cmp .geq (.rlen 10) (.lit 1), true), (.cmp .leq (.var 21) (.lit 3000), true), (.cmp .geq (.var 21) (.lit 0), true), (.cmp .leq (.rlen 21) (.lit 1000), true), (.cmp .geq (.rlen 21) (.lit 1), true)] 28 [.ptr 103 0, .ptr 108 0] (hpOf [(64, .cells true (some (.v 10, 1)) [] 9), (71, .cells false none [.str [.lit [73, 70, 83]], .str [.var 6], .bool (.lit false), .bool (.lit false)] 61), (102, .cells false none [.str [.lit [34, 36, 42, 34]]] 9), (103, .cells false none [.slice 102 0 (.lit 1) (.known 1)] 22), (107, .cells false none [.slice 71 0 (.lit 1) (.rest 4), .slice 64 0 (.rlen 10) (.rest 1), .str [], .int .i64 (.lit 0), .int .i64 (.lit 0), .int .i64 (.lit 0), .str [], .nilSlice, .nilSlice, .int .i64 (.lit 0)] 64), (108, .cells false none [.ptr 107 0] 62)] 112) = some (wdG.tg 0) := by kernel_rfl
end Go.Sx
namespace Go.Sx
open Go.Proofs
set_option maxRecDepth 100000
theorem por_quote {ρ : Env} {a b : Nat} (h : ρ.str b = quoteL (ρ.str a)) (hl : (ρ.str a).length ≤ 100000) : POrcOK Tryz.prog ρ { facts := [], f := 93, args := [.str [.var a]], pre := [], v := .str [.var b] } := by
  intro φ w xs n _ _ _ ha
  obtain ⟨x, ys, rfl, h1, h2⟩ := VRs.cons_left ha
  have := VRs.nil_left h2; subst this
  simp only [VR, SS.den, SP.den, List.append_nil] at h1
  subst h1
  refine (quote_calls ⟨⟨ρ.str a⟩⟩ hl w).mono fun e w' ⟨he, hk⟩ => ⟨_, he, ?_, hk⟩
  simp only [VR, SS.den, SP.den, List.append_nil, h]
def wE (T : List (List UInt8)) (ρ : Env) (i : Nat) : Env := ((((ρ.setI 0 i).setR 23 (mrows T)).setS 30 (T.getD (i - 1) [])).setS 31 (quoteL (T.take (i - 1)).flatten)).setS 32 (quoteL (T.getD (i - 1) []))
def wI (T : List (List UInt8)) (ρ0 : Env) : Nat → Env → Prop
  | 0, ρ => ρ = ρ0
  | 1, ρ => ∃ i : Nat, 1 ≤ i ∧ i ≤ T.length + 1 ∧ (T.take (i - 1)).flatten = [] ∧ ρ = wE T ρ0 i
  | 2, ρ => ∃ i : Nat, 1 ≤ i ∧ i ≤ T.length + 1 ∧ (T.take (i - 1)).flatten ≠ [] ∧ ρ = wE T ρ0 i
  | _, _ => False
theorem wlt {T : List (List UInt8)} {ρ : Env} {i : Nat} (h : SB.den (wE T ρ i) (.cmp .lss (.var 0) (.rlen 23)) = true) : i < T.length + 1 := by
  simp [SB.den, SI.den, intCmp, ltInt_iff, wE, setS_int, setR_int, setI_int, setS_rows, setR_rows, mrows] at h
  omega
theorem wemp {T : List (List UInt8)} {ρ : Env} {i : Nat} (h : SB.den (wE T ρ i) (.cmp .eql (.slen 30) (.lit 0)) = true) : T.getD (i - 1) [] = [] := by
  simp [SB.den, SI.den, intCmp, eqInt_iff, wE, setS_str] at h
  simpa using h
theorem wnem {T : List (List UInt8)} {ρ : Env} {i : Nat} (h : SB.den (wE T ρ i) (.cmp .eql (.slen 30) (.lit 0)) = false) : T.getD (i - 1) [] ≠ [] := by
  simp [SB.den, SI.den, intCmp, eqInt_iff, wE, setS_str] at h
  simpa using h
theorem quoteL_nil {s : List UInt8} (h : quoteL s = []) : s = [] := by
  have := quoteL_len s
  rw [h] at this
  exact List.eq_nil_of_length_eq_zero (by simpa using this.1)
theorem wno {T : List (List UInt8)} {ρ : Env} {i : Nat} (g : T.getD (i - 1) [] ≠ []) (h : SB.den (wE T ρ i) (.cmp .eql (.slen 32) (.lit 0)) = true) : False := by
  simp [SB.den, SI.den, intCmp, eqInt_iff, wE, setS_str] at h
  exact g (by simpa [List.getD] using quoteL_nil h)
noncomputable def o_wd : Orc := { facts := [], f := 28, args := [.ptr 103 0, .ptr 108 0], pre := [(64, .cells true (some (.v 10, 1)) [] 9), (71, .cells false none [.str [.lit [73, 70, 83]], .str [.var 6], .bool (.lit false), .bool (.lit false)] 61), (102, .cells false none [.str [.lit [34, 36, 42, 34]]] 9), (103, .cells false none [.slice 102 0 (.lit 1) (.known 1)] 22), (107, .cells false none [.slice 71 0 (.lit 1) (.rest 4), .slice 64 0 (.rlen 10) (.rest 1), .str [], .int .i64 (.lit 0), .int .i64 (.lit 0), .int .i64 (.lit 0), .str [], .nilSlice, .nilSlice, .int .i64 (.lit 0)] 64), (108, .cells false none [.ptr 107 0] 62)], next := 112, v := .slice 112 0 (.lit 1) (.known 1), post := [(71, .cells false none [.str [.lit [73, 70, 83]], .str [.var 6], .bool (.lit false), .bool (.lit false)] 61), (107, .cells false none [.slice 71 0 (.lit 1) (.rest 4), .slice 64 0 (.rlen 10) (.rest 1), .str [], .int .i64 (.lit 0), .int .i64 (.lit 0), .int .i64 (.lit 0), .str [], .nilSlice, .nilSlice, .int .i64 (.lit 0)] 64)], next' := 113 }
theorem starS_len (by' : List UInt8) (l : List (List UInt8)) : (starS by' l).length = (starR by' l).length := by rw [starR_map]; simp
theorem wd_ok {A : List (List UInt8)} {ifs by' : List UInt8} {ρ : Env} (L : LC A ifs by' ρ) (hifs : ρ.str 6 = ifs) (hil : ifs.length ≤ 1024) (hby : by' = ifs.take 1) (hq : ρ.str 32 = quoteL (ρ.str 30)) (hq2 : (ρ.str 30).length ≤ 100000) : OrcOK Tryz.prog ρ o_wd := by
  obtain ⟨T, hT⟩ : ∃ T, T = starS by' A := ⟨_, rfl⟩
  have e1 := starR_len by' A
  have e2 := e1.2 L.ne
  have e3 := L.len
  have e4 := starN_le by' L.by1 A L.each
  have e5 : (T.flatten.length : Int) = starN by' A := by rw [hT]; exact starS_sum by' A
  have e6 : T.length = (starR by' A).length := by rw [hT]; exact starS_len by' A
  have hfl : T.flatten.length ≤ 4000 := by omega
  have hR : ρ.rows 21 = T.map (qrow 1) := by rw [L.star, hT, starR_map]
  have ctx : ∀ ρ', ρ'.rows 10 = ρ.rows 10 → ρ'.str 40 = ρ.str 40 → ρ'.rows 21 = ρ.rows 21 → ρ'.int 21 = ρ.int 21 → ρ'.str 6 = ρ.str 6 → ρ'.str 32 = quoteL (ρ'.str 30) → (ρ'.str 30).length ≤ 100000 → CtxOK wdC Tryz.prog ρ' := by
    intro ρ' h1 h2 h3 h4 h5 h6 h7
    refine ctx18 (orcs_cons (an_ok ⟨L.ne, L.len, L.each, L.by1, by rw [h1, L.rows], by rw [h2, L.first], by rw [h3, L.star], by rw [h4, L.starn]⟩ (by rw [h5, hifs]) hil hby) orcs_nil) (pors_cons (por_quote h6 h7) pors_nil)
  have gd : ∀ i, (T.getD i []).length ≤ 4000 := fun i => Nat.le_trans (getD_le T i) hfl
  refine orc_of_graph (G := wdG) (C := wdC) (I := wI T ρ) (μ := tμ T) (l0 := o_wd.pre) ?_ ?_ ?_ ?_ rfl wdst rfl rfl rfl rfl (by decide) (by kernel_rfl) (RefL.refl ρ _)
  · intro k ρ' hi
    match k, hi with
    | 0, hi => subst hi; exact ctx _ rfl rfl rfl rfl rfl hq hq2
    | 1, hi => obtain ⟨i, _, _, _, rfl⟩ := hi; exact ctx _ rfl rfl rfl rfl rfl rfl (Nat.le_trans (gd _) (by omega))
    | 2, hi => obtain ⟨i, _, _, _, rfl⟩ := hi; exact ctx _ rfl rfl rfl rfl rfl rfl (Nat.le_trans (gd _) (by omega))
  · intro k ρ' hi
    match k, hi with
    | 0, hi =>
      subst hi
      rw [wdf0]
      have hA0 : 1 ≤ A.length := by
        cases h : A with
        | nil => exact absurd h L.ne
        | cons a l => simp
      intro p hp
      simp only [List.mem_cons, List.not_mem_nil, or_false] at hp
      rcases hp with rfl | rfl | rfl | rfl | rfl | rfl <;> simp [SB.den, SI.den, intCmp, ltInt_iff, L.rows, L.star, L.starn, rows1] <;> omega
    | 1, hi =>
      obtain ⟨i, h1, h2, h3, rfl⟩ := hi
      rw [wdf1]
      have a1 : (T[i - 1]?.getD []).length ≤ 4000 := gd (i - 1)
      have a2 := quoteL_len (T[i - 1]?.getD [])
      intro p hp
      simp only [List.mem_cons, List.not_mem_nil, or_false] at hp
      rcases hp with rfl | rfl | rfl | rfl | rfl | rfl <;> simp [SB.den, SI.den, intCmp, ltInt_iff, wE, setI_int, setR_int, setR_rows, setS_int, setS_rows, setS_str, mrows] <;> omega
    | 2, hi =>
      obtain ⟨i, h1, h2, h3, rfl⟩ := hi
      rw [wdf2]
      have a1 : (T[i - 1]?.getD []).length ≤ 4000 := gd (i - 1)
      have a2 := quoteL_len (T[i - 1]?.getD [])
      have a3 := Nat.le_trans (flatten_take_le T (i - 1)) hfl
      have a4 := quoteL_len (T.take (i - 1)).flatten
      have a5 : 1 ≤ (T.take (i - 1)).flatten.length := by
        cases h : (T.take (i - 1)).flatten with
        | nil => exact absurd h h3
        | cons a l => simp
      intro p hp
      simp only [List.mem_cons, List.not_mem_nil, or_false] at hp
      rcases hp with rfl | rfl | rfl | rfl | rfl | rfl | rfl | rfl <;> simp [-List.length_flatten, SB.den, SI.den, intCmp, ltInt_iff, wE, setI_int, setR_int, setR_rows, setS_int, setS_rows, setS_str, mrows] <;> omega
  · intro k ρ' hi
    match k, hi with
    | 0, _ => exact wdat0
    | 1, _ => exact wdat1
    | 2, _ => exact wdat2
  · intro k ρ' hi
    match k, hi with
    | 0, hi =>
      subst hi
      show OTok _ _ _ 0 ρ' wdo0
      simp only [wdo0, OTok]
      refine ⟨wE T ρ' 1, ?_, ⟨1, by omega, by omega, rfl, rfl⟩, by simp [tμ, wE, setS_int, setR_int, setI_int]⟩
      simp [Eqns, Eqn.ok, wE, SI.den, SS.den, SP.den, setI_int, setI_rows, setI_str, setR_int, setR_rows, setR_str, setS_int, setS_rows, setS_str, preCells, RX.flat, RX.ok, AV.val, hR]
      repeat' apply And.intro
      all_goals first | exact mrows_ok T | (simp [mrows]; omega) | (simp [mrows, qrow, vstr]; done) | (intro xs hx; simpa [qrow, vstr] using mrows_get (Nat.le_refl 1) hx)
    | 1, hi =>
      obtain ⟨i, h1, h2, h3, rfl⟩ := hi
      show OTok _ _ _ 1 _ wdo1
      simp only [wdo1, OTok]
      refine ⟨fun h => ⟨fun g => ?_, fun g => ⟨fun g2 => ?_, fun g2 => ?_⟩⟩, fun h => ?_⟩
      · have hlt := wlt h
        have hem := wemp g
        refine ⟨wE T ρ (i + 1), ?_, ⟨i + 1, by omega, by omega, by rw [tflat h1 hlt, h3, hem]; rfl, rfl⟩, by simp [tμ, wE, setS_int, setR_int, setI_int]; omega⟩
        simp [Eqns, Eqn.ok, wE, SI.den, SS.den, SP.den, setI_int, setI_rows, setI_str, setR_int, setR_rows, setR_str, setS_int, setS_rows, setS_str, preCells, RX.flat, RX.ok, AV.val]
        repeat' apply And.intro
        all_goals first | exact mrows_ok T | omega | (intro xs hx; simpa [qrow, vstr] using mrows_get (by omega) hx)
      · exact wno (wnem g) g2
      · have hlt := wlt h
        have hem := wnem g
        refine ⟨wE T ρ (i + 1), ?_, ⟨i + 1, by omega, by omega, by rw [tflat h1 hlt, h3]; simpa using hem, rfl⟩, by simp [tμ, wE, setS_int, setR_int, setI_int]; omega⟩
        have hx := tflat h1 hlt
        rw [h3] at hx
        simp only [List.nil_append, List.getD, show i + 1 - 1 = i by omega] at hx
        simp [-List.length_flatten, Eqns, Eqn.ok, wE, SI.den, SS.den, SP.den, setI_int, setI_rows, setI_str, setR_int, setR_rows, setR_str, setS_int, setS_rows, setS_str, preCells, RX.flat, RX.ok, AV.val, hx]
        repeat' apply And.intro
        all_goals first | exact mrows_ok T | omega | (intro xs hx; simpa [qrow, vstr] using mrows_get (by omega) hx)
      · refine ⟨ρ, ?_, rfl⟩
        simp [Eqns, Eqn.ok, wE, SI.den, SS.den, SP.den, setI_rows, setI_str, setR_rows, setR_str, setS_rows, setS_str]
    | 2, hi =>
      obtain ⟨i, h1, h2, h3, rfl⟩ := hi
      show OTok _ _ _ 2 _ wdo2
      simp only [wdo2, OTok]
      refine ⟨fun h => ⟨fun g => ?_, fun g => ?_⟩, fun h => ?_⟩
      · have hlt := wlt h
        have hem := wemp g
        have hx := tflat h1 hlt
        rw [hem, List.append_nil] at hx
        refine ⟨wE T ρ (i + 1), ?_, ⟨i + 1, by omega, by omega, by rw [hx]; exact h3, rfl⟩, by simp [tμ, wE, setS_int, setR_int, setI_int]; omega⟩
        simp only [show i + 1 - 1 = i by omega] at hx
        simp [-List.length_flatten, Eqns, Eqn.ok, wE, SI.den, SS.den, SP.den, setI_int, setI_rows, setI_str, setR_int, setR_rows, setR_str, setS_int, setS_rows, setS_str, preCells, RX.flat, RX.ok, AV.val, hx]
        repeat' apply And.intro
        all_goals first | exact mrows_ok T | omega | (intro xs hx; simpa [qrow, vstr] using mrows_get (by omega) hx)
      · have hlt := wlt h
        have hx := tflat h1 hlt
        refine ⟨wE T ρ (i + 1), ?_, ⟨i + 1, by omega, by omega, by rw [hx]; simp [h3], rfl⟩, by simp [tμ, wE, setS_int, setR_int, setI_int]; omega⟩
        simp only [List.getD, show i + 1 - 1 = i by omega] at hx
        simp [-List.length_flatten, Eqns, Eqn.ok, wE, SI.den, SS.den, SP.den, setI_int, setI_rows, setI_str, setR_int, setR_rows, setR_str, setS_int, setS_rows, setS_str, preCells, RX.flat, RX.ok, AV.val, hx, quoteL_app]
        repeat' apply And.intro
        all_goals first | exact mrows_ok T | omega | (intro xs hx; simpa [qrow, vstr] using mrows_get (by omega) hx)
      · refine ⟨ρ, ?_, rfl⟩
        simp [Eqns, Eqn.ok, wE, SI.den, SS.den, SP.den, setI_rows, setI_str, setR_rows, setR_str, setS_rows, setS_str]
end Go.Sx
