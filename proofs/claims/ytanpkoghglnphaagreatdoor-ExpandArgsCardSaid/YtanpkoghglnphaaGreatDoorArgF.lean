import Derived.Test.YtanpkoghglnphaaGreatDoorEnv
import Derived.Test.YtanpkoghglnphaaGreatDoorArgE
namespace Go.Sx
open Go.Proofs
set_option maxRecDepth 100000
/-! the arguments' world: one row that was handed in -/
def pl64 (b off cap : Nat) : Pl := pl0.with 64 ⟨b, off, cap⟩
theorem glob64 (b off cap : Nat) : Glob (pl64 b off cap) := fun g hg => by
  refine ⟨0, ?_⟩
  unfold pl64
  rw [Pl.with_ne _ _ (by omega)]
  simp [pl0, hg]
theorem fresh64 (b off cap : Nat) : ∀ i, 65 ≤ i → pl64 b off cap i = none := by
  intro i hi
  unfold pl64
  rw [Pl.with_ne _ _ (by omega)]
  simp [pl0]; omega
theorem pl64_at (b off cap : Nat) : pl64 b off cap 64 = some ⟨b, off, cap⟩ := Pl.with_same _ _ _
theorem lwn {n : Nat} {ρ : Env} {φ : Pl} {W : World} {l : List (Nat × ABlk)} (hg : Glob φ) (hf : ∀ i, n ≤ i → φ i = none) (hl : ∀ i b, (hpOf l n).t.get i = some b → b.owned = false ∧ ∃ L o, φ i = some L ∧ W.heap[L.blk]? = some o ∧ BR ρ φ L b o) : LWn n φ ρ l W :=
  ⟨⟨fun i b h => (hl i b h).2, (fun i j b c L M h1 h2 ho => by rw [(hl i b h1).1] at ho; cases ho), hf, (fun i b L h ho => by rw [(hl i b h).1] at ho; cases ho)⟩, hg, fun k ⟨id, c, L, h, ho, _⟩ => by rw [(hl id c h).1] at ho; cases ho⟩
theorem get_one {n k : Nat} {b : ABlk} {i : Nat} {c : ABlk} (h : (hpOf [(k, b)] n).t.get i = some c) : i = k ∧ c = b := by
  simp only [hpOf, List.foldr] at h
  rw [PT.get_set] at h
  split at h
  · cases h; exact ⟨by assumption, rfl⟩
  · cases h
theorem flat1 : ∀ l : List Value, (l.map fun v => [v]).flatten = l
  | [] => rfl
  | a :: l => by simp [flat1 l]
/-- a row of values that was handed in -/
theorem row_br {ρ : Env} {φ : Pl} {r : Nat} {vals : List Value} {b off cap ek e : Nat} {fz : Nat × Nat} {c : Array Value} {cs : List AV} (hR : ρ.rows r = vals.map fun v => [v]) (hone : ∀ v ∈ vals, v.oneCell' = true) (hcap : off + cap ≤ c.size) (hlen : vals.length ≤ cap)
    (hc : ∀ i, i < vals.length → c[off + i]? = vals[i]?) (hpk : ∀ v, vals[0]? = some v → VRs ρ φ cs [v]) : BR ρ φ ⟨b, off, cap⟩ (.rowv true r 1 (.lit 0) cs e) (.cells c ek fz) := by
  obtain ⟨lo, hi⟩ := fz
  have hfl : (vals.map fun v => [v]).flatten = vals := flat1 vals
  refine ⟨⟨ek, c, lo, hi, (c.toList.drop off).drop vals.length, rfl, .inl rfl, .inr ⟨rfl, hcap, ?_⟩, ?_⟩, ?_, by simp [SI.den], ?_⟩
  · rw [hR, hfl]; exact hlen
  · rw [hR, hfl]
    show c.toList.drop off = _
    have : (c.toList.drop off).take vals.length = vals := by
      apply List.ext_getElem?
      intro i
      by_cases hi : i < vals.length
      · rw [List.getElem?_take, if_pos hi, List.getElem?_drop, Array.getElem?_toList, hc i hi]
      · rw [List.getElem?_eq_none (by simp; omega), List.getElem?_eq_none (by omega)]
    conv => rhs; lhs; rw [← this]
    exact (List.take_append_drop _ _).symm
  · intro q hq
    rw [hR] at hq
    obtain ⟨v, hv, rfl⟩ := List.mem_map.1 hq
    exact ⟨rfl, fun x hx => by simp at hx; subst hx; exact hone _ hv⟩
  · intro xs hx
    rw [hR] at hx
    simp only [SI.den, Int.toNat_zero, List.getElem?_map, Option.map_eq_some_iff] at hx
    obtain ⟨v, hv, rfl⟩ := hx
    exact hpk v hv
/-- a row of texts -/
theorem row_strs {ρ : Env} {φ : Pl} {A : List (List UInt8)} {r k b off cap ek e : Nat} {fz : Nat × Nat} {c : Array Value} (hR : ρ.rows r = rows1 A) (hk : ρ.str k = A.getD 0 []) (hcap : off + cap ≤ c.size) (hA : A.length ≤ cap) (hc : ∀ i, i < A.length → c[off + i]? = some (vstr (A.getD i []))) :
    BR ρ φ ⟨b, off, cap⟩ (.rowv true r 1 (.lit 0) [.str [.var k]] e) (.cells c ek fz) := by
  refine row_br (vals := A.map vstr) (by rw [hR]; simp [rows1]) (fun v hv => ?_) hcap (by simpa using hA) (fun i hi => ?_) (fun v hv => ?_)
  · obtain ⟨a, _, rfl⟩ := List.mem_map.1 hv; rfl
  · simp only [List.length_map] at hi
    rw [hc i hi, List.getElem?_map, List.getElem?_eq_getElem hi]
    simp [List.getD, List.getElem?_eq_getElem hi]
  · refine VRs.cons ?_ VRs.nil
    simp only [List.getElem?_map, Option.map_eq_some_iff] at hv
    obtain ⟨a, ha, rfl⟩ := hv
    simp [VR, SS.den, SP.den, hk, List.getD, ha, vstr]
/-- a slice that was handed in: none, or some of a row of cells -/
def FormOf (W : World) (val : Nat → Value → Prop) (v : Value) : Prop :=
  v = .slice none 0 0 ∨ ∃ b off n cap c ek fz, v = .slice (some ⟨b, off, none⟩) n cap ∧ W.heap[b]? = some (.cells c ek fz) ∧ n ≤ cap ∧ (0 < cap → off + cap ≤ c.size) ∧ ∀ i, i < cap → ∃ x, c[off + i]? = some x ∧ val i x
theorem vr_rows {ρ : Env} {φ : Pl} {b off n cap id r : Nat} (hp : φ id = some ⟨b, off, cap⟩) (h : (ρ.rows r).length = n) (hl : n ≤ cap) : VR ρ φ (.slice id 0 (.rlen r) (.rest 1)) (.slice (some ⟨b, off, none⟩) n cap) := by
  simp only [VR, SI.den, h, Cap.val]
  exact ⟨⟨b, off, cap⟩, hp, by omega, by simpa using hl, by simp⟩
theorem vr_emp {ρ : Env} {φ : Pl} {b off cap id : Nat} (hp : φ id = some ⟨b, 0, off + cap⟩) : VR ρ φ (.eslice id 1) (.slice (some ⟨b, off, none⟩) 0 cap) := by
  simp only [VR]
  exact ⟨⟨b, 0, off + cap⟩, off, cap, hp, Nat.zero_le _, by simp, rfl⟩
theorem vr_nils {ρ : Env} {φ : Pl} : VR ρ φ .nilSlice (.slice none 0 0) := by simp only [VR]
theorem strsOf {ss : List (List UInt8)} {off n cap : Nat} {c : Array Value} (hn : n ≤ cap) (hc : ∀ i, i < cap → ∃ x, c[off + i]? = some x ∧ x = vstr (ss.getD i [])) : ∃ A : List (List UInt8), A.length = n ∧ ∀ i, i < A.length → c[off + i]? = some (vstr (A.getD i [])) := by
  refine ⟨(List.range n).map fun i => ss.getD i [], by simp, fun i hi => ?_⟩
  simp only [List.length_map, List.length_range] at hi
  obtain ⟨x, h1, rfl⟩ := hc i (by omega)
  rw [h1]
  simp [List.getD, List.getElem?_range hi]
theorem no_blocks {n : Nat} {ρ : Env} {φ : Pl} {W : World} : ∀ i b, (hpOf [] n).t.get i = some b → b.owned = false ∧ ∃ L o, φ i = some L ∧ W.heap[L.blk]? = some o ∧ BR ρ φ L b o := fun i b h => by cases h
end Go.Sx
namespace Go.Sx
open Go.Proofs
set_option maxRecDepth 100000
def laE (A : List (List UInt8)) (ifs : List UInt8) (i : Nat) : Env :=
  { int := fun j => if j = 0 then (i : Int) else if j = 1 then ((A.take i).flatten.length : Int) else if j = 21 then (A.flatten.length : Int) else 0,
    str := fun j => if j = 6 then ifs else if j = 9 then A.getD i [] else if j = 33 then quoteL (A.getD i []) else if j = 40 then A.getD 0 [] else if j = 41 then quoteL (A.getD 0 []) else if j = 74 then Lib.decDigits A.length else [],
    boo := fun _ => false,
    rows := fun j => if j = 10 then rows1 A else if j = 22 then rows1 (A.map quoteL) else if j = 21 then arR A else [] }
def laI (A : List (List UInt8)) (ifs : List UInt8) : Nat → Env → Prop
  | 0, ρ => ρ = laE A ifs 0
  | 1, ρ => ∃ i : Nat, 1 ≤ i ∧ i ≤ A.length ∧ ρ = laE A ifs i
  | 2, ρ => ∃ i : Nat, i ≤ A.length ∧ ρ = laE A ifs i
  | 3, ρ => ∃ i : Nat, 1 ≤ i ∧ i ≤ A.length ∧ ρ = laE A ifs i
  | 4, ρ => ∃ i : Nat, i ≤ A.length ∧ ρ = laE A ifs i
  | _, _ => False
def laμ (A : List (List UInt8)) : Nat → Env → Nat
  | 0, _ => 3 * A.length + 10
  | 1, ρ => 3 * A.length + 8 - (ρ.int 0).toNat
  | 2, _ => A.length + 5
  | 3, ρ => A.length + 2 - (ρ.int 0).toNat
  | _, _ => 0
theorem rows1_map {A : List (List UInt8)} {i : Nat} {xs : List Value} (h : (rows1 (A.map quoteL))[i]? = some xs) : xs = [vstr (quoteL (A.getD i []))] := by
  have := rows1_get h
  rw [this]
  simp only [List.getD, List.getElem?_map]
  cases A[i]? <;> rfl
theorem pk1 {A : List (List UInt8)} {i : Nat} : ∀ (xs : List Value), (rows1 A)[i]? = some xs → xs = [Value.string ⟨⟨A.getD i []⟩⟩] := fun xs h => rows1_get h
theorem pk2 {A : List (List UInt8)} {i : Nat} : ∀ (xs : List Value), (rows1 (A.map quoteL))[i]? = some xs → xs = [Value.string ⟨⟨quoteL (A.getD i [])⟩⟩] := fun xs h => rows1_map h
section
variable {A : List (List UInt8)} {ifs : List UInt8}
theorem la_len (h : A ≠ []) : 1 ≤ A.length := List.length_pos_iff.2 h
theorem LRof (hne : A ≠ []) (hl : A.length ≤ 63) (hs : A.flatten.length ≤ 3000) (i : Nat) : LR A (laE A ifs i) :=
  ⟨hne, hl, hs, rfl, rfl, rfl, rfl⟩
theorem la_ctx (hne : A ≠ []) (hl : A.length ≤ 63) (hs : A.flatten.length ≤ 3000) (i : Nat) : CtxOK laC Tryz.prog (laE A ifs i) := by
  have g1 := aget_le A i
  have g0 := aget_le A 0
  have hr : ((laE A ifs i).rows 10).length = A.length := rows1_lth A
  refine ctx18 (orcs_cons (wa_ok (LRof hne hl hs i) rfl ?_ rfl (by simp [laE])) orcs_nil) (pors_cons sh_ok (pors_cons (por_pl (a := 41) (b := 40) rfl (by show (A.getD 0 []).length ≤ _; omega)) (pors_cons (por_pl (a := 33) (b := 9) rfl (by show (A.getD i []).length ≤ _; omega)) (pors_cons (por_ha (a := 41) (b := 40) rfl (by show (A.getD 0 []).length ≤ _; omega)) (pors_cons (por_ha (a := 33) (b := 9) rfl (by show (A.getD i []).length ≤ _; omega)) (pors_cons at_ok (pors_cons (it_ok (by rw [hr]; omega) (by rw [hr]; rfl)) (pors_cons (di_ok (by rw [hr]; omega) (by rw [hr]; rfl)) pors_nil))))))))
  show quoteL (A.getD 0 []) = (A.map quoteL).getD 0 []
  cases A <;> rfl
theorem la_law {φ : Pl} {W : World} {xs : List Value} (hne : A ≠ []) (hl : A.length ≤ 63) (hs : A.flatten.length ≤ 3000) (hw : LWn 65 φ (laE A ifs 0) [(64, .rowv true 10 1 (.lit 0) [.str [.var 40]] 9)] W)
    (ha : VRs (laE A ifs 0) φ [.slice 64 0 (.rlen 10) (.rest 1), .str [.var 6]] xs) : Calls Tryz.prog 9 ⟨xs⟩ W fun e W' => e = .returned (.bool true) ∧ Kept W W' := by
  have l1 := la_len hne
  have ar := arR_len A hne
  have dd := dd_len (u := A.length) (by omega)
  have rk := rows1_ok A
  have rk2 := rows1_ok (A.map quoteL)
  refine law_ofn (G := laG) (C := laC) (I := laI A ifs) (μ := laμ A) ?_ ?_ ?_ ?_ rfl rfl rfl last hw ha
  · intro k ρ hi
    match k, hi with
    | 0, hi => replace hi : ρ = laE A ifs 0 := hi; subst hi; exact la_ctx hne hl hs 0
    | 1, hi => obtain ⟨i, _, _, rfl⟩ := hi; exact la_ctx hne hl hs i
    | 2, hi => obtain ⟨i, _, rfl⟩ := hi; exact la_ctx hne hl hs i
    | 3, hi => obtain ⟨i, _, _, rfl⟩ := hi; exact la_ctx hne hl hs i
    | 4, hi => obtain ⟨i, _, rfl⟩ := hi; exact la_ctx hne hl hs i
  · intro k ρ hi
    have g0 := aget_le A 0
    obtain ⟨y, hy⟩ : ∃ y, y = A.getD 0 [] := ⟨_, rfl⟩
    rw [← hy] at g0
    match k, hi with
    | 0, hi =>
      replace hi : ρ = laE A ifs 0 := hi; subst hi
      rw [laf0]
      intro p hp
      simp only [List.mem_cons, List.not_mem_nil, or_false] at hp
      rcases hp with rfl | rfl | rfl | rfl | rfl | rfl | rfl | rfl | rfl | rfl <;> simp [-List.length_flatten, -List.getD_eq_getElem?_getD, SB.den, SI.den, intCmp, ltInt_iff, eqInt_iff, laE, rows1_lth, ← hy] <;> omega
    | 1, hi =>
      obtain ⟨i, h1, h2, rfl⟩ := hi
      rw [laf1]
      have g1 := aget_le A i
      obtain ⟨x, hx⟩ : ∃ x, x = A.getD i [] := ⟨_, rfl⟩
      rw [← hx] at g1
      intro p hp
      simp only [List.mem_cons, List.not_mem_nil, or_false] at hp
      rcases hp with rfl | rfl | rfl | rfl | rfl | rfl | rfl | rfl | rfl | rfl | rfl | rfl | rfl | rfl <;> simp [-List.length_flatten, -List.getD_eq_getElem?_getD, SB.den, SI.den, intCmp, ltInt_iff, eqInt_iff, laE, rows1_lth, ← hy, ← hx] <;> omega
    | 2, hi =>
      obtain ⟨i, h2, rfl⟩ := hi
      rw [laf2]
      intro p hp
      simp only [List.mem_cons, List.not_mem_nil, or_false] at hp
      rcases hp with rfl | rfl | rfl | rfl | rfl | rfl | rfl | rfl | rfl | rfl <;> simp [-List.length_flatten, -List.getD_eq_getElem?_getD, SB.den, SI.den, intCmp, ltInt_iff, eqInt_iff, laE, rows1_lth, ← hy] <;> omega
    | 3, hi =>
      obtain ⟨i, h1, h2, rfl⟩ := hi
      rw [laf3]
      intro p hp
      simp only [List.mem_cons, List.not_mem_nil, or_false] at hp
      rcases hp with rfl | rfl | rfl | rfl | rfl | rfl | rfl | rfl | rfl | rfl | rfl | rfl <;> simp [-List.length_flatten, -List.getD_eq_getElem?_getD, SB.den, SI.den, intCmp, ltInt_iff, eqInt_iff, laE, rows1_lth, ← hy] <;> omega
    | 4, hi =>
      obtain ⟨i, h2, rfl⟩ := hi
      rw [laf4]
      intro p hp
      simp only [List.mem_cons, List.not_mem_nil, or_false] at hp
      rcases hp with rfl | rfl | rfl | rfl | rfl | rfl | rfl | rfl | rfl | rfl <;> simp [-List.length_flatten, -List.getD_eq_getElem?_getD, SB.den, SI.den, intCmp, ltInt_iff, eqInt_iff, laE, rows1_lth, ← hy] <;> omega
  · intro k ρ hi
    match k, hi with
    | 0, _ => exact laat0
    | 1, _ => exact laat1
    | 2, _ => exact laat2
    | 3, _ => exact laat3
    | 4, _ => exact laat4
  · intro k ρ hi
    match k, hi with
    | 0, hi =>
      replace hi : ρ = laE A ifs 0 := hi
      subst hi
      show OTok _ _ _ 0 _ lao0
      simp only [lao0, OTok]
      refine ⟨laE A ifs 1, ?_, ⟨1, by omega, l1, rfl⟩, by simp [laμ, laE]⟩
      have e1 : (A.take 1).flatten.length = (A.getD 0 []).length := by cases A <;> simp
      simp [-List.length_flatten, -List.getD_eq_getElem?_getD, Eqns, Eqn.ok, laE, SI.den, SS.den, SP.den, preCells, RX.flat, RX.ok, AV.val, vstr, e1]
      repeat' apply And.intro
      all_goals first | exact rk | exact rk2 | exact pk1 | exact pk2 | omega
    | 1, hi =>
      obtain ⟨i, h1, h2, rfl⟩ := hi
      show OTok _ _ _ 1 _ lao1
      simp only [lao1, OTok]
      refine ⟨fun h => ?_, fun h => ?_⟩
      · have hlt : i < A.length := by
          simp [SB.den, SI.den, intCmp, ltInt_iff, laE, rows1_lth] at h; omega
        have e1 : (A.take (i + 1)).flatten.length = (A.take i).flatten.length + (A.getD i []).length := by rw [atake_getD hlt]; simp
        refine ⟨laE A ifs (i + 1), ?_, ⟨i + 1, by omega, by omega, rfl⟩, by simp [laμ, laE] <;> omega⟩
        simp [-List.length_flatten, -List.getD_eq_getElem?_getD, Eqns, Eqn.ok, laE, SI.den, SS.den, SP.den, preCells, RX.flat, RX.ok, AV.val, vstr, e1]
        repeat' apply And.intro
        all_goals first | exact rk | exact rk2 | exact pk1 | exact pk2 | omega
      · refine ⟨laE A ifs i, ?_, ⟨i, h2, rfl⟩, by simp [laμ, laE] <;> omega⟩
        simp [-List.length_flatten, -List.getD_eq_getElem?_getD, Eqns, Eqn.ok, laE, SI.den, SS.den, SP.den, preCells, RX.flat, RX.ok, AV.val, vstr]
        repeat' apply And.intro
        all_goals first | exact rk | exact rk2 | exact pk1 | exact pk2 | omega
    | 2, hi =>
      obtain ⟨i, h2, rfl⟩ := hi
      show OTok _ _ _ 2 _ lao2
      simp only [lao2, OTok]
      refine ⟨fun h => ⟨laE A ifs i, eqns_nl, trivial⟩, fun h => ?_⟩
      refine ⟨laE A ifs 1, ?_, ⟨1, by omega, l1, rfl⟩, by simp [laμ, laE] <;> omega⟩
      simp [-List.length_flatten, -List.getD_eq_getElem?_getD, Eqns, Eqn.ok, laE, SI.den, SS.den, SP.den, preCells, RX.flat, RX.ok, AV.val, vstr]
      repeat' apply And.intro
      all_goals first | exact rk | exact rk2 | exact pk1 | exact pk2 | omega
    | 3, hi =>
      obtain ⟨i, h1, h2, rfl⟩ := hi
      show OTok _ _ _ 3 _ lao3
      simp only [lao3, OTok]
      refine ⟨fun h => ?_, fun h => ?_⟩
      · have hlt : i < A.length := by
          simp [SB.den, SI.den, intCmp, ltInt_iff, laE, rows1_lth] at h; omega
        refine ⟨laE A ifs (i + 1), ?_, ⟨i + 1, by omega, by omega, rfl⟩, by simp [laμ, laE] <;> omega⟩
        simp [-List.length_flatten, -List.getD_eq_getElem?_getD, Eqns, Eqn.ok, laE, SI.den, SS.den, SP.den, preCells, RX.flat, RX.ok, AV.val, vstr]
        repeat' apply And.intro
        all_goals first | exact rk | exact rk2 | exact pk1 | exact pk2 | omega
      · refine ⟨laE A ifs i, ?_, ⟨i, h2, rfl⟩, by simp [laμ, laE] <;> omega⟩
        simp [-List.length_flatten, -List.getD_eq_getElem?_getD, Eqns, Eqn.ok, laE, SI.den, SS.den, SP.den, preCells, RX.flat, RX.ok, AV.val, vstr]
        repeat' apply And.intro
        all_goals first | exact rk | exact rk2 | exact pk1 | exact pk2 | omega
    | 4, hi =>
      obtain ⟨i, h2, rfl⟩ := hi
      show OTok _ _ _ 4 _ lao4
      simp only [lao4, OTok]
      refine ⟨fun h => ⟨laE A ifs i, ?_, trivial⟩, fun h => ⟨laE A ifs i, eqns_nl, trivial⟩⟩
      intro e he
      rcases List.mem_singleton.1 he with rfl
      show SB.den _ (.lit true) = _
      rw [h]; rfl
def lbE (A : List (List UInt8)) (ifs : List UInt8) (i : Nat) : Env :=
  { int := fun j => if j = 0 then (i : Int) else if j = 1 then ((A.take i).flatten.length : Int) else 0,
    str := fun j => if j = 6 then ifs else if j = 9 then A.getD i [] else if j = 40 then A.getD 0 [] else [],
    boo := fun _ => false,
    rows := fun j => if j = 10 then rows1 A else [] }
end
end Go.Sx
namespace Go.Sx
open Go.Proofs
set_option maxRecDepth 100000
def lbI (A : List (List UInt8)) (ifs : List UInt8) : Nat → Env → Prop
  | 0, ρ => ρ = lbE A ifs 0
  | 1, ρ => ∃ i : Nat, 1 ≤ i ∧ i ≤ A.length ∧ i ≤ 63 ∧ (A.take i).flatten.length ≤ 3000 ∧ ρ = lbE A ifs i
  | _, _ => False
def lbμ (A : List (List UInt8)) : Nat → Env → Nat
  | 0, _ => A.length + 2
  | _, ρ => A.length + 1 - (ρ.int 0).toNat
section
variable {A : List (List UInt8)} {ifs : List UInt8}
theorem lb_law {φ : Pl} {W : World} {xs : List Value} (hne : A ≠ []) (hbad : ¬ (A.length ≤ 63 ∧ A.flatten.length ≤ 3000)) (hw : LWn 65 φ (lbE A ifs 0) [(64, .rowv true 10 1 (.lit 0) [.str [.var 40]] 9)] W)
    (ha : VRs (lbE A ifs 0) φ [.slice 64 0 (.rlen 10) (.rest 1), .str [.var 6]] xs) : Calls Tryz.prog 9 ⟨xs⟩ W fun e W' => e = .returned (.bool true) ∧ Kept W W' := by
  have l1 := la_len hne
  have rk := rows1_ok A
  refine law_ofn (G := lbG) (C := lbC) (I := lbI A ifs) (μ := lbμ A) (fun _ _ _ => ctx18 orcs_nil (pors_cons sh_ok pors_nil)) ?_ ?_ ?_ rfl rfl rfl lbst hw ha
  · intro k ρ hi
    match k, hi with
    | 0, hi =>
      replace hi : ρ = lbE A ifs 0 := hi; subst hi
      rw [lbf0]; intro p hp
      simp only [List.mem_cons, List.not_mem_nil, or_false] at hp
      rcases hp with rfl <;> simp [SB.den, SI.den, intCmp, ltInt_iff, lbE, rows1_lth] <;> omega
    | 1, hi =>
      obtain ⟨i, h1, h2, h3, h4, rfl⟩ := hi
      rw [lbf1]; intro p hp
      simp only [List.mem_cons, List.not_mem_nil, or_false] at hp
      rcases hp with rfl | rfl | rfl | rfl | rfl <;> simp [-List.length_flatten, SB.den, SI.den, intCmp, ltInt_iff, lbE, rows1_lth] <;> omega
  · intro k ρ hi
    match k, hi with
    | 0, _ => exact lbat0
    | 1, _ => exact lbat1
  · intro k ρ hi
    match k, hi with
    | 0, hi =>
      replace hi : ρ = lbE A ifs 0 := hi
      subst hi
      show OTok _ _ _ 0 _ lbo0
      simp only [lbo0, OTok]
      refine ⟨fun _ => ⟨lbE A ifs 0, eqns_nl, trivial⟩, fun g => ⟨fun _ => ⟨lbE A ifs 0, eqns_nl, trivial⟩, fun h => ?_⟩⟩
      have e1 : (A.take 1).flatten.length = (A.getD 0 []).length := by cases A <;> simp
      have hh : (A.getD 0 []).length ≤ 3000 := by
        simp [-List.getD_eq_getElem?_getD, SB.den, SI.den, intCmp, ltInt_iff, lbE] at h; omega
      refine ⟨lbE A ifs 1, ?_, ⟨1, by omega, l1, by omega, by omega, rfl⟩, by simp [lbμ, lbE]⟩
      simp [-List.length_flatten, -List.getD_eq_getElem?_getD, Eqns, Eqn.ok, lbE, SI.den, SS.den, SP.den, preCells, RX.flat, RX.ok, AV.val, e1]
      repeat' apply And.intro
      all_goals first | exact rk | exact pk1 | omega
    | 1, hi =>
      obtain ⟨i, h1, h2, h3, h4, rfl⟩ := hi
      show OTok _ _ _ 1 _ lbo1
      simp only [lbo1, OTok]
      refine ⟨fun h => ⟨fun _ => ⟨lbE A ifs i, eqns_nl, trivial⟩, fun _ => ⟨fun _ => ⟨lbE A ifs i, eqns_nl, trivial⟩, fun g => ⟨fun _ => ⟨lbE A ifs i, eqns_nl, trivial⟩, fun g2 => ?_⟩⟩⟩, fun h => ?_⟩
      · have hlt : i < A.length := by
          simp [SB.den, SI.den, intCmp, ltInt_iff, lbE, rows1_lth] at h; omega
        have e1 : (A.take (i + 1)).flatten.length = (A.take i).flatten.length + (A.getD i []).length := by rw [atake_getD hlt]; simp
        have hh : (A.take (i + 1)).flatten.length ≤ 3000 := by
          rw [e1]
          simp [-List.length_flatten, -List.getD_eq_getElem?_getD, SB.den, SI.den, intCmp, ltInt_iff, lbE] at g; omega
        have hi3 : i < 63 := by
          simp [SB.den, SI.den, intCmp, ltInt_iff, lbE] at g2; omega
        refine ⟨lbE A ifs (i + 1), ?_, ⟨i + 1, by omega, by omega, by omega, hh, rfl⟩, by simp [lbμ, lbE]; omega⟩
        simp [-List.length_flatten, -List.getD_eq_getElem?_getD, Eqns, Eqn.ok, lbE, SI.den, SS.den, SP.den, preCells, RX.flat, RX.ok, AV.val, e1]
        repeat' apply And.intro
        all_goals first | exact rk | exact pk1 | omega
      · have hlt : i = A.length := by
          simp [SB.den, SI.den, intCmp, ltInt_iff, lbE, rows1_lth] at h; omega
        rw [hlt, List.take_length] at h4
        exact hbad ⟨by omega, h4⟩
end
theorem lan_law {φ : Pl} {W : World} {xs : List Value} {ρ : Env} (hw : LWn 65 φ ρ [] W) (ha : VRs ρ φ [.nilSlice, .str [.var 6]] xs) : Calls Tryz.prog 9 ⟨xs⟩ W fun e W' => e = .returned (.bool true) ∧ Kept W W' := by
  refine law_ofn (G := lanG) (C := lanC) (I := fun k ρ' => k = 0 ∧ ρ' = ρ) (μ := fun _ _ => 0) (fun _ _ _ => ctx18 orcs_nil (pors_cons sh_ok (pors_cons at_ok pors_nil))) ?_ ?_ ?_ ⟨rfl, rfl⟩ rfl rfl lanst hw ha
  · rintro k ρ' ⟨rfl, rfl⟩
    rw [lanf0]
    intro p hp; cases hp
  · rintro k ρ' ⟨rfl, rfl⟩; exact lanat0
  · rintro k ρ' ⟨rfl, rfl⟩
    show OTok _ _ _ 0 ρ' lano0
    simp only [lano0, OTok]
    exact ⟨fun _ => ⟨ρ', eqns_nl, trivial⟩, fun _ => ⟨ρ', eqns_nl, trivial⟩⟩
theorem lae_law {φ : Pl} {W : World} {xs : List Value} {ρ : Env} (hw : LWn 65 φ ρ [] W) (ha : VRs ρ φ [.eslice 64 1, .str [.var 6]] xs) : Calls Tryz.prog 9 ⟨xs⟩ W fun e W' => e = .returned (.bool true) ∧ Kept W W' := by
  refine law_ofn (G := laeG) (C := laeC) (I := fun k ρ' => k = 0 ∧ ρ' = ρ) (μ := fun _ _ => 0) (fun _ _ _ => ctx18 orcs_nil (pors_cons sh_ok (pors_cons at_ok pors_nil))) ?_ ?_ ?_ ⟨rfl, rfl⟩ rfl rfl laest hw ha
  · rintro k ρ' ⟨rfl, rfl⟩
    rw [laef0]
    intro p hp; cases hp
  · rintro k ρ' ⟨rfl, rfl⟩; exact laeat0
  · rintro k ρ' ⟨rfl, rfl⟩
    show OTok _ _ _ 0 ρ' laeo0
    simp only [laeo0, OTok]
    exact ⟨fun _ => ⟨ρ', eqns_nl, trivial⟩, fun _ => ⟨ρ', eqns_nl, trivial⟩⟩
theorem vr_s6 {ρ : Env} {φ : Pl} {s : ByteArray} {k : Nat} (h : ρ.str k = s.data.toList) : VR ρ φ (.str [.var k]) (.string s) := by
  simp only [VR, SS.den, SP.den, List.append_nil, h]
theorem args_ok {W : World} {ss : List (List UInt8)} {v0 : Value} (s : ByteArray) (h0 : FormOf W (fun i x => x = vstr (ss.getD i [])) v0) :
    Calls Tryz.prog 9 #[v0, .string s] W fun e W' => e = .returned (.bool true) ∧ Kept W W' := by
  rcases h0 with rfl | ⟨b, off, n, cap, c, ek, fz, rfl, hb, hn, hcap, hc⟩
  · exact lan_law (ρ := laE [] s.data.toList 0) (lwn (glob64 0 0 0) (fresh64 0 0 0) no_blocks) (VRs.cons vr_nils (VRs.cons (vr_s6 rfl) VRs.nil))
  · by_cases hz : n = 0
    · subst hz
      exact lae_law (ρ := laE [] s.data.toList 0) (lwn (glob64 b 0 (off + cap)) (fresh64 b 0 (off + cap)) no_blocks) (VRs.cons (vr_emp (pl64_at _ _ _)) (VRs.cons (vr_s6 rfl) VRs.nil))
    · obtain ⟨A, hAl, hA⟩ := strsOf hn hc
      have hne : A ≠ [] := by rintro rfl; exact hz hAl.symm
      by_cases hg : A.length ≤ 63 ∧ A.flatten.length ≤ 3000
      · refine la_law (ifs := s.data.toList) hne hg.1 hg.2 (lwn (glob64 b off cap) (fresh64 b off cap) (fun i d h => ?_)) (VRs.cons (vr_rows (pl64_at _ _ _) (by rw [← hAl]; exact rows1_lth A) hn) (VRs.cons (vr_s6 rfl) VRs.nil))
        obtain ⟨rfl, rfl⟩ := get_one h
        exact ⟨rfl, _, _, pl64_at _ _ _, hb, row_strs rfl rfl (hcap (by omega)) (by omega) hA⟩
      · refine lb_law (A := A) (ifs := s.data.toList) hne hg (lwn (glob64 b off cap) (fresh64 b off cap) (fun i d h => ?_)) (VRs.cons (vr_rows (pl64_at _ _ _) (by rw [← hAl]; exact rows1_lth A) hn) (VRs.cons (vr_s6 rfl) VRs.nil))
        obtain ⟨rfl, rfl⟩ := get_one h
        exact ⟨rfl, _, _, pl64_at _ _ _, hb, row_strs rfl rfl (hcap (by omega)) (by omega) hA⟩
end Go.Sx
