import Derived.Test.YtanpkoghglnphaaGreatDoorShelf
import Derived.Test.YtanpkoghglnphaaGreatDoorSuA
import Derived.Lib.ItoaNum
import Derived.Test.YtanpkoghglnphaaGreatDoorSuB
namespace Go.Sx
open Go.Proofs Go.RowKit
set_option maxRecDepth 100000
theorem tab_is {ρ : Env} {φ : Pl} {w : World} {n : Nat} (hw : WR ρ φ (heapOf' [tabB] n) w) (hG : Glob φ) : Lib.TabIs Tryz.prog w "internal/strconv.uint64pow10" .u64 Lib.pow10Tab := by
  obtain ⟨L, o, hL, ho, hbr⟩ := hw.blk 1 tabB.2 rfl
  rw [hG 1 (by omega)] at hL
  cases hL
  obtain ⟨ek, c, lo, hi, xs, rest, rfl, _, hsz, hdrop, hvs, _⟩ := hbr
  have hx : xs = Lib.pow10Tab.map fun z => Value.int .u64 z := vals_of rfl hvs
  have h20 : c.size = 20 := by
    rcases hsz with h | ⟨_, _, _, h⟩
    · simpa using h
    · exact absurd rfl h
  have hl : c.toList = xs ++ rest := by simpa [preCells] using hdrop
  have hr : rest = [] := by
    have := congrArg List.length hl
    rw [List.length_append, hx, List.length_map] at this
    have h2 : Lib.pow10Tab.length = 20 := rfl
    simp only [Array.length_toList, h20, h2] at this
    exact List.length_eq_zero_iff.1 (by omega)
  rw [hr, List.append_nil, hx] at hl
  unfold Lib.TabIs World.var?
  have hg : Tryz.prog.globalNamed "internal/strconv.uint64pow10" = some 1 := by kernel_rfl
  have ho : w.heap[1]? = some (.cells c ek (lo, hi)) := ho
  rw [hg, Option.bind_some, ho]
  show some c = _
  rw [← hl]
theorem por_fi {ρ : Env} {x : SI} {i : Nat} (h0 : -9223372036854775808 ≤ x.den ρ) (h1 : x.den ρ ≤ 9223372036854775807) (hs : ρ.str i = Lib.itoa (x.den ρ)) : POrcOK Tryz.prog ρ { facts := [], f := 116, args := [.int .i64 x, .int .i64 (.lit 10)], pre := [tabB], v := .str [.var i] } := by
  intro φ w xs n hw hG _ hxs
  obtain ⟨y, xs, rfl, hy, hxs⟩ := VRs.cons_left hxs
  obtain ⟨z, xs, rfl, hz, hxs⟩ := VRs.cons_left hxs
  have := VRs.nil_left hxs; subst this
  simp only [VR, SI.den] at hy hz
  subst hy hz
  refine (Tryz.strconv_FormatInt_10 (x.den ρ) h0 h1 w (tab_is hw hG)).mono ?_
  rintro e w' ⟨he, k, os, rfl⟩
  refine ⟨_, he, ?_, fun b hb => ?_, ⟨rfl, rfl⟩, ?_⟩
  · simp only [VR, SS.den, SP.den, List.append_nil, hs]
  · show (w.heap ++ os)[b]? = w.heap[b]?
    rw [Array.getElem?_append_left hb]
  · show w.heap.size ≤ (w.heap ++ os).size
    rw [Array.size_append]; omega
end Go.Sx
namespace Go.Sx
open Go.Proofs
set_option maxRecDepth 100000
/-! arith.Value of "x = a + b": the letters -/
def vaE (p : List UInt8) (c : UInt8) (t : List UInt8) (ρ : Env) : Env := ((ρ.setS 40 p).setS 54 [c]).setS 42 t
structure VaC (na nb : Nat) (a b : Bool) (ρ : Env) : Prop where
  ba : na ≤ 9223372036854775808
  bb : nb ≤ 9223372036854775808
  s30 : ρ.str 30 = Lib.decDigits na
  s31 : ρ.str 31 = Lib.decDigits nb
  i34 : ρ.int 34 = IntKind.wrap .i64 na
  i35 : ρ.int 35 = IntKind.wrap .i64 nb
  s37 : ρ.str 37 = Lib.itoa ((sumE a b).den ρ)
theorem sumE_den {a b : Bool} {ρ ρ' : Env} (h1 : ρ.int 34 = ρ'.int 34) (h2 : ρ.int 35 = ρ'.int 35) : (sumE a b).den ρ = (sumE a b).den ρ' := by
  cases a <;> cases b <;> simp [sumE, numA, SI.den, h1, h2]
theorem VaC.toE {na nb : Nat} {a b : Bool} {ρ : Env} (h : VaC na nb a b ρ) (p : List UInt8) (c : UInt8) (t : List UInt8) : VaC na nb a b (vaE p c t ρ) :=
  ⟨h.ba, h.bb, h.s30, h.s31, h.i34, h.i35, h.s37.trans (congrArg Lib.itoa (sumE_den rfl rfl))⟩
theorem wrap64 (n : Int) : -9223372036854775808 ≤ IntKind.wrap .i64 n ∧ IntKind.wrap .i64 n ≤ 9223372036854775807 := by
  simp [IntKind.wrap, IntKind.signed, IntKind.bits]; omega
theorem dd_head (n : Nat) (h : n ≤ 9223372036854775808) : ∃ d r, Lib.decDigits n = d :: r ∧ isDig d ∧ r.length ≤ 19 := by
  obtain ⟨h1, h2⟩ := dd_len (u := n) (by omega)
  cases e : Lib.decDigits n with
  | nil => rw [e] at h1; simp at h1
  | cons d r =>
    rw [e] at h2
    exact ⟨d, r, rfl, (dd_all n).1 d (by rw [e]; simp), by simp only [List.length_cons] at h2; omega⟩
theorem sM_len (b : Bool) : (sM b).length ≤ 4 := by cases b <;> simp [sM]
theorem va_pors {na nb : Nat} {a b : Bool} {ρ : Env} (h : VaC na nb a b ρ) : ∀ x ∈ tls b ++ [p_c0, p_c1, p_fi a b], POrcOK Tryz.prog ρ x := by
  obtain ⟨d, r, e, hd, hr⟩ := dd_head na h.ba
  obtain ⟨d2, r2, e2, hd2, hr2⟩ := dd_head nb h.bb
  have hM := sM_len b
  have e := h.s30.trans e
  have e2 := h.s31.trans e2
  intro x hx
  simp only [tls, List.cons_append, List.nil_append, List.mem_cons, List.not_mem_nil, or_false] at hx
  have l1 : (r ++ (sM b ++ (d2 :: r2))).length ≤ 1000 := by simp only [List.length_append, List.length_cons]; omega
  rcases hx with rfl | rfl | rfl | rfl | rfl | rfl | rfl
  · exact por_tl hd.1 hd.2 l1 (.inr (by simp [SS.den, SP.den, e, e2])) (by simp [SS.den, SP.den, e, e2])
  · exact por_tl hd.1 hd.2 l1 (.inl (by simp [SS.den, SP.den, e, e2])) (by simp [SS.den, SP.den, e, e2])
  · exact por_tl hd2.1 hd2.2 (r := r2) (by omega) (.inr (by simp [SS.den, SP.den, e2])) (by simp [SS.den, SP.den, e2])
  · exact por_tl hd2.1 hd2.2 (r := r2) (by omega) (.inl (by simp [SS.den, SP.den, e2])) (by simp [SS.den, SP.den, e2])
  · exact por_c h.ba h.s30 h.i34
  · exact por_c h.bb h.s31 h.i35
  · exact por_fi (wrap64 _).1 (wrap64 _).2 h.s37
theorem or32 {n : Nat} (h1 : 48 ≤ n) (h2 : n ≤ 57) : (intBin .or .u8 (n : Int) 32).getD 0 < 97 := by
  have : n = 48 ∨ n = 49 ∨ n = 50 ∨ n = 51 ∨ n = 52 ∨ n = 53 ∨ n = 54 ∨ n = 55 ∨ n = 56 ∨ n = 57 := by omega
  rcases this with rfl | rfl | rfl | rfl | rfl | rfl | rfl | rfl | rfl | rfl <;> decide
theorem dfa_ok {ρ : Env} {x n : Nat} (h : n ≤ 9223372036854775808) (hx : ρ.str x = Lib.decDigits n) : (dfa x).ok ρ := by
  obtain ⟨d, r, e, ⟨hd, hd'⟩, hr⟩ := dd_head n h
  rw [e] at hx
  have h9 := or32 hd hd'
  intro p hp
  simp only [dfa, List.mem_cons, List.not_mem_nil, or_false] at hp
  rcases hp with rfl | rfl | rfl | rfl | rfl <;> simp [SB.den, SI.den, intCmp, ltInt_iff, hx] <;> omega
theorem facts_app {F G : Facts} {ρ : Env} (h : F.ok ρ) (h' : G.ok ρ) : Facts.ok ρ (F ++ G) := fun p hp => by
  rcases List.mem_append.1 hp with hp | hp
  · exact h p hp
  · exact h' p hp
theorem fD_ok {na nb : Nat} {a b : Bool} {ρ : Env} (h : VaC na nb a b ρ) : fD.ok ρ := facts_app (dfa_ok h.ba h.s30) (dfa_ok h.bb h.s31)
theorem fL_ok {na nb n : Nat} {a b : Bool} {ρ : Env} (h : VaC na nb a b ρ) (hn : n ≤ 9223372036854775808) {p : List UInt8} {c : UInt8} {t : List UInt8} (hp : p ≠ []) (e : Lib.decDigits n = p ++ c :: t) : fL.ok (vaE p c t ρ) := by
  refine facts_app (fD_ok (h.toE p c t)) fun q hq => ?_
  obtain ⟨hd, hd'⟩ := (dd_all n).1 c (by rw [e]; simp)
  have h9 := or32 hd hd'
  have hl := dd_len (u := n) (by omega)
  rw [e, List.length_append, List.length_cons] at hl
  have hp := List.length_pos_iff.2 hp
  have e40 : (vaE p c t ρ).str 40 = p := rfl
  have e54 : (vaE p c t ρ).str 54 = [c] := rfl
  have e42 : (vaE p c t ρ).str 42 = t := rfl
  simp only [List.mem_cons, List.not_mem_nil, or_false] at hq
  rcases hq with rfl | rfl | rfl | rfl | rfl | rfl <;> simp [SB.den, SI.den, intCmp, ltInt_iff, e40, e54, e42] <;> omega
/-- the place of the reader in a number -/
def vaL (ρ : Env) (x : Nat) (ρ' : Env) : Prop := ∃ p c t, ρ.str x = p ++ c :: t ∧ p ≠ [] ∧ ρ' = vaE p c t ρ
noncomputable def vaPost : List (Nat × ABlk) := [tabB, (85, .cells false none [.str [.lit [120]], .str [.var 37], .bool (.lit false), .bool (.lit false)] 61)]
noncomputable def vaO (a b : Bool) : Orc := { facts := [], f := 114, args := vaArgs a b, pre := vaHp, next := 85, v := .tup [.int .i64 (sumE a b), .slice 85 0 (.lit 1) (.rest 4), .int .i64 (.lit 0)], post := vaPost, next' := 86 }
end Go.Sx
