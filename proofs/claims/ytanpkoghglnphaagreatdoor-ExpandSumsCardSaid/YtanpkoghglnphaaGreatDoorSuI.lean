import Derived.Test.YtanpkoghglnphaaGreatDoorSuH
import Derived.Test.YtanpkoghglnphaaGreatDoorEnv
namespace Go.Sx
open Go.Proofs
set_option maxRecDepth 100000
/-! ExpandSums: the known calls -/
noncomputable def p_da : POrc := { facts := [], f := 17, args := [.int .i64 (.var 91)], pre := [], v := .str [.var 32] }
noncomputable def p_db : POrc := { facts := [], f := 17, args := [.int .i64 (.var 92)], pre := [], v := .str [.var 33] }
noncomputable def p_ds : POrc := { facts := [], f := 17, args := [.int .i64 (.wrap .i64 (.add (.var 91) (.var 92)))], pre := [], v := .str [.var 37] }
noncomputable def sumW : SS := [.lit [36, 40, 40, 120, 32, 61, 32], .var 32, .lit [32, 43, 32], .var 33, .lit [41, 41]]
noncomputable def sumI : SS := [.lit [120, 32, 61, 32], .var 32, .lit [32, 43, 32], .var 33]
noncomputable def p_sp : POrc := { facts := [], f := 66, args := [.str sumW, .bool (.lit false)], pre := [], v := .int .i64 (.add (.lit 7) (.add (.slen 32) (.add (.lit 3) (.add (.slen 33) (.lit 2))))) }
noncomputable def p_f8 : POrc := { facts := [], f := 116, args := [.int .i64 (.var 38), .int .i64 (.lit 10)], pre := [tabB], v := .str [.var 37] }
noncomputable def withCs (m : AM) (cs : List AFr) : AM := match m with | ⟨fr, _, h, F⟩ => ⟨fr, cs, h, F⟩
noncomputable def o_wq : Orc := wqO sumI
def sIn (x y : Int) : List UInt8 := [120, 32, 61, 32] ++ (Lib.itoa x ++ ([32, 43, 32] ++ Lib.itoa y))
/-- the letters of the law -/
def suE (x y : Int) : Env :=
  { int := fun i => if i = 91 then x else if i = 92 then y else if i = 1 then (sIn x y).length else if i = 77 then 1 else if i = 34 then IntKind.wrap .i64 x.natAbs else if i = 35 then IntKind.wrap .i64 y.natAbs else if i = 38 then IntKind.wrap .i64 (x + y) else 0
    str := fun i => if i = 32 then Lib.itoa x else if i = 33 then Lib.itoa y else if i = 37 then Lib.itoa (IntKind.wrap .i64 (x + y)) else if i = 30 then Lib.decDigits x.natAbs else if i = 31 then Lib.decDigits y.natAbs else if i = 75 then sIn x y else if i = 76 then [120] else if i = 54 then [120] else if i = 46 then (sIn x y).tail else []
    boo := fun _ => false
    rows := fun i => if i = 22 then (qb (sIn x y)).map nrow else [] }
section
variable {x y : Int} (hx0 : -9223372036854775808 ≤ x) (hx1 : x ≤ 9223372036854775807) (hy0 : -9223372036854775808 ≤ y) (hy1 : y ≤ 9223372036854775807)
theorem it_bytes (z : Int) : ∀ c ∈ Lib.itoa z, c = 45 ∨ isDig c := by
  intro c hc
  unfold Lib.itoa at hc
  split at hc
  · rcases List.mem_cons.1 hc with rfl | hc
    · exact .inl rfl
    · exact .inr ((dd_all _).1 c hc)
  · exact .inr ((dd_all _).1 c hc)
theorem it_len {z : Int} (h0 : -9223372036854775808 ≤ z) (h1 : z ≤ 9223372036854775807) : 1 ≤ (Lib.itoa z).length ∧ (Lib.itoa z).length ≤ 20 := by
  unfold Lib.itoa
  split
  · obtain ⟨d, r, e, _, hl⟩ := dd_head z.natAbs (by omega)
    have : (Lib.decDigits z.natAbs).length ≤ 19 := by
      have : Lib.nDigits z.natAbs ≤ 19 := nDig_le 19 _ (by omega) (by omega)
      rw [Lib.decDigits_length]; exact this
    simp only [List.length_cons]; omega
  · have := dd_len (u := z.toNat) (by omega)
    omega
theorem sIn_bytes (x y : Int) : ∀ c ∈ sIn x y, c = 45 ∨ isDig c ∨ c = 120 ∨ c = 32 ∨ c = 61 ∨ c = 43 := by
  intro c hc
  simp only [sIn, List.mem_append, List.mem_cons, List.not_mem_nil, or_false] at hc
  rcases hc with (rfl | rfl | rfl | rfl) | hc | (rfl | rfl | rfl) | hc
  · simp
  · simp
  · simp
  · simp
  · rcases it_bytes x c hc with h | h <;> simp [h]
  · simp
  · simp
  · simp
  · rcases it_bytes y c hc with h | h <;> simp [h]
theorem sIn_nbk (x y : Int) : ∀ c ∈ sIn x y, nbk c ∧ npt c := by
  intro c hc
  rcases sIn_bytes x y c hc with rfl | ⟨h1, h2⟩ | rfl | rfl | rfl | rfl
  · exact ⟨by simp [nbk], by simp [npt]⟩
  · exact ⟨by unfold nbk; omega, by unfold npt; omega⟩
  · exact ⟨by simp [nbk], by simp [npt]⟩
  · exact ⟨by simp [nbk], by simp [npt]⟩
  · exact ⟨by simp [nbk], by simp [npt]⟩
  · exact ⟨by simp [nbk], by simp [npt]⟩
include hx0 hx1 hy0 hy1 in
theorem sIn_len : (sIn x y).length ≤ 47 := by
  have h1 := it_len hx0 hx1
  have h2 := it_len hy0 hy1
  simp only [sIn, List.length_append, List.length_cons, List.length_nil]; omega
include hx0 hx1 hy0 hy1 in
theorem su_orcs : ∀ o ∈ [o_wq, o_tn, o_va], OrcOK Tryz.prog (suE x y) o := by
  have hl := sIn_len hx0 hx1 hy0 hy1
  have hT : qb (sIn x y) ≠ [] := by simp [qb, sIn]
  have e : sIn x y = 120 :: (sIn x y).tail := by simp [sIn]
  refine orcs_cons ?_ (orcs_cons ?_ (orcs_cons ?_ orcs_nil))
  · refine (wq_ok (s := sIn x y) (c0 := 120) (t0 := (sIn x y).tail) e (by omega) (fun b hb => (sIn_nbk x y b hb).2) rfl rfl rfl rfl).tr rfl rfl rfl rfl rfl (fun h => h) (fun φ xs h => ?_) (fun φ z h => h)
    obtain ⟨u, xs, rfl, hu, h⟩ := VRs.cons_left h
    obtain ⟨v, xs, rfl, hv, h⟩ := VRs.cons_left h
    refine VRs.cons hu (VRs.cons ?_ h)
    have hv : VR (suE x y) φ (.str sumI) v := hv
    simp only [VR] at hv ⊢
    have e1 : SS.den (suE x y) sumI = sIn x y := by simp [sumI, SS.den, SP.den, suE, sIn]
    have e2 : SS.den (suE x y) [.chr (.sbyte 54 (.lit 0)), .var 46] = 120 :: (sIn x y).tail := by simp [SS.den, SP.den, SI.den, suE]
    rw [hv, e1, e2, ← e]
  · exact tn_ok (T := qb (sIn x y)) hT (by simp [qb]; omega) (fun p hp => by simp [qb] at hp; obtain ⟨a, _, rfl⟩ := hp; simp) (by rw [ntx_qb]; omega) rfl (ntx_qb _).symm (by simp [ng, qb, sIn, suE]) (by simp [ng, qb, sIn, suE])
  · exact va_ok hx0 hx1 hy0 hy1 rfl rfl rfl rfl rfl rfl rfl
include hx0 hx1 hy0 hy1 in
theorem su_pors : ∀ o ∈ [p_sh, p_da, p_db, p_ds, p_sp, p_f8], POrcOK Tryz.prog (suE x y) o := by
  have hl := sIn_len hx0 hx1 hy0 hy1
  have dig : ∀ {n : SI} {i : Nat}, (suE x y).str i = Lib.itoa (n.den (suE x y)) → -9223372036854775808 ≤ n.den (suE x y) → n.den (suE x y) ≤ 9223372036854775807 → POrcOK Tryz.prog (suE x y) { facts := [], f := 17, args := [.int .i64 n], pre := [], v := .str [.var i] } := by
    intro n i hs h0 h1 φ w xs k _ _ _ hxs
    obtain ⟨u, xs, rfl, hu, hxs⟩ := VRs.cons_left hxs
    have := VRs.nil_left hxs; subst this
    simp only [VR] at hu
    subst hu
    refine (digits_calls _ h0 h1 w).mono fun e w' ⟨he, hk⟩ => ⟨_, he, ?_, hk⟩
    simp only [VR, SS.den, SP.den, List.append_nil, hs]
  refine pors_cons sh_ok (pors_cons ?_ (pors_cons ?_ (pors_cons ?_ (pors_cons ?_ (pors_cons ?_ pors_nil)))))
  · exact dig rfl hx0 hx1
  · exact dig rfl hy0 hy1
  · exact dig rfl (wrap64 _).1 (wrap64 _).2
  · refine por_ss (s := sIn x y) (by simp [sIn]) (by omega) (fun b hb => (sIn_nbk x y b hb).1) ?_ ?_
    · simp [sumW, SS.den, SP.den, suE, sIn]
    · simp [SI.den, suE, sIn]; omega
  · exact por_fi (wrap64 _).1 (wrap64 _).2 rfl
end
end Go.Sx
namespace Go.Sx
open Go.Proofs
set_option maxRecDepth 1000000

noncomputable def sufC : Ctx := withHp (ctxOf Tryz.prog lies18 exts18 [o_wq, o_tn, o_va] [p_sh, p_da, p_db, p_ds, p_sp, p_f8]) 77
noncomputable def suftg : List AM := [st sufC 8 [.int .i64 (.var 91), .int .i64 (.var 92), .bool (.lit false)] (hpOf [tabB] 64) [(.cmp .geq (.slen 32) (.lit 1), true), (.cmp .leq (.slen 32) (.lit 20), true), (.cmp .geq (.slen 33) (.lit 1), true), (.cmp .leq (.slen 33) (.lit 20), true), (.cmp .geq (.slen 37) (.lit 1), true), (.cmp .leq (.slen 37) (.lit 20), true), (.cmp .geq (.rlen 22) (.lit 1), true)],
    withCs (st sufC 15 [.str sumW, .agg [.slice 64 0 (.lit 1) (.rest 4), .nilSlice, .str []], .agg [.int .i64 (.lit 0), .int .i64 (.lit 0), .int .i64 (.lit 0), .str [], .nilSlice, .nilSlice]] (hpOf [tabB, (64, .cells false none [.str [.lit [120]], .str [.lit [111, 108, 100]], .bool (.lit false), .bool (.lit false)] 61)] 68) [(.cmp .geq (.slen 32) (.lit 1), true), (.cmp .leq (.slen 32) (.lit 20), true), (.cmp .geq (.slen 33) (.lit 1), true), (.cmp .leq (.slen 33) (.lit 20), true), (.cmp .geq (.slen 37) (.lit 1), true), (.cmp .leq (.slen 37) (.lit 20), true), (.cmp .geq (.rlen 22) (.lit 1), true)]) [frS sufC 8 30 [(0, .int .i64 (.var 91)), (1, .int .i64 (.var 92)), (2, .bool (.lit false)), (6, .bool (.lit false)), (7, .bool (.lit true)), (37, .str sumW), (38, .agg [.slice 64 0 (.lit 1) (.rest 4), .nilSlice, .str []]), (39, .agg [.int .i64 (.lit 0), .int .i64 (.lit 0), .int .i64 (.lit 0), .str [], .nilSlice, .nilSlice])] []]]
noncomputable def sufo0 : OT := (.to 1 ⟨64, 68, [(64, 72)]⟩ [.str [.lit [36, 40, 40, 120, 32, 61, 32], .var 32, .lit [32, 43, 32], .var 33, .lit [41, 41]] [.lit [36, 40, 40, 120, 32, 61, 32], .var 32, .lit [32, 43, 32], .var 33, .lit [41, 41]], .int (.var 91) (.var 91), .int (.var 92) (.var 92), .str [.lit [36, 40, 40, 120, 32, 61, 32], .var 32, .lit [32, 43, 32], .var 33, .lit [41, 41]] [.lit [36, 40, 40, 120, 32, 61, 32], .var 32, .lit [32, 43, 32], .var 33, .lit [41, 41]]])
noncomputable def sufo1 : OT := (.fin ⟨64, 64, []⟩ [])
noncomputable def sufG : Graph := { tg := pick suftg, stop := (fun m => stopAny [] m || stopEn 15 1 3 m), n := (fun _ => 30000), pl := fun k => ([sufo0, sufo1].getD k .no).plan, o := fun k => [sufo0, sufo1].getD k .no, v := .bool (.lit true), h := (hpOf [tabB] 64), f := 8, N := 64 }
theorem sufat0 : sufG.At sufC 0 := ⟨by kernel_rfl, by kernel_rfl, by kernel_rfl⟩
theorem sufat1 : sufG.At sufC 1 := ⟨by kernel_rfl, by kernel_rfl, by kernel_rfl⟩
theorem suff0 : (sufG.tg 0).facts = [(.cmp .geq (.slen 32) (.lit 1), true), (.cmp .leq (.slen 32) (.lit 20), true), (.cmp .geq (.slen 33) (.lit 1), true), (.cmp .leq (.slen 33) (.lit 20), true), (.cmp .geq (.slen 37) (.lit 1), true), (.cmp .leq (.slen 37) (.lit 20), true), (.cmp .geq (.rlen 22) (.lit 1), true)] := by kernel_rfl
theorem suff1 : (sufG.tg 1).facts = [(.cmp .geq (.slen 32) (.lit 1), true), (.cmp .leq (.slen 32) (.lit 20), true), (.cmp .geq (.slen 33) (.lit 1), true), (.cmp .leq (.slen 33) (.lit 20), true), (.cmp .geq (.slen 37) (.lit 1), true), (.cmp .leq (.slen 37) (.lit 20), true), (.cmp .geq (.rlen 22) (.lit 1), true)] := by kernel_rfl
theorem sufst : startF sufC [(.cmp .geq (.slen 32) (.lit 1), true), (.cmp .leq (.slen 32) (.lit 20), true), (.cmp .geq (.slen 33) (.lit 1), true), (.cmp .leq (.slen 33) (.lit 20), true), (.cmp .geq (.slen 37) (.lit 1), true), (.cmp .leq (.slen 37) (.lit 20), true), (.cmp .geq (.rlen 22) (.lit 1), true)] 8 [.int .i64 (.var 91), .int .i64 (.var 92), .bool (.lit false)] (hpOf [tabB] 64) = some (sufG.tg 0) := by kernel_rfl
end Go.Sx
namespace Go.Sx
open Go.Proofs
set_option maxRecDepth 1000000

noncomputable def sutC : Ctx := withHp (ctxOf Tryz.prog lies18 exts18 [o_wq, o_tn, o_va] [p_sh, p_da, p_db, p_ds, p_sp, p_f8]) 77
noncomputable def suttg : List AM := [st sutC 8 [.int .i64 (.var 91), .int .i64 (.var 92), .bool (.lit true)] (hpOf [tabB] 64) [(.cmp .geq (.slen 32) (.lit 1), true), (.cmp .leq (.slen 32) (.lit 20), true), (.cmp .geq (.slen 33) (.lit 1), true), (.cmp .leq (.slen 33) (.lit 20), true), (.cmp .geq (.slen 37) (.lit 1), true), (.cmp .leq (.slen 37) (.lit 20), true), (.cmp .geq (.rlen 22) (.lit 1), true)],
    withCs (st sutC 15 [.str sumW, .agg [.slice 64 0 (.lit 1) (.rest 4), .nilSlice, .str []], .agg [.int .i64 (.lit 0), .int .i64 (.lit 0), .int .i64 (.lit 0), .str [], .nilSlice, .nilSlice]] (hpOf [tabB, (64, .cells false none [.str [.lit [120]], .str [.lit [111, 108, 100]], .bool (.lit false), .bool (.lit true)] 61)] 68) [(.cmp .geq (.slen 32) (.lit 1), true), (.cmp .leq (.slen 32) (.lit 20), true), (.cmp .geq (.slen 33) (.lit 1), true), (.cmp .leq (.slen 33) (.lit 20), true), (.cmp .geq (.slen 37) (.lit 1), true), (.cmp .leq (.slen 37) (.lit 20), true), (.cmp .geq (.rlen 22) (.lit 1), true)]) [frS sutC 8 30 [(0, .int .i64 (.var 91)), (1, .int .i64 (.var 92)), (2, .bool (.lit true)), (6, .bool (.lit false)), (7, .bool (.lit true)), (37, .str sumW), (38, .agg [.slice 64 0 (.lit 1) (.rest 4), .nilSlice, .str []]), (39, .agg [.int .i64 (.lit 0), .int .i64 (.lit 0), .int .i64 (.lit 0), .str [], .nilSlice, .nilSlice])] []]]
noncomputable def suto0 : OT := (.to 1 ⟨64, 68, [(64, 83)]⟩ [.str [.lit [36, 40, 40, 120, 32, 61, 32], .var 32, .lit [32, 43, 32], .var 33, .lit [41, 41]] [.lit [36, 40, 40, 120, 32, 61, 32], .var 32, .lit [32, 43, 32], .var 33, .lit [41, 41]], .int (.var 91) (.var 91), .int (.var 92) (.var 92), .str [.lit [36, 40, 40, 120, 32, 61, 32], .var 32, .lit [32, 43, 32], .var 33, .lit [41, 41]] [.lit [36, 40, 40, 120, 32, 61, 32], .var 32, .lit [32, 43, 32], .var 33, .lit [41, 41]]])
noncomputable def suto1 : OT := (.fin ⟨64, 64, []⟩ [])
noncomputable def sutG : Graph := { tg := pick suttg, stop := (fun m => stopAny [] m || stopEn 15 1 3 m), n := (fun _ => 30000), pl := fun k => ([suto0, suto1].getD k .no).plan, o := fun k => [suto0, suto1].getD k .no, v := .bool (.lit true), h := (hpOf [tabB] 64), f := 8, N := 64 }
theorem sutat0 : sutG.At sutC 0 := ⟨by kernel_rfl, by kernel_rfl, by kernel_rfl⟩
theorem sutat1 : sutG.At sutC 1 := ⟨by kernel_rfl, by kernel_rfl, by kernel_rfl⟩
theorem sutf0 : (sutG.tg 0).facts = [(.cmp .geq (.slen 32) (.lit 1), true), (.cmp .leq (.slen 32) (.lit 20), true), (.cmp .geq (.slen 33) (.lit 1), true), (.cmp .leq (.slen 33) (.lit 20), true), (.cmp .geq (.slen 37) (.lit 1), true), (.cmp .leq (.slen 37) (.lit 20), true), (.cmp .geq (.rlen 22) (.lit 1), true)] := by kernel_rfl
theorem sutf1 : (sutG.tg 1).facts = [(.cmp .geq (.slen 32) (.lit 1), true), (.cmp .leq (.slen 32) (.lit 20), true), (.cmp .geq (.slen 33) (.lit 1), true), (.cmp .leq (.slen 33) (.lit 20), true), (.cmp .geq (.slen 37) (.lit 1), true), (.cmp .leq (.slen 37) (.lit 20), true), (.cmp .geq (.rlen 22) (.lit 1), true)] := by kernel_rfl
theorem sutst : startF sutC [(.cmp .geq (.slen 32) (.lit 1), true), (.cmp .leq (.slen 32) (.lit 20), true), (.cmp .geq (.slen 33) (.lit 1), true), (.cmp .leq (.slen 33) (.lit 20), true), (.cmp .geq (.slen 37) (.lit 1), true), (.cmp .leq (.slen 37) (.lit 20), true), (.cmp .geq (.rlen 22) (.lit 1), true)] 8 [.int .i64 (.var 91), .int .i64 (.var 92), .bool (.lit true)] (hpOf [tabB] 64) = some (sutG.tg 0) := by kernel_rfl
end Go.Sx
namespace Go.Sx
open Go.Proofs
set_option maxRecDepth 100000
/-! ExpandSums answers true -/
theorem tab_br {ρ : Env} {W : World} (hT : Lib.TabIs Tryz.prog W "internal/strconv.uint64pow10" .u64 Lib.pow10Tab) : ∃ o, W.heap[1]? = some o ∧ BR ρ pl0 ⟨1, 0, 20⟩ tabB.2 o := by
  unfold Lib.TabIs World.var? at hT
  have hg : Tryz.prog.globalNamed "internal/strconv.uint64pow10" = some 1 := by kernel_rfl
  rw [hg, Option.bind_some] at hT
  split at hT
  · rename_i c ek fz ho
    obtain rfl := Option.some.inj hT
    obtain ⟨lo, hi⟩ := fz
    exact ⟨_, ho, ek, _, lo, hi, Lib.pow10Tab.map fun z => Value.int .u64 z, [], rfl, .inl rfl, .inl rfl, rfl, vals_VR rfl, trivial⟩
  · cases hT
theorem tab_lwn {ρ : Env} {W : World} (hT : Lib.TabIs Tryz.prog W "internal/strconv.uint64pow10" .u64 Lib.pow10Tab) : LWn 64 pl0 ρ [tabB] W := by
  obtain ⟨o, ho, hb⟩ := tab_br (ρ := ρ) hT
  refine lwn glob0 (fun i hi => ?_) (fun i b h => ?_)
  · have : ¬ i < 64 := by omega
    simp [pl0, this]
  · obtain ⟨rfl, rfl⟩ := get_one (k := tabB.1) (b := tabB.2) h
    exact ⟨rfl, ⟨1, 0, 20⟩, o, glob0 1 (by omega), ho, hb⟩
theorem suF_ok {x y : Int} (hx0 : -9223372036854775808 ≤ x) (hx1 : x ≤ 9223372036854775807) (hy0 : -9223372036854775808 ≤ y) (hy1 : y ≤ 9223372036854775807) : Facts.ok (suE x y) [(.cmp .geq (.slen 32) (.lit 1), true), (.cmp .leq (.slen 32) (.lit 20), true), (.cmp .geq (.slen 33) (.lit 1), true), (.cmp .leq (.slen 33) (.lit 20), true), (.cmp .geq (.slen 37) (.lit 1), true), (.cmp .leq (.slen 37) (.lit 20), true), (.cmp .geq (.rlen 22) (.lit 1), true)] := by
  obtain ⟨a1, a2⟩ := it_len hx0 hx1
  obtain ⟨b1, b2⟩ := it_len hy0 hy1
  obtain ⟨c1, c2⟩ := it_len (wrap64 (x + y)).1 (wrap64 (x + y)).2
  intro p hp
  simp only [List.mem_cons, List.not_mem_nil, or_false] at hp
  rcases hp with rfl | rfl | rfl | rfl | rfl | rfl | rfl <;> simp [SB.den, SI.den, intCmp, ltInt_iff, suE, qb, sIn] <;> omega
def suI (x y : Int) : Nat → Env → Prop
  | 0, ρ => ρ = suE x y
  | 1, ρ => ρ = suE x y
  | _, _ => False
def suμ : Nat → Env → Nat
  | 0, _ => 1
  | _, _ => 0
theorem sums_ok {x y : Int} (hx0 : -9223372036854775808 ≤ x) (hx1 : x ≤ 9223372036854775807) (hy0 : -9223372036854775808 ≤ y) (hy1 : y ≤ 9223372036854775807) (r : Bool) {W : World} (hT : Lib.TabIs Tryz.prog W "internal/strconv.uint64pow10" .u64 Lib.pow10Tab) :
    Calls Tryz.prog 8 #[.int .i64 x, .int .i64 y, .bool r] W fun e W' => e = .returned (.bool true) ∧ Kept W W' := by
  have hC := withHp_ok (ctx18 (su_orcs hx0 hx1 hy0 hy1) (su_pors hx0 hx1 hy0 hy1)) hp77
  have hF := suF_ok hx0 hx1 hy0 hy1
  have ha : ∀ r : Bool, VRs (suE x y) pl0 [.int .i64 (.var 91), .int .i64 (.var 92), .bool (.lit r)] [.int .i64 x, .int .i64 y, .bool r] := fun r =>
    VRs.cons (by simp only [VR, SI.den]; rfl) (VRs.cons (by simp only [VR, SI.den]; rfl) (VRs.cons (by simp only [VR, SB.den]) VRs.nil))
  cases r with
  | false =>
    refine law_ofn (n := 64) (G := sufG) (C := sufC) (I := suI x y) (μ := suμ) (ρ := suE x y) ?_ ?_ ?_ ?_ rfl rfl rfl sufst (tab_lwn hT) (ha false)
    · intro k ρ hi
      match k, hi with
      | 0, hi => obtain rfl : ρ = suE x y := hi; exact hC
      | 1, hi => obtain rfl : ρ = suE x y := hi; exact hC
    · intro k ρ hi
      match k, hi with
      | 0, hi => obtain rfl : ρ = suE x y := hi; rw [suff0]; exact hF
      | 1, hi => obtain rfl : ρ = suE x y := hi; rw [suff1]; exact hF
    · intro k ρ hi
      match k, hi with
      | 0, _ => exact sufat0
      | 1, _ => exact sufat1
    · intro k ρ hi
      match k, hi with
      | 0, hi =>
        obtain rfl : ρ = suE x y := hi
        show OTok (suI x y) suμ _ 0 _ sufo0
        simp only [sufo0, OTok]
        exact ⟨suE x y, by simp [Eqns, Eqn.ok], rfl, by simp [suμ]⟩
      | 1, hi =>
        obtain rfl : ρ = suE x y := hi
        show OTok (suI x y) suμ _ 1 _ sufo1
        simp only [sufo1, OTok]
        exact ⟨suE x y, by simp [Eqns], trivial⟩
  | true =>
    refine law_ofn (n := 64) (G := sutG) (C := sutC) (I := suI x y) (μ := suμ) (ρ := suE x y) ?_ ?_ ?_ ?_ rfl rfl rfl sutst (tab_lwn hT) (ha true)
    · intro k ρ hi
      match k, hi with
      | 0, hi => obtain rfl : ρ = suE x y := hi; exact hC
      | 1, hi => obtain rfl : ρ = suE x y := hi; exact hC
    · intro k ρ hi
      match k, hi with
      | 0, hi => obtain rfl : ρ = suE x y := hi; rw [sutf0]; exact hF
      | 1, hi => obtain rfl : ρ = suE x y := hi; rw [sutf1]; exact hF
    · intro k ρ hi
      match k, hi with
      | 0, _ => exact sutat0
      | 1, _ => exact sutat1
    · intro k ρ hi
      match k, hi with
      | 0, hi =>
        obtain rfl : ρ = suE x y := hi
        show OTok (suI x y) suμ _ 0 _ suto0
        simp only [suto0, OTok]
        exact ⟨suE x y, by simp [Eqns, Eqn.ok], rfl, by simp [suμ]⟩
      | 1, hi =>
        obtain rfl : ρ = suE x y := hi
        show OTok (suI x y) suμ _ 1 _ suto1
        simp only [suto1, OTok]
        exact ⟨suE x y, by simp [Eqns], trivial⟩
end Go.Sx
