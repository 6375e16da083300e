import Derived.Test.YtanpkoghglnphaaGreatDoorSuD
import Derived.Test.YtanpkoghglnphaaGreatDoorSuE
import Derived.Test.YtanpkoghglnphaaGreatDoorSuF
import Derived.Test.YtanpkoghglnphaaGreatDoorSuG
import Derived.Test.YtanpkoghglnphaaGreatDoorSuA
import Derived.Test.YtanpkoghglnphaaGreatDoorCtx
import Derived.Test.YtanpkoghglnphaaGreatDoorEnv
namespace Go.Sx
open Go.Proofs
set_option maxRecDepth 100000
/-- a known call in other words -/
theorem OrcOK.tr {P : Program} {ρ : Env} {o o' : Orc} (h : OrcOK P ρ o) (hf : o'.f = o.f) (hpre : o'.pre = o.pre) (hn : o'.next = o.next) (hpost : o'.post = o.post) (hn' : o'.next' = o.next') (hF : o'.facts.ok ρ → o.facts.ok ρ)
    (ha : ∀ φ xs, VRs ρ φ o'.args xs → VRs ρ φ o.args xs) (hv : ∀ φ z, VR ρ φ o.v z → VR ρ φ o'.v z) : OrcOK P ρ o' := by
  refine ⟨fun φ w xs hw hG hFf hx => ?_, by rw [hpost, hn']; exact h.nd⟩
  rw [hpre, hn] at hw
  rw [hf, hpre, hn, hpost, hn']
  refine (h.calls φ w xs hw hG (hF hFf) (ha φ xs hx)).mono fun e w' ⟨φ', z, he, hz, hev⟩ => ⟨φ', z, he, hv φ' z hz, hev⟩
noncomputable def o_va : Orc := { facts := [], f := 114, args := [.str [.var 75], .slice 64 0 (.lit 1) (.rest 4)], pre := vaHp, next := 85, v := .tup [.int .i64 (.var 38), .slice 85 0 (.lit 1) (.rest 4), .int .i64 (.lit 0)], post := vaPost, next' := 86 }
theorem va_ok {x y : Int} {ρ : Env} (hx0 : -9223372036854775808 ≤ x) (hx1 : x ≤ 9223372036854775807) (hy0 : -9223372036854775808 ≤ y) (hy1 : y ≤ 9223372036854775807) (h30 : ρ.str 30 = Lib.decDigits x.natAbs) (h31 : ρ.str 31 = Lib.decDigits y.natAbs)
    (h75 : ρ.str 75 = [120, 32, 61, 32] ++ (Lib.itoa x ++ ([32, 43, 32] ++ Lib.itoa y))) (h34 : ρ.int 34 = IntKind.wrap .i64 x.natAbs) (h35 : ρ.int 35 = IntKind.wrap .i64 y.natAbs) (h38 : ρ.int 38 = IntKind.wrap .i64 (x + y)) (h37 : ρ.str 37 = Lib.itoa (IntKind.wrap .i64 (x + y))) : OrcOK Tryz.prog ρ o_va := by
  have key : ∀ a b : Bool, (a = true ↔ x < 0) → (b = true ↔ y < 0) → (sumE a b).den ρ = IntKind.wrap .i64 (x + y) := by
    intro a b ha hb
    have hA : ∀ (c : Bool) (z : Int) (i : Nat), (c = true ↔ z < 0) → -9223372036854775808 ≤ z → z ≤ 9223372036854775807 → ρ.int i = IntKind.wrap .i64 z.natAbs → (numA c i).den ρ = z := by
      intro c z i hc h0 h1 hi
      cases c with
      | false =>
        have : ¬ z < 0 := fun h => by simp at hc; omega
        show SI.den ρ (.var i) = z
        simp only [SI.den, hi]
        simp [IntKind.wrap, IntKind.signed, IntKind.bits]; omega
      | true =>
        have : z < 0 := hc.1 rfl
        show SI.den ρ (.wrap .i64 (.sub (.lit 0) (.var i))) = z
        simp only [SI.den, hi]
        simp [IntKind.wrap, IntKind.signed, IntKind.bits]; omega
    have e1 := hA a x 34 ha hx0 hx1 h34
    have e2 := hA b y 35 hb hy0 hy1 h35
    simp only [sumE, SI.den, e1, e2]
  have it : ∀ z : Int, Lib.itoa z = if z < 0 then 45 :: Lib.decDigits z.natAbs else Lib.decDigits z.natAbs := fun z => by
    unfold Lib.itoa
    split
    · rfl
    · congr 1; omega
  have fin : ∀ a b : Bool, (a = true ↔ x < 0) → (b = true ↔ y < 0) → OrcOK Tryz.prog ρ (vaO a b) → OrcOK Tryz.prog ρ o_va := by
    intro a b ha hb ho
    refine ho.tr rfl rfl rfl rfl rfl (fun h => h) (fun φ xs h => ?_) (fun φ z h => ?_)
    · obtain ⟨u, xs, rfl, hu, h⟩ := VRs.cons_left h
      refine VRs.cons ?_ h
      simp only [VR, SS.den, SP.den, h75, it, List.append_nil] at hu ⊢
      rw [hu, h30, h31]
      cases a <;> cases b <;> simp at ha hb <;> simp [sX, sM, ha, hb, Int.not_lt.2, *]
    · replace h : VR ρ φ (.tup [.int .i64 (sumE a b), .slice 85 0 (.lit 1) (.rest 4), .int .i64 (.lit 0)]) z := h
      show VR ρ φ (.tup [.int .i64 (.var 38), .slice 85 0 (.lit 1) (.rest 4), .int .i64 (.lit 0)]) z
      rw [VR] at h ⊢
      obtain ⟨u, hu, h⟩ := h
      refine ⟨u, hu, ?_⟩
      obtain ⟨t, u', rfl, ht, h⟩ := VRs.cons_left h
      refine VRs.cons ?_ h
      simp only [VR, SI.den] at ht ⊢
      rw [ht, key a b ha hb, h38]
  have mk : ∀ a b : Bool, (a = true ↔ x < 0) → (b = true ↔ y < 0) → VaC x.natAbs y.natAbs a b ρ := fun a b ha hb =>
    ⟨by omega, by omega, h30, h31, h34, h35, by rw [key a b ha hb]; exact h37⟩
  by_cases hx : x < 0 <;> by_cases hy : y < 0
  · exact fin true true (by simp [hx]) (by simp [hy]) (vtt_ok (mk true true (by simp [hx]) (by simp [hy])))
  · exact fin true false (by simp [hx]) (by simp; omega) (vtf_ok (mk true false (by simp [hx]) (by simp; omega)))
  · exact fin false true (by simp; omega) (by simp [hy]) (vft_ok (mk false true (by simp; omega) (by simp [hy])))
  · exact fin false false (by simp; omega) (by simp; omega) (vff_ok (mk false false (by simp; omega) (by simp; omega)))
end Go.Sx
namespace Go.Sx
open Go.Proofs
set_option maxRecDepth 1000000

noncomputable def spsC : Ctx := withHp (ctxOf Tryz.prog lies18 exts18 [] []) 77
noncomputable def spstg : List AM := [st spsC 66 [.str [.lit [36, 40, 40], .chr (.sbyte 54 (.lit 0)), .var 46, .lit [41, 41]], .bool (.lit false)] (hpOf [] 64) [(.cmp .leq (.slen 46) (.lit 100), true), (.cmp .eql (.sbyte 54 (.lit 0)) (.lit 40), false), (.cmp .eql (.sbyte 54 (.lit 0)) (.lit 41), false), (.cmp .neq (.sbyte 54 (.lit 0)) (.lit 41), true)],
    ndS (frS spsC 107 2 [(0, .ptr 66 0), (1, .int .i64 (.add (.lit 3) (.slen 45))), (4, .int .i64 (.lit 0)), (5, .int .i64 (.lit 0))] []) [(frS spsC 84 91 [(0, .ptr 66 0), (1, .int .i64 (.lit 0)), (6, .int .i64 (.lit 0)), (85, .ptr 66 0), (86, .int .i64 (.lit 0)), (87, .int .i64 (.lit 3))] []), (frS spsC 66 12 [(4, .ptr 64 0), (9, .str [.lit [36, 40, 40], .var 45, .chr (.sbyte 54 (.lit 0)), .var 46, .lit [41, 41]]), (10, .agg [.str [.lit [36, 40, 40], .var 45, .chr (.sbyte 54 (.lit 0)), .var 46, .lit [41, 41]], .int .i64 (.lit 0)]), (11, .ptr 66 0), (12, .bool (.lit false))] [⟨.fn (.func 83) [], [.ptr 65 0]⟩, ⟨.fn (.func 82) [.ptr 65 0, .ptr 64 0], []⟩])] [(64, .cells false none [.int .i64 (.lit 0)] 3), (65, .cells false none [.int .i64 (.lit 0), .int .i64 (.lit 0)] 145), (66, .cells false none [.str [.lit [36, 40, 40], .var 45, .chr (.sbyte 54 (.lit 0)), .var 46, .lit [41, 41]], .int .i64 (.lit 0)] 150)] 67 [(.cmp .leq (.slen 46) (.lit 100), true), (.cmp .leq (.slen 45) (.lit 100), true), (.cmp .eql (.sbyte 54 (.lit 0)) (.lit 40), false), (.cmp .eql (.sbyte 54 (.lit 0)) (.lit 41), false), (.cmp .neq (.sbyte 54 (.lit 0)) (.lit 41), true)],
    ndS (frS spsC 107 2 [(0, .ptr 66 0), (1, .int .i64 (.add (.lit 3) (.slen 45))), (4, .int .i64 (.lit 0)), (5, .int .i64 (.lit 0))] []) [(frS spsC 84 91 [(0, .ptr 66 0), (1, .int .i64 (.lit 0)), (6, .int .i64 (.lit 0)), (85, .ptr 66 0), (86, .int .i64 (.lit 0)), (87, .int .i64 (.lit 3))] []), (frS spsC 66 12 [(4, .ptr 64 0), (9, .str [.lit [36, 40, 40], .var 45, .lit [41, 41]]), (10, .agg [.str [.lit [36, 40, 40], .var 45, .lit [41, 41]], .int .i64 (.lit 0)]), (11, .ptr 66 0), (12, .bool (.lit false))] [⟨.fn (.func 83) [], [.ptr 65 0]⟩, ⟨.fn (.func 82) [.ptr 65 0, .ptr 64 0], []⟩])] [(64, .cells false none [.int .i64 (.lit 0)] 3), (65, .cells false none [.int .i64 (.lit 0), .int .i64 (.lit 0)] 145), (66, .cells false none [.str [.lit [36, 40, 40], .var 45, .lit [41, 41]], .int .i64 (.lit 0)] 150)] 67 [(.cmp .leq (.slen 45) (.lit 100), true)]]
noncomputable def spso0 : OT := (.alt (.to 1 ⟨64, 67, [(64, 64), (65, 65), (66, 66)]⟩ [.int (.add (.lit 3) (.slen 45)) (.lit 4), .str [.lit [36, 40, 40], .var 45, .chr (.sbyte 54 (.lit 0)), .var 46, .lit [41, 41]] [.lit [36, 40, 40], .chr (.sbyte 54 (.lit 0)), .var 46, .lit [41, 41]], .str [.lit [36, 40, 40], .var 45, .chr (.sbyte 54 (.lit 0)), .var 46, .lit [41, 41]] [.lit [36, 40, 40], .chr (.sbyte 54 (.lit 0)), .var 46, .lit [41, 41]], .str [.lit [36, 40, 40], .var 45, .chr (.sbyte 54 (.lit 0)), .var 46, .lit [41, 41]] [.lit [36, 40, 40], .chr (.sbyte 54 (.lit 0)), .var 46, .lit [41, 41]]]) (.to 2 ⟨64, 67, [(64, 64), (65, 65), (66, 66)]⟩ [.int (.add (.lit 3) (.slen 45)) (.lit 4), .str [.lit [36, 40, 40], .var 45, .lit [41, 41]] [.lit [36, 40, 40], .chr (.sbyte 54 (.lit 0)), .var 46, .lit [41, 41]], .str [.lit [36, 40, 40], .var 45, .lit [41, 41]] [.lit [36, 40, 40], .chr (.sbyte 54 (.lit 0)), .var 46, .lit [41, 41]], .str [.lit [36, 40, 40], .var 45, .lit [41, 41]] [.lit [36, 40, 40], .chr (.sbyte 54 (.lit 0)), .var 46, .lit [41, 41]]]))
noncomputable def spso1 : OT := (.alt (.to 1 ⟨64, 67, [(64, 64), (65, 65), (66, 66)]⟩ [.int (.add (.lit 3) (.slen 45)) (.add (.add (.lit 3) (.slen 45)) (.lit 1)), .str [.lit [36, 40, 40], .var 45, .chr (.sbyte 54 (.lit 0)), .var 46, .lit [41, 41]] [.lit [36, 40, 40], .var 45, .chr (.sbyte 54 (.lit 0)), .var 46, .lit [41, 41]], .str [.lit [36, 40, 40], .var 45, .chr (.sbyte 54 (.lit 0)), .var 46, .lit [41, 41]] [.lit [36, 40, 40], .var 45, .chr (.sbyte 54 (.lit 0)), .var 46, .lit [41, 41]], .str [.lit [36, 40, 40], .var 45, .chr (.sbyte 54 (.lit 0)), .var 46, .lit [41, 41]] [.lit [36, 40, 40], .var 45, .chr (.sbyte 54 (.lit 0)), .var 46, .lit [41, 41]]]) (.to 2 ⟨64, 67, [(64, 64), (65, 65), (66, 66)]⟩ [.int (.add (.lit 3) (.slen 45)) (.add (.add (.lit 3) (.slen 45)) (.lit 1)), .str [.lit [36, 40, 40], .var 45, .lit [41, 41]] [.lit [36, 40, 40], .var 45, .chr (.sbyte 54 (.lit 0)), .var 46, .lit [41, 41]], .str [.lit [36, 40, 40], .var 45, .lit [41, 41]] [.lit [36, 40, 40], .var 45, .chr (.sbyte 54 (.lit 0)), .var 46, .lit [41, 41]], .str [.lit [36, 40, 40], .var 45, .lit [41, 41]] [.lit [36, 40, 40], .var 45, .chr (.sbyte 54 (.lit 0)), .var 46, .lit [41, 41]]]))
noncomputable def spso2 : OT := (.fin ⟨64, 64, []⟩ [.int (.var 47) (.add (.add (.lit 3) (.slen 45)) (.lit 2))])
noncomputable def spsG : Graph := { tg := pick spstg, stop := (stopAny [(107, (2, 3))]), n := (fun _ => 3000), pl := fun k => ([spso0, spso1, spso2].getD k .no).plan, o := fun k => [spso0, spso1, spso2].getD k .no, v := .int .i64 (.var 47), h := (hpOf [] 64), f := 66, N := 64 }
theorem spsat0 : spsG.At spsC 0 := ⟨by kernel_rfl, by kernel_rfl, by kernel_rfl⟩
theorem spsat1 : spsG.At spsC 1 := ⟨by kernel_rfl, by kernel_rfl, by kernel_rfl⟩
theorem spsat2 : spsG.At spsC 2 := ⟨by kernel_rfl, by kernel_rfl, by kernel_rfl⟩
theorem spsf0 : (spsG.tg 0).facts = [(.cmp .leq (.slen 46) (.lit 100), true), (.cmp .eql (.sbyte 54 (.lit 0)) (.lit 40), false), (.cmp .eql (.sbyte 54 (.lit 0)) (.lit 41), false), (.cmp .neq (.sbyte 54 (.lit 0)) (.lit 41), true)] := by kernel_rfl
theorem spsf1 : (spsG.tg 1).facts = [(.cmp .leq (.slen 46) (.lit 100), true), (.cmp .leq (.slen 45) (.lit 100), true), (.cmp .eql (.sbyte 54 (.lit 0)) (.lit 40), false), (.cmp .eql (.sbyte 54 (.lit 0)) (.lit 41), false), (.cmp .neq (.sbyte 54 (.lit 0)) (.lit 41), true)] := by kernel_rfl
theorem spsf2 : (spsG.tg 2).facts = [(.cmp .leq (.slen 45) (.lit 100), true)] := by kernel_rfl
theorem spsst : startF spsC [(.cmp .leq (.slen 46) (.lit 100), true), (.cmp .eql (.sbyte 54 (.lit 0)) (.lit 40), false), (.cmp .eql (.sbyte 54 (.lit 0)) (.lit 41), false), (.cmp .neq (.sbyte 54 (.lit 0)) (.lit 41), true)] 66 [.str [.lit [36, 40, 40], .chr (.sbyte 54 (.lit 0)), .var 46, .lit [41, 41]], .bool (.lit false)] (hpOf [] 64) = some (spsG.tg 0) := by kernel_rfl
end Go.Sx
namespace Go.Sx
open Go.Proofs
set_option maxRecDepth 100000
/-! lex.Part of a reckoning -/
def nbk (b : UInt8) : Prop := b.toNat ≠ 40 ∧ b.toNat ≠ 41
def ssE (p : List UInt8) (c : UInt8) (t : List UInt8) (ρ : Env) : Env := ((ρ.setS 45 p).setS 54 [c]).setS 46 t
def ssI (s : List UInt8) : Nat → Env → Prop
  | 0, ρ => ∃ c t, s = c :: t ∧ ρ.str 54 = [c] ∧ ρ.str 46 = t
  | 1, ρ => ∃ p c t, s = p ++ c :: t ∧ ρ.str 45 = p ∧ ρ.str 54 = [c] ∧ ρ.str 46 = t
  | 2, ρ => ρ.str 45 = s
  | _, _ => False
def ssμ : Nat → Env → Nat
  | 0, ρ => (ρ.str 46).length + 5
  | 1, ρ => (ρ.str 46).length + 1
  | _, _ => 0
theorem ss_calls (s : List UInt8) (h0 : s ≠ []) (hl : s.length ≤ 100) (hb : ∀ b ∈ s, nbk b) (W : World) :
    Calls Tryz.prog 66 #[.string ⟨⟨[36, 40, 40] ++ (s ++ [41, 41])⟩⟩, .bool false] W fun e W' => e = .returned (.int .i64 (s.length + 5)) ∧ Kept W W' := by
  obtain ⟨c0, t0, rfl⟩ : ∃ c t, s = c :: t := by
    cases s with
    | nil => exact absurd rfl h0
    | cons c t => exact ⟨c, t, rfl⟩
  have hb0 := hb c0 (by simp)
  have := Graph.calls (G := spsG) (C := spsC) (P := Tryz.prog) (I := ssI (c0 :: t0)) (μ := ssμ) (J := fun ρ => ρ.int 47 = (c0 :: t0).length + 5) (fun _ _ _ => withHp_ok (ctx18 orcs_nil pors_nil) hp77) ?_ ?_ ?_ (ρ := (Env.setS (env [] []) 54 [c0]).setS 46 t0) ⟨c0, t0, rfl, rfl, rfl⟩ (F := [(.cmp .leq (.slen 46) (.lit 100), true), (.cmp .eql (.sbyte 54 (.lit 0)) (.lit 40), false), (.cmp .eql (.sbyte 54 (.lit 0)) (.lit 41), false), (.cmp .neq (.sbyte 54 (.lit 0)) (.lit 41), true)]) (args := [.str [.lit [36, 40, 40], .chr (.sbyte 54 (.lit 0)), .var 46, .lit [41, 41]], .bool (.lit false)]) (h := hpOf [] 64) spsst
    (φ := pl0) (w := W) (xs := [.string ⟨⟨[36, 40, 40] ++ (c0 :: t0 ++ [41, 41])⟩⟩, .bool false]) (wr0 _ W) glob0 (VRs.cons (by simp [VR, SS.den, SP.den, SI.den, setS_str]) (VRs.cons (by simp only [VR, SB.den]) VRs.nil))
  · exact this.mono fun e W' h => kept_of h (fun ρ' ψ z hJ hz => by
      have hz : VR ρ' ψ (.int .i64 (.var 47)) z := hz
      simp only [VR, SI.den] at hz; rw [hz, hJ]) rfl
  · intro k ρ hi
    match k, hi with
    | 0, hi =>
      obtain ⟨c, t, e, e2, e3⟩ := hi
      obtain ⟨b1, b2⟩ := hb c (by rw [e]; simp)
      have hl := hl
      rw [e, List.length_cons] at hl
      rw [spsf0]; intro p hp
      simp only [List.mem_cons, List.not_mem_nil, or_false] at hp
      rcases hp with rfl | rfl | rfl | rfl <;> simp [SB.den, SI.den, intCmp, ltInt_iff, eqInt_iff, e2, e3] <;> omega
    | 1, hi =>
      obtain ⟨p, c, t, e, e1, e2, e3⟩ := hi
      obtain ⟨b1, b2⟩ := hb c (by rw [e]; simp)
      have hl := hl
      rw [e, List.length_append, List.length_cons] at hl
      rw [spsf1]; intro q hq
      simp only [List.mem_cons, List.not_mem_nil, or_false] at hq
      rcases hq with rfl | rfl | rfl | rfl | rfl <;> simp [SB.den, SI.den, intCmp, ltInt_iff, eqInt_iff, e1, e2, e3] <;> omega
    | 2, hi =>
      have hi : ρ.str 45 = c0 :: t0 := hi
      rw [spsf2]; intro q hq
      simp only [List.mem_cons, List.not_mem_nil, or_false] at hq
      subst hq
      simp only [List.length_cons] at hl
      simp [SB.den, SI.den, intCmp, ltInt_iff, hi]; omega
  · intro k ρ hi
    match k, hi with
    | 0, _ => exact spsat0
    | 1, _ => exact spsat1
    | 2, _ => exact spsat2
  · intro k ρ hi
    match k, hi with
    | 0, hi =>
      obtain ⟨c, t, e, e2, e3⟩ := hi
      show OTok (ssI (c0 :: t0)) ssμ _ 0 ρ spso0
      simp only [spso0, OTok]
      cases t with
      | nil =>
        refine .inr ⟨ρ.setS 45 [c], ?_, e.symm, by simp [ssμ]⟩
        simp [Eqns, Eqn.ok, SI.den, SS.den, SP.den, setS_str, e2, e3]
      | cons c' t =>
        refine .inl ⟨ssE [c] c' t ρ, ?_, ⟨[c], c', t, e, rfl, rfl, rfl⟩, by simp [ssμ, ssE, setS_str, e3]⟩
        simp [Eqns, Eqn.ok, SI.den, SS.den, SP.den, ssE, setS_str, e2, e3]
    | 1, hi =>
      obtain ⟨p, c, t, e, e1, e2, e3⟩ := hi
      show OTok (ssI (c0 :: t0)) ssμ _ 1 ρ spso1
      simp only [spso1, OTok]
      cases t with
      | nil =>
        refine .inr ⟨ρ.setS 45 (p ++ [c]), ?_, e.symm, by simp [ssμ]⟩
        simp [Eqns, Eqn.ok, SI.den, SS.den, SP.den, setS_str, e1, e2, e3]
        try omega
      | cons c' t =>
        refine .inl ⟨ssE (p ++ [c]) c' t ρ, ?_, ⟨p ++ [c], c', t, by rw [e]; simp, rfl, rfl, rfl⟩, by simp [ssμ, ssE, setS_str, e3]⟩
        simp [Eqns, Eqn.ok, SI.den, SS.den, SP.den, ssE, setS_str, e1, e2, e3]
        try omega
    | 2, hi =>
      have hi : ρ.str 45 = c0 :: t0 := hi
      show OTok (ssI (c0 :: t0)) ssμ _ 2 ρ spso2
      simp only [spso2, OTok]
      refine ⟨ρ.setI 47 ((c0 :: t0).length + 5), ?_, rfl⟩
      simp [Eqns, Eqn.ok, SI.den, setI_int, setI_str, hi]
      try omega
theorem por_ss {ρ : Env} {a : SS} {n : SI} {s : List UInt8} (h0 : s ≠ []) (hl : s.length ≤ 100) (hb : ∀ b ∈ s, nbk b) (ha : SS.den ρ a = [36, 40, 40] ++ (s ++ [41, 41])) (hn : n.den ρ = s.length + 5) : POrcOK Tryz.prog ρ { facts := [], f := 66, args := [.str a, .bool (.lit false)], pre := [], v := .int .i64 n } := by
  intro φ w xs k _ _ _ hxs
  obtain ⟨x, xs, rfl, hx, hxs⟩ := VRs.cons_left hxs
  obtain ⟨y, xs, rfl, hy, hxs⟩ := VRs.cons_left hxs
  have := VRs.nil_left hxs; subst this
  simp only [VR, SB.den] at hx hy
  subst hx hy
  rw [ha]
  refine (ss_calls s h0 hl hb w).mono fun e w' ⟨he, hk⟩ => ⟨_, he, ?_, hk⟩
  simp only [VR, hn]
end Go.Sx
namespace Go.Sx
open Go.Proofs
set_option maxRecDepth 1000000

noncomputable def trC : Ctx := ctxOf Tryz.prog lies18 exts18 [] []
noncomputable def trtg : List AM := [st trC 112 [.str [.var 50], .str [.lit [10]]] (hpOf [] 64) [],
    st trC 112 [.str [], .str [.lit [10]]] (hpOf [] 64) [],
    st trC 112 [.str [.var 55, .chr (.sbyte 54 (.lit 0))], .str [.lit [10]]] (hpOf [] 64) [(.cmp .leq (.slen 55) (.lit 100000), true)],
    ndAt (leafAt (execS trC (stopAny [(124, 1, 3)]) 300 (st trC 112 [.str [.var 55, .chr (.sbyte 54 (.lit 0))], .str [.lit [10]]] (hpOf [] 64) [(.cmp .leq (.slen 55) (.lit 100000), true)])) [true]) [1] [(0, .str [])] [[]] [] [] [] 64 [],
    ndAt (leafAt (execS trC (stopAny [(124, 1, 3)]) 300 (st trC 112 [.str [.var 55, .chr (.sbyte 54 (.lit 0))], .str [.lit [10]]] (hpOf [] 64) [(.cmp .leq (.slen 55) (.lit 100000), true)])) [true]) [1] [(0, .str [.var 55, .chr (.sbyte 54 (.lit 0))])] [[]] [] [] [] 64 [(.cmp .leq (.slen 55) (.lit 100000), true)]]
noncomputable def tro0 : OT := (.alt (.to 1 ⟨64, 64, []⟩ [.str [] [.var 50]]) (.to 2 ⟨64, 64, []⟩ [.str [.var 55, .chr (.sbyte 54 (.lit 0))] [.var 50]]))
noncomputable def tro1 : OT := (.fin ⟨64, 64, []⟩ [.str [.var 51] []])
noncomputable def tro2 : OT := (.fork (.cmp .eql (.sbyte 54 (.lit 0)) (.lit 10)) (.alt (.to 3 ⟨64, 64, []⟩ [.str [] [.var 55]]) (.to 4 ⟨64, 64, []⟩ [.str [.var 55, .chr (.sbyte 54 (.lit 0))] [.var 55]])) (.fin ⟨64, 64, []⟩ [.str [.var 51] [.var 55, .chr (.sbyte 54 (.lit 0))]]))
noncomputable def tro3 : OT := (.fin ⟨64, 64, []⟩ [.str [.var 51] []])
noncomputable def tro4 : OT := (.fork (.cmp .eql (.sbyte 54 (.lit 0)) (.lit 10)) (.alt (.to 3 ⟨64, 64, []⟩ [.str [] [.var 55]]) (.to 4 ⟨64, 64, []⟩ [.str [.var 55, .chr (.sbyte 54 (.lit 0))] [.var 55]])) (.fin ⟨64, 64, []⟩ [.str [.var 51] [.var 55, .chr (.sbyte 54 (.lit 0))]]))
noncomputable def trG : Graph := { tg := pick trtg, stop := (stopAny [(124, (1, 3))]), n := (fun k => [0, 300, 300, 300, 300].getD k 0), pl := fun k => ([tro0, tro1, tro2, tro3, tro4].getD k .no).plan, o := fun k => [tro0, tro1, tro2, tro3, tro4].getD k .no, v := .str [.var 51], h := (hpOf [] 64), f := 112, N := 64 }
theorem trat0 : trG.At trC 0 := ⟨by kernel_rfl, by kernel_rfl, by kernel_rfl⟩
theorem trat1 : trG.At trC 1 := ⟨by kernel_rfl, by kernel_rfl, by kernel_rfl⟩
theorem trat2 : trG.At trC 2 := ⟨by kernel_rfl, by kernel_rfl, by kernel_rfl⟩
theorem trat3 : trG.At trC 3 := ⟨by kernel_rfl, by kernel_rfl, by kernel_rfl⟩
theorem trat4 : trG.At trC 4 := ⟨by kernel_rfl, by kernel_rfl, by kernel_rfl⟩
theorem trf0 : (trG.tg 0).facts = [] := by kernel_rfl
theorem trf1 : (trG.tg 1).facts = [] := by kernel_rfl
theorem trf2 : (trG.tg 2).facts = [(.cmp .leq (.slen 55) (.lit 100000), true)] := by kernel_rfl
theorem trf3 : (trG.tg 3).facts = [] := by kernel_rfl
theorem trf4 : (trG.tg 4).facts = [(.cmp .leq (.slen 55) (.lit 100000), true)] := by kernel_rfl
theorem trst : startF trC [] 112 [.str [.var 50], .str [.lit [10]]] (hpOf [] 64) = some (trG.tg 0) := by kernel_rfl
end Go.Sx
namespace Go.Sx
open Go.Proofs
set_option maxRecDepth 100000
def trimR (s : List UInt8) : List UInt8 := (s.reverse.dropWhile (fun b => b == 10)).reverse
theorem trimR_nil : trimR [] = [] := rfl
theorem trimR_nl (a : List UInt8) : trimR (a ++ [10]) = trimR a := by simp [trimR]
theorem trimR_other (a : List UInt8) {b : UInt8} (h : b ≠ 10) : trimR (a ++ [b]) = a ++ [b] := by simp [trimR, h]
theorem trimR_len (s : List UInt8) : (trimR s).length ≤ s.length := by
  simp only [trimR, List.length_reverse]
  exact Nat.le_trans (List.Sublist.length_le (List.dropWhile_sublist _)) (by simp)
theorem snoc_of {s : List UInt8} (h : s ≠ []) : ∃ a b, s = a ++ [b] := ⟨s.dropLast, s.getLast h, (List.dropLast_concat_getLast h).symm⟩
theorem b10 {b : UInt8} : ((b.toNat : Int) = 10) ↔ b = 10 := by
  constructor
  · intro h; apply UInt8.toNat_inj.1; show b.toNat = 10; omega
  · rintro rfl; rfl
def trE (a : List UInt8) (b : UInt8) (ρ : Env) : Env := (ρ.setS 54 [b]).setS 55 a
def trI (s : List UInt8) : Nat → Env → Prop
  | 0, ρ => ρ.str 50 = s
  | 1, _ => s = []
  | 2, ρ => ∃ a b, s = a ++ [b] ∧ a.length ≤ 100000 ∧ ρ.str 55 = a ∧ ρ.str 54 = [b]
  | 3, _ => trimR s = []
  | 4, ρ => ∃ a b, trimR s = trimR (a ++ [b]) ∧ a.length ≤ 100000 ∧ ρ.str 55 = a ∧ ρ.str 54 = [b]
  | _, _ => False
def trμ (s : List UInt8) : Nat → Env → Nat
  | 0, _ => s.length + 10
  | 1, _ => 0
  | 2, ρ => (ρ.str 55).length + 2
  | 3, _ => 0
  | 4, ρ => (ρ.str 55).length + 1
  | _, _ => 0
theorem tr_calls (s : List UInt8) (hs : s.length ≤ 100000) (W : World) :
    Calls Tryz.prog 112 #[.string ⟨⟨s⟩⟩, .string ⟨⟨[10]⟩⟩] W fun e W' => e = .returned (.string ⟨⟨trimR s⟩⟩) ∧ Kept W W' := by
  have := Graph.calls (G := trG) (C := trC) (P := Tryz.prog) (I := trI s) (μ := trμ s) (J := fun ρ => ρ.str 51 = trimR s) (fun _ _ _ => ctx18 orcs_nil pors_nil) ?_ ?_ ?_ (ρ := Env.setS (env [] []) 50 s) rfl (F := []) (args := [.str [.var 50], .str [.lit [10]]]) (h := hpOf [] 64) trst
    (φ := pl0) (w := W) (xs := [.string ⟨⟨s⟩⟩, .string ⟨⟨[10]⟩⟩]) (wr0 _ W) glob0 (VRs.cons (by simp only [VR, SS.den, SP.den, List.append_nil]; rfl) (VRs.cons (by simp only [VR, SS.den, SP.den, List.append_nil]) VRs.nil))
  · exact this.mono fun e W' h => kept_of h (fun ρ' ψ z hJ hz => by
      have hz : VR ρ' ψ (.str [.var 51]) z := hz
      simp only [VR, SS.den, SP.den, List.append_nil] at hz; rw [hz, hJ]) rfl
  · intro k ρ hi
    match k, hi with
    | 0, hi => rw [trf0]; intro p hp; cases hp
    | 1, hi => rw [trf1]; intro p hp; cases hp
    | 2, hi =>
      obtain ⟨a, b, h1, h2, h3, h4⟩ := hi
      rw [trf2]; intro p hp
      simp only [List.mem_cons, List.not_mem_nil, or_false] at hp
      rcases hp with rfl
      simp [SB.den, SI.den, intCmp, ltInt_iff, h3]; omega
    | 3, hi => rw [trf3]; intro p hp; cases hp
    | 4, hi =>
      obtain ⟨a, b, h1, h2, h3, h4⟩ := hi
      rw [trf4]; intro p hp
      simp only [List.mem_cons, List.not_mem_nil, or_false] at hp
      rcases hp with rfl
      simp [SB.den, SI.den, intCmp, ltInt_iff, h3]; omega
  · intro k ρ hi
    match k, hi with
    | 0, _ => exact trat0
    | 1, _ => exact trat1
    | 2, _ => exact trat2
    | 3, _ => exact trat3
    | 4, _ => exact trat4
  · have step : ∀ (ρ : Env) (a : List UInt8) (b : UInt8), trimR s = trimR (a ++ [b]) → a.length ≤ 100000 → ρ.str 55 = a → ρ.str 54 = [b] → ∀ k, (a.length + 1 ≤ trμ s k ρ) →
        OTok (trI s) (trμ s) (fun ρ => ρ.str 51 = trimR s) k ρ tro4 := by
      intro ρ a b h1 h2 h3 h4 k hm
      simp only [tro4, OTok]
      refine ⟨fun h => ?_, fun h => ?_⟩
      · have hb : b = 10 := by
          simp [SB.den, SI.den, intCmp, eqInt_iff, h4] at h; exact b10.1 h
        subst hb
        rw [trimR_nl] at h1
        by_cases ha : a = []
        · subst ha
          exact .inl ⟨ρ, by simp [Eqns, Eqn.ok, SS.den, SP.den, h3], by show trimR s = []; rw [h1]; rfl, by show 0 < _; omega⟩
        · obtain ⟨c, d, rfl⟩ := snoc_of ha
          simp at h2 hm
          exact .inr ⟨trE c d ρ, by simp [Eqns, Eqn.ok, SS.den, SP.den, SI.den, trE, setS_str, h3], ⟨c, d, h1, by omega, rfl, rfl⟩, by show c.length + 1 < _; omega⟩
      · have hb : b ≠ 10 := by
          intro hb
          simp [SB.den, SI.den, intCmp, eqInt_iff, h4, hb] at h
        rw [trimR_other a hb] at h1
        exact ⟨ρ.setS 51 (trimR s), by simp [Eqns, Eqn.ok, SS.den, SP.den, SI.den, setS_str, h1, h3, h4], rfl⟩
    intro k ρ hi
    match k, hi with
    | 0, hi =>
      have hi : ρ.str 50 = s := hi
      show OTok (trI s) (trμ s) _ 0 ρ tro0
      simp only [tro0, OTok]
      by_cases ha : s = []
      · exact .inl ⟨ρ, by simp [Eqns, Eqn.ok, SS.den, SP.den, hi, ha], ha, by simp [trμ]⟩
      · obtain ⟨c, d, hcd⟩ := snoc_of ha
        have hl : s.length = c.length + 1 := by rw [hcd]; simp
        exact .inr ⟨trE c d ρ, by simp [Eqns, Eqn.ok, SS.den, SP.den, SI.den, trE, setS_str, hi, hcd], ⟨c, d, hcd, by omega, rfl, rfl⟩, by simp [trμ, trE, setS_str]; omega⟩
    | 1, hi =>
      have hi : s = [] := hi
      show OTok (trI s) (trμ s) _ 1 ρ tro1
      simp only [tro1, OTok]
      exact ⟨ρ.setS 51 [], by simp [Eqns, Eqn.ok, SS.den, SP.den, setS_str], by rw [hi]; rfl⟩
    | 2, hi =>
      obtain ⟨a, b, h1, h2, h3, h4⟩ := hi
      exact step ρ a b (by rw [h1]) h2 h3 h4 2 (by simp [trμ, h3])
    | 3, hi =>
      have hi : trimR s = [] := hi
      show OTok (trI s) (trμ s) _ 3 ρ tro3
      simp only [tro3, OTok]
      exact ⟨ρ.setS 51 [], by simp [Eqns, Eqn.ok, SS.den, SP.den, setS_str], by rw [hi]; rfl⟩
    | 4, hi =>
      obtain ⟨a, b, h1, h2, h3, h4⟩ := hi
      exact step ρ a b h1 h2 h3 h4 4 (by simp [trμ, h3])
theorem por_tr {ρ : Env} {a b : Nat} (h : ρ.str b = trimR (ρ.str a)) (hl : (ρ.str a).length ≤ 100000) : POrcOK Tryz.prog ρ { facts := [], f := 112, args := [.str [.var a], .str [.lit [10]]], pre := [], v := .str [.var b] } := by
  intro φ w xs n _ _ _ ha
  obtain ⟨x, ys, rfl, h1, h2⟩ := VRs.cons_left ha
  obtain ⟨y, zs, rfl, h3, h4⟩ := VRs.cons_left h2
  have := VRs.nil_left h4; subst this
  simp only [VR, SS.den, SP.den, List.append_nil] at h1 h3
  subst h1
  subst h3
  refine (tr_calls (ρ.str a) hl w).mono fun e w' ⟨he, hk⟩ => ⟨_, he, ?_, hk⟩
  simp only [VR, SS.den, SP.den, List.append_nil, h]
end Go.Sx
namespace Go.Sx
open Go.Proofs
set_option maxRecDepth 1000000

noncomputable def tnC : Ctx := ctxOf Tryz.prog lies18 exts18 [] []
noncomputable def tntg : List AM := [st tnC 33 [.ptr 79 0] (hpOf [(79, .cells false none [.slice 82 0 (.rlen 22) (.rest 2), .int .i64 (.var 1)] 77), (82, .rowv false 22 2 (.lit 0) [.str [.var 76], .int .i64 (.var 77)] 79)] 83) [(.cmp .leq (.slen 76) (.lit 4000), true), (.cmp .eql (.var 77) (.lit 3), false), (.cmp .geq (.rlen 22) (.lit 1), true), (.cmp .leq (.rlen 22) (.lit 60), true)],
    nd tnC 33 0 [(3, .ptr 83 0), (9, .slice 82 0 (.rlen 22) (.rest 2)), (10, .int .i64 (.rlen 22)), (11, .int .i64 (.var 0))]
      [(82, .rowv false 22 2 (.var 0) [.str [.var 30], .int .i64 (.var 31)] 79), (83, .cells false none [.ptr 83 0, .nilSlice] 70)] 84
      [(.cmp .geq (.var 0) (.lit 1), true), (.cmp .leq (.var 0) (.rlen 22), true), (.cmp .leq (.slen 30) (.lit 4000), true), (.cmp .eql (.var 31) (.lit 3), false), (.cmp .geq (.rlen 22) (.lit 1), true), (.cmp .leq (.rlen 22) (.lit 60), true)],
    nd tnC 33 0 [(3, .ptr 83 0), (9, .slice 82 0 (.rlen 22) (.rest 2)), (10, .int .i64 (.rlen 22)), (11, .int .i64 (.var 0))]
      [(82, .rowv false 22 2 (.var 0) [.str [.var 30], .int .i64 (.var 31)] 79), (83, .cells false none [.ptr 83 0, .slice 84 0 (.slen 32) (.rest 1)] 70), (84, .bytes [.var 32] 5 false)] 85
      [(.cmp .geq (.var 0) (.lit 1), true), (.cmp .leq (.var 0) (.rlen 22), true), (.cmp .leq (.slen 30) (.lit 4000), true), (.cmp .eql (.var 31) (.lit 3), false), (.cmp .geq (.rlen 22) (.lit 1), true), (.cmp .leq (.rlen 22) (.lit 60), true), (.cmp .geq (.slen 32) (.lit 1), true), (.cmp .leq (.slen 32) (.lit 4000), true)]]
noncomputable def tno0 : OT := (.fork (.cmp .eql (.slen 76) (.lit 0)) (.to 1 ⟨83, 84, [(83, 83)]⟩ [.int (.var 0) (.lit 1), .int (.rlen 22) (.rlen 22), .int (.rlen 22) (.rlen 22), .row 22 2 (some ((.v 22), 2)) [], .peek 22 (.var 0) [.str [.var 30], .int .i64 (.var 31)]]) (.to 2 ⟨83, 85, [(83, 83), (84, 85)]⟩ [.int (.var 0) (.lit 1), .int (.rlen 22) (.rlen 22), .int (.rlen 22) (.rlen 22), .int (.slen 32) (.slen 76), .str [.var 32] [.var 76], .row 22 2 (some ((.v 22), 2)) [], .peek 22 (.var 0) [.str [.var 30], .int .i64 (.var 31)]]))
noncomputable def tno1 : OT := (.fork (.cmp .lss (.var 0) (.rlen 22)) (.fork (.cmp .eql (.slen 30) (.lit 0)) (.to 1 ⟨83, 84, [(83, 83)]⟩ [.int (.var 0) (.add (.var 0) (.lit 1)), .int (.rlen 22) (.rlen 22), .int (.rlen 22) (.rlen 22), .row 22 2 (some ((.v 22), 2)) [], .peek 22 (.var 0) [.str [.var 30], .int .i64 (.var 31)]]) (.to 2 ⟨83, 85, [(83, 83), (84, 85)]⟩ [.int (.var 0) (.add (.var 0) (.lit 1)), .int (.rlen 22) (.rlen 22), .int (.rlen 22) (.rlen 22), .int (.slen 32) (.slen 30), .str [.var 32] [.var 30], .row 22 2 (some ((.v 22), 2)) [], .peek 22 (.var 0) [.str [.var 30], .int .i64 (.var 31)]])) (.fin ⟨83, 85, []⟩ [.str [.var 75] []]))
noncomputable def tno2 : OT := (.fork (.cmp .lss (.var 0) (.rlen 22)) (.to 2 ⟨83, 85, [(83, 83), (84, 86)]⟩ [.int (.var 0) (.add (.var 0) (.lit 1)), .int (.rlen 22) (.rlen 22), .int (.rlen 22) (.rlen 22), .int (.slen 32) (.add (.slen 32) (.slen 30)), .str [.var 32] [.var 32, .var 30], .row 22 2 (some ((.v 22), 2)) [], .peek 22 (.var 0) [.str [.var 30], .int .i64 (.var 31)]]) (.fin ⟨83, 85, []⟩ [.str [.var 75] [.var 32]]))
noncomputable def tnG : Graph := { tg := pick tntg, stop := (stopAny [(33, (0, 3))]), n := (fun _ => 800), pl := fun k => ([tno0, tno1, tno2].getD k .no).plan, o := fun k => [tno0, tno1, tno2].getD k .no, v := .str [.var 75], h := (hpOf [] 85), f := 33, N := 83 }
theorem tnat0 : tnG.At tnC 0 := ⟨by kernel_rfl, by kernel_rfl, by kernel_rfl⟩
theorem tnat1 : tnG.At tnC 1 := ⟨by kernel_rfl, by kernel_rfl, by kernel_rfl⟩
theorem tnat2 : tnG.At tnC 2 := ⟨by kernel_rfl, by kernel_rfl, by kernel_rfl⟩
theorem tnf0 : (tnG.tg 0).facts = [(.cmp .leq (.slen 76) (.lit 4000), true), (.cmp .eql (.var 77) (.lit 3), false), (.cmp .geq (.rlen 22) (.lit 1), true), (.cmp .leq (.rlen 22) (.lit 60), true)] := by kernel_rfl
theorem tnf1 : (tnG.tg 1).facts = [(.cmp .geq (.var 0) (.lit 1), true), (.cmp .leq (.var 0) (.rlen 22), true), (.cmp .leq (.slen 30) (.lit 4000), true), (.cmp .eql (.var 31) (.lit 3), false), (.cmp .geq (.rlen 22) (.lit 1), true), (.cmp .leq (.rlen 22) (.lit 60), true)] := by kernel_rfl
theorem tnf2 : (tnG.tg 2).facts = [(.cmp .geq (.var 0) (.lit 1), true), (.cmp .leq (.var 0) (.rlen 22), true), (.cmp .leq (.slen 30) (.lit 4000), true), (.cmp .eql (.var 31) (.lit 3), false), (.cmp .geq (.rlen 22) (.lit 1), true), (.cmp .leq (.rlen 22) (.lit 60), true), (.cmp .geq (.slen 32) (.lit 1), true), (.cmp .leq (.slen 32) (.lit 4000), true)] := by kernel_rfl
theorem tnst : startF tnC [(.cmp .leq (.slen 76) (.lit 4000), true), (.cmp .eql (.var 77) (.lit 3), false), (.cmp .geq (.rlen 22) (.lit 1), true), (.cmp .leq (.rlen 22) (.lit 60), true)] 33 [.ptr 79 0] (hpOf [(79, .cells false none [.slice 82 0 (.rlen 22) (.rest 2), .int .i64 (.var 1)] 77), (82, .rowv false 22 2 (.lit 0) [.str [.var 76], .int .i64 (.var 77)] 79)] 83) = some (tnG.tg 0) := by kernel_rfl
end Go.Sx
namespace Go.Sx
open Go.Proofs
set_option maxRecDepth 100000
noncomputable def p_tr : POrc := { facts := [], f := 112, args := [.str [.var 50], .str [.lit [10]]], pre := [], v := .str [.var 51] }
def nrow (p : Int × List UInt8) : List Value := qrow p.1 p.2
def ng (T : List (Int × List UInt8)) (i : Nat) : Int × List UInt8 := T.getD i (0, [])
def ntx (T : List (Int × List UInt8)) : List UInt8 := (T.map fun p => p.2).flatten
theorem nrow_ok (L : List (Int × List UInt8)) : ∀ q ∈ L.map nrow, q.length = 2 ∧ ∀ v ∈ q, v.oneCell' = true := by
  intro q h
  obtain ⟨p, _, rfl⟩ := List.mem_map.1 h
  exact ⟨rfl, fun v hv => by simp [nrow, qrow] at hv; rcases hv with rfl | rfl <;> rfl⟩
theorem npk {T : List (Int × List UInt8)} {i : Nat} : ∀ (xs : List Value) (x : Int) (y : List UInt8), T[i]? = some (x, y) → nrow (x, y) = xs → xs = [vstr (ng T i).2, .int .i64 (ng T i).1] := by
  intro xs x y h1 h2
  rw [← h2]; simp [ng, List.getD, h1, nrow, qrow]
theorem npk1 {T : List (Int × List UInt8)} {i : Nat} : ∀ (xs : List Value), (T.map nrow)[i]? = some xs → xs = [vstr (ng T i).2, .int .i64 (ng T i).1] := by
  intro xs h
  simp only [List.getElem?_map, Option.map_eq_some_iff] at h
  obtain ⟨⟨x, y⟩, h1, h2⟩ := h
  exact npk xs x y h1 h2
theorem ntx_app (a b : List (Int × List UInt8)) : ntx (a ++ b) = ntx a ++ ntx b := by simp [ntx]
theorem ntx_take {T : List (Int × List UInt8)} {i : Nat} (h : i < T.length) : ntx (T.take (i + 1)) = ntx (T.take i) ++ (ng T i).2 := by
  rw [List.take_succ_eq_append_getElem h, ntx_app]
  simp [ntx, ng, List.getD, List.getElem?_eq_getElem h]
theorem ntx_le (T : List (Int × List UInt8)) (i : Nat) : (ntx (T.take i)).length ≤ (ntx T).length := by
  conv => rhs; rw [← List.take_append_drop i T, ntx_app]
  simp
theorem ng_le (T : List (Int × List UInt8)) (i : Nat) : (ng T i).2.length ≤ (ntx T).length := by
  rcases Nat.lt_or_ge i T.length with h | h
  · have h1 := ntx_take h
    have h2 := ntx_le T (i + 1)
    rw [h1, List.length_append] at h2; omega
  · simp [ng, List.getD, List.getElem?_eq_none h]
theorem ng_k {T : List (Int × List UInt8)} (hk : ∀ p ∈ T, p.1 ≠ 3) (i : Nat) : (ng T i).1 ≠ 3 := by
  rcases Nat.lt_or_ge i T.length with h | h
  · have := hk T[i] (List.getElem_mem h)
    simpa [ng, List.getD, List.getElem?_eq_getElem h] using this
  · simp [ng, List.getD, List.getElem?_eq_none h]
def tnE (r : Nat) (T : List (Int × List UInt8)) (ρ : Env) (i : Nat) : Env := ((((ρ.setI 0 i).setI 31 (ng T i).1).setS 30 (ng T i).2).setS 32 (ntx (T.take i))).setR r (T.map nrow)
def tnI (r : Nat) (T : List (Int × List UInt8)) (ρ0 : Env) : Nat → Env → Prop
  | 0, ρ => ρ = ρ0
  | 1, ρ => ∃ i : Nat, 1 ≤ i ∧ i ≤ T.length ∧ ntx (T.take i) = [] ∧ ρ = tnE r T ρ0 i
  | 2, ρ => ∃ i : Nat, 1 ≤ i ∧ i ≤ T.length ∧ ntx (T.take i) ≠ [] ∧ ρ = tnE r T ρ0 i
  | _, _ => False
def tnμ (T : List (Int × List UInt8)) : Nat → Env → Nat
  | 0, _ => T.length + 2
  | _, ρ => T.length + 1 - (ρ.int 0).toNat
noncomputable def o_tn : Orc := { facts := [], f := 33, args := [.ptr 79 0], pre := [(79, .cells false none [.slice 82 0 (.rlen 22) (.rest 2), .int .i64 (.var 1)] 77), (82, .cells false (some (.v 22, 2)) [] 79)], next := 83, v := .str [.var 75], post := [], next' := 85 }
theorem tn_ok {T : List (Int × List UInt8)} {ρ : Env} (hT : T ≠ []) (hl : T.length ≤ 60) (hk : ∀ p ∈ T, p.1 ≠ 3) (hs : (ntx T).length ≤ 4000) (h22 : ρ.rows 22 = T.map nrow) (h75 : ρ.str 75 = ntx T) (h76 : ρ.str 76 = (ng T 0).2) (h77 : ρ.int 77 = (ng T 0).1) : OrcOK Tryz.prog ρ o_tn := by
  have gk := ng_k hk
  have gl : ∀ i, (ng T i).2.length ≤ 4000 := fun i => Nat.le_trans (ng_le T i) hs
  have gt : ∀ i, (ntx (T.take i)).length ≤ 4000 := fun i => Nat.le_trans (ntx_le T i) hs
  have T1 : 1 ≤ T.length := List.length_pos_iff.2 hT
  have rk := nrow_ok T
  refine orc_of_graph (G := tnG) (C := tnC) (I := tnI 22 T ρ) (μ := tnμ T) (l0 := [(79, .cells false none [.slice 82 0 (.rlen 22) (.rest 2), .int .i64 (.var 1)] 77), (82, .rowv false 22 2 (.lit 0) [.str [.var 76], .int .i64 (.var 77)] 79)]) (fun _ _ _ => ctx18 orcs_nil pors_nil) ?_ ?_ ?_ rfl tnst rfl rfl rfl rfl (by decide) (by kernel_rfl) ?_
  · intro k ρ' hi
    match k, hi with
    | 0, hi =>
      replace hi : ρ' = ρ := hi
      subst hi
      rw [tnf0]
      have e1 := gk 0
      have e2 := gl 0
      intro p hp
      simp only [List.mem_cons, List.not_mem_nil, or_false] at hp
      rcases hp with rfl | rfl | rfl | rfl <;> simp [SB.den, SI.den, intCmp, ltInt_iff, eqInt_iff, h22, h76, h77] <;> omega
    | 1, hi =>
      obtain ⟨i, h1, h2, h3, rfl⟩ := hi
      rw [tnf1]
      have e1 := gk i
      have e2 := gl i
      have e3 := gt i
      intro p hp
      simp only [List.mem_cons, List.not_mem_nil, or_false] at hp
      rcases hp with rfl | rfl | rfl | rfl | rfl | rfl <;> simp [SB.den, SI.den, intCmp, ltInt_iff, eqInt_iff, tnE, setI_int, setR_int, setR_rows, setR_str, setS_int, setS_str] <;> omega
    | 2, hi =>
      obtain ⟨i, h1, h2, h3, rfl⟩ := hi
      rw [tnf2]
      have e1 := gk i
      have e2 := gl i
      have e3 := gt i
      have e4 := List.length_pos_iff.2 h3
      intro p hp
      simp only [List.mem_cons, List.not_mem_nil, or_false] at hp
      rcases hp with rfl | rfl | rfl | rfl | rfl | rfl | rfl | rfl <;> simp [SB.den, SI.den, intCmp, ltInt_iff, eqInt_iff, tnE, setI_int, setR_int, setR_rows, setR_str, setS_int, setS_str] <;> omega
  · intro k ρ' hi
    match k, hi with
    | 0, _ => exact tnat0
    | 1, _ => exact tnat1
    | 2, _ => exact tnat2
  · intro k ρ' hi
    match k, hi with
    | 0, hi =>
      replace hi : ρ' = ρ := hi
      subst hi
      show OTok _ _ _ 0 ρ' tno0
      simp only [tno0, OTok]
      have hx := ntx_take (T := T) (i := 0) (by omega)
      simp only [List.take_zero, show ntx [] = [] from rfl, List.nil_append, Nat.zero_add] at hx
      refine ⟨fun g => ?_, fun g => ?_⟩
      · have g0 : (ng T 0).2 = [] := by simpa [SB.den, SI.den, intCmp, eqInt_iff, h76] using g
        refine ⟨tnE 22 T ρ' 1, ?_, ⟨1, by omega, by omega, by rw [hx, g0], rfl⟩, by simp [tnμ, tnE, setS_int, setR_int, setI_int]⟩
        simp [Eqns, Eqn.ok, tnE, SI.den, SS.den, SP.den, setI_int, setI_rows, setR_int, setR_rows, setR_str, setS_int, setS_rows, setS_str, preCells, RX.flat, RX.ok, AV.val, h22]
        repeat' apply And.intro
        all_goals first | omega | exact npk | (simpa using rk)
      · have g0 : (ng T 0).2 ≠ [] := by simpa [SB.den, SI.den, intCmp, eqInt_iff, h76] using g
        refine ⟨tnE 22 T ρ' 1, ?_, ⟨1, by omega, by omega, by rw [hx]; exact g0, rfl⟩, by simp [tnμ, tnE, setS_int, setR_int, setI_int]⟩
        simp [Eqns, Eqn.ok, tnE, SI.den, SS.den, SP.den, setI_int, setI_rows, setR_int, setR_rows, setR_str, setS_int, setS_rows, setS_str, preCells, RX.flat, RX.ok, AV.val, h22, hx, h76]
        repeat' apply And.intro
        all_goals first | omega | exact npk | (simpa using rk)
    | 1, hi =>
      obtain ⟨i, h1, h2, h3, rfl⟩ := hi
      show OTok _ _ _ 1 _ tno1
      simp only [tno1, OTok]
      refine ⟨fun h => ⟨fun g => ?_, fun g => ?_⟩, fun h => ?_⟩
      ·
        have hlt : i < T.length := by
          simp [SB.den, SI.den, intCmp, ltInt_iff, tnE, setS_int, setR_int, setI_int, setR_rows] at h
          omega
        have hx := ntx_take hlt
        have g0 : (ng T i).2 = [] := by simpa [SB.den, SI.den, intCmp, eqInt_iff, tnE, setS_str, setR_str, setI_str] using g
        refine ⟨tnE 22 T ρ (i + 1), ?_, ⟨i + 1, by omega, by omega, by rw [hx, h3, g0]; rfl, rfl⟩, by simp [tnμ, tnE, setS_int, setR_int, setI_int]; omega⟩
        simp [Eqns, Eqn.ok, tnE, SI.den, SS.den, SP.den, setI_int, setI_rows, setR_int, setR_rows, setR_str, setS_int, setS_rows, setS_str, preCells, RX.flat, RX.ok, AV.val, hx, h3, g0]
        repeat' apply And.intro
        all_goals first | omega | exact npk | (simpa using rk)
      ·
        have hlt : i < T.length := by
          simp [SB.den, SI.den, intCmp, ltInt_iff, tnE, setS_int, setR_int, setI_int, setR_rows] at h
          omega
        have hx := ntx_take hlt
        have g0 : (ng T i).2 ≠ [] := by simpa [SB.den, SI.den, intCmp, eqInt_iff, tnE, setS_str, setR_str, setI_str] using g
        refine ⟨tnE 22 T ρ (i + 1), ?_, ⟨i + 1, by omega, by omega, by rw [hx, h3]; simpa using g0, rfl⟩, by simp [tnμ, tnE, setS_int, setR_int, setI_int]; omega⟩
        simp [Eqns, Eqn.ok, tnE, SI.den, SS.den, SP.den, setI_int, setI_rows, setR_int, setR_rows, setR_str, setS_int, setS_rows, setS_str, preCells, RX.flat, RX.ok, AV.val, hx, h3]
        repeat' apply And.intro
        all_goals first | omega | exact npk | (simpa using rk)
      ·
        have hlt : T.length ≤ i := by
          simp [SB.den, SI.den, intCmp, ltInt_iff, tnE, setS_int, setR_int, setI_int, setR_rows] at h
          omega
        rw [List.take_of_length_le hlt] at h3
        refine ⟨ρ, ?_, rfl⟩
        simp [Eqns, Eqn.ok, tnE, SS.den, SP.den, preCells, RX.ok, h75, List.take_of_length_le hlt, h3]
    | 2, hi =>
      obtain ⟨i, h1, h2, h3, rfl⟩ := hi
      show OTok _ _ _ 2 _ tno2
      simp only [tno2, OTok]
      refine ⟨fun h => ?_, fun h => ?_⟩
      ·
        have hlt : i < T.length := by
          simp [SB.den, SI.den, intCmp, ltInt_iff, tnE, setS_int, setR_int, setI_int, setR_rows] at h
          omega
        have hx := ntx_take hlt
        refine ⟨tnE 22 T ρ (i + 1), ?_, ⟨i + 1, by omega, by omega, by rw [hx]; simp [h3], rfl⟩, by simp [tnμ, tnE, setS_int, setR_int, setI_int]; omega⟩
        simp [Eqns, Eqn.ok, tnE, SI.den, SS.den, SP.den, setI_int, setI_rows, setR_int, setR_rows, setR_str, setS_int, setS_rows, setS_str, preCells, RX.flat, RX.ok, AV.val, hx]
        repeat' apply And.intro
        all_goals first | omega | exact npk | (simpa using rk)
      ·
        have hlt : T.length ≤ i := by
          simp [SB.den, SI.den, intCmp, ltInt_iff, tnE, setS_int, setR_int, setI_int, setR_rows] at h
          omega
        rw [List.take_of_length_le hlt] at h3
        refine ⟨ρ, ?_, rfl⟩
        simp [Eqns, Eqn.ok, tnE, SS.den, SP.den, setR_str, setS_str, preCells, RX.ok, h75, List.take_of_length_le hlt]
  · refine ⟨rfl, .inl rfl, rfl, .inr ⟨_, _, _, _, _, _, rfl, rfl, rfl, by simp [SI.den], ?_⟩, trivial⟩
    intro xs hx
    simp only [SI.den, h22] at hx
    rw [npk1 xs hx]
    simp [AV.val, SS.den, SP.den, SI.den, h76, h77, vstr]
end Go.Sx
namespace Go.Sx
open Go.Proofs
set_option maxRecDepth 1000000

noncomputable def wqC : Ctx := withHp (ctxOf Tryz.prog lies18 exts18 [] []) 77
noncomputable def wqtg : List AM := [st wqC 113 [.ptr 72 0, .str [.chr (.sbyte 54 (.lit 0)), .var 46], .bool (.lit true)] (hpOf [] 79) [(.cmp .leq (.slen 46) (.lit 100), true), (.cmp .eql (.sbyte 54 (.lit 0)) (.lit 36), false), (.cmp .eql (.sbyte 54 (.lit 0)) (.lit 92), false), (.cmp .eql (.sbyte 54 (.lit 0)) (.lit 96), false)],
    ndS (frS wqC 46 3 [(0, .ptr 72 0), (1, .ptr 79 0), (2, .str [.chr (.sbyte 54 (.lit 0)), .var 46]), (3, .bool (.lit true)), (8, .ptr 80 0)] []) [(frS wqC 113 8 [(6, .nilPtr), (7, .ptr 79 0)] [])] [(79, .cells false none [.nilSlice, .int .i64 (.lit 0)] 77), (80, .cells false none [.slice 85 0 (.rlen 22) (.rest 2), .int .i64 (.var 1)] 77), (85, .cells false (some (.v 22, 2)) [] 79)] 86 [(.cmp .leq (.slen 46) (.lit 100), true), (.cmp .geq (.rlen 22) (.lit 1), true), (.cmp .leq (.rlen 22) (.lit 100), true), (.cmp .geq (.var 1) (.lit 0), true), (.cmp .leq (.var 1) (.lit 1000), true), (.cmp .eql (.sbyte 54 (.lit 0)) (.lit 36), false), (.cmp .eql (.sbyte 54 (.lit 0)) (.lit 92), false), (.cmp .eql (.sbyte 54 (.lit 0)) (.lit 96), false)],
    ndS (frS wqC 46 3 [(0, .ptr 72 0), (1, .ptr 79 0), (2, .str []), (3, .bool (.lit true)), (8, .ptr 80 0)] []) [(frS wqC 113 8 [(6, .nilPtr), (7, .ptr 79 0)] [])] [(79, .cells false none [.nilSlice, .int .i64 (.lit 0)] 77), (80, .cells false none [.slice 85 0 (.rlen 22) (.rest 2), .int .i64 (.var 1)] 77), (85, .cells false (some (.v 22, 2)) [] 79)] 86 [(.cmp .geq (.rlen 22) (.lit 1), true), (.cmp .leq (.rlen 22) (.lit 100), true), (.cmp .geq (.var 1) (.lit 0), true), (.cmp .leq (.var 1) (.lit 1000), true)]]
noncomputable def wqo0 : OT := (.fork (.cmp .geq (.add (.lit 1) (.slen 46)) (.lit 2)) (.alt (.to 1 ⟨79, 86, [(79, 79), (80, 80), (85, 85)]⟩ [.str [.chr (.sbyte 54 (.lit 0)), .var 46] [.var 46], .row 22 2 none [.str [.chr (.sbyte 54 (.lit 0))], .int .i64 (.lit 1)], .int (.rlen 22) (.lit 1), .int (.var 1) (.lit 1)]) (.to 2 ⟨79, 86, [(79, 79), (80, 80), (85, 85)]⟩ [.str [] [.var 46], .row 22 2 none [.str [.chr (.sbyte 54 (.lit 0))], .int .i64 (.lit 1)], .int (.rlen 22) (.lit 1), .int (.var 1) (.lit 1)])) (.alt (.to 1 ⟨79, 86, [(79, 79), (80, 80), (85, 85)]⟩ [.str [.chr (.sbyte 54 (.lit 0)), .var 46] [.var 46], .row 22 2 none [.str [.chr (.sbyte 54 (.lit 0))], .int .i64 (.lit 1)], .int (.rlen 22) (.lit 1), .int (.var 1) (.lit 1)]) (.to 2 ⟨79, 86, [(79, 79), (80, 80), (85, 85)]⟩ [.str [] [.var 46], .row 22 2 none [.str [.chr (.sbyte 54 (.lit 0))], .int .i64 (.lit 1)], .int (.rlen 22) (.lit 1), .int (.var 1) (.lit 1)])))
noncomputable def wqo1 : OT := (.fork (.cmp .geq (.add (.lit 1) (.slen 46)) (.lit 2)) (.alt (.to 1 ⟨79, 86, [(79, 79), (80, 80), (85, 90)]⟩ [.str [.chr (.sbyte 54 (.lit 0)), .var 46] [.var 46], .row 22 2 (some ((.v 22), 2)) [.str [.chr (.sbyte 54 (.lit 0))], .int .i64 (.lit 1)], .int (.rlen 22) (.add (.rlen 22) (.lit 1)), .int (.var 1) (.add (.var 1) (.lit 1))]) (.to 2 ⟨79, 86, [(79, 79), (80, 80), (85, 90)]⟩ [.str [] [.var 46], .row 22 2 (some ((.v 22), 2)) [.str [.chr (.sbyte 54 (.lit 0))], .int .i64 (.lit 1)], .int (.rlen 22) (.add (.rlen 22) (.lit 1)), .int (.var 1) (.add (.var 1) (.lit 1))])) (.alt (.to 1 ⟨79, 86, [(79, 79), (80, 80), (85, 90)]⟩ [.str [.chr (.sbyte 54 (.lit 0)), .var 46] [.var 46], .row 22 2 (some ((.v 22), 2)) [.str [.chr (.sbyte 54 (.lit 0))], .int .i64 (.lit 1)], .int (.rlen 22) (.add (.rlen 22) (.lit 1)), .int (.var 1) (.add (.var 1) (.lit 1))]) (.to 2 ⟨79, 86, [(79, 79), (80, 80), (85, 90)]⟩ [.str [] [.var 46], .row 22 2 (some ((.v 22), 2)) [.str [.chr (.sbyte 54 (.lit 0))], .int .i64 (.lit 1)], .int (.rlen 22) (.add (.rlen 22) (.lit 1)), .int (.var 1) (.add (.var 1) (.lit 1))])))
noncomputable def wqo2 : OT := (.fin ⟨79, 83, [(79, 79), (82, 86)]⟩ [.int (.rlen 22) (.rlen 22), .int (.var 1) (.var 1), .row 22 2 (some ((.v 22), 2)) []])
noncomputable def wqG : Graph := { tg := pick wqtg, stop := (stopAny [(46, (1, 3))]), n := (fun _ => 3000), pl := fun k => ([wqo0, wqo1, wqo2].getD k .no).plan, o := fun k => [wqo0, wqo1, wqo2].getD k .no, v := .ptr 79 0, h := (hpOf [(79, .cells false none [.slice 82 0 (.rlen 22) (.rest 2), .int .i64 (.var 1)] 77), (82, .cells false (some (.v 22, 2)) [] 79)] 83), f := 113, N := 79 }
theorem wqat0 : wqG.At wqC 0 := ⟨by kernel_rfl, by kernel_rfl, by kernel_rfl⟩
theorem wqat1 : wqG.At wqC 1 := ⟨by kernel_rfl, by kernel_rfl, by kernel_rfl⟩
theorem wqat2 : wqG.At wqC 2 := ⟨by kernel_rfl, by kernel_rfl, by kernel_rfl⟩
theorem wqf0 : (wqG.tg 0).facts = [(.cmp .leq (.slen 46) (.lit 100), true), (.cmp .eql (.sbyte 54 (.lit 0)) (.lit 36), false), (.cmp .eql (.sbyte 54 (.lit 0)) (.lit 92), false), (.cmp .eql (.sbyte 54 (.lit 0)) (.lit 96), false)] := by kernel_rfl
theorem wqf1 : (wqG.tg 1).facts = [(.cmp .leq (.slen 46) (.lit 100), true), (.cmp .geq (.rlen 22) (.lit 1), true), (.cmp .leq (.rlen 22) (.lit 100), true), (.cmp .geq (.var 1) (.lit 0), true), (.cmp .leq (.var 1) (.lit 1000), true), (.cmp .eql (.sbyte 54 (.lit 0)) (.lit 36), false), (.cmp .eql (.sbyte 54 (.lit 0)) (.lit 92), false), (.cmp .eql (.sbyte 54 (.lit 0)) (.lit 96), false)] := by kernel_rfl
theorem wqf2 : (wqG.tg 2).facts = [(.cmp .geq (.rlen 22) (.lit 1), true), (.cmp .leq (.rlen 22) (.lit 100), true), (.cmp .geq (.var 1) (.lit 0), true), (.cmp .leq (.var 1) (.lit 1000), true)] := by kernel_rfl
theorem wqst : startF wqC [(.cmp .leq (.slen 46) (.lit 100), true), (.cmp .eql (.sbyte 54 (.lit 0)) (.lit 36), false), (.cmp .eql (.sbyte 54 (.lit 0)) (.lit 92), false), (.cmp .eql (.sbyte 54 (.lit 0)) (.lit 96), false)] 113 [.ptr 72 0, .str [.chr (.sbyte 54 (.lit 0)), .var 46], .bool (.lit true)] (hpOf [] 79) = some (wqG.tg 0) := by kernel_rfl
end Go.Sx
namespace Go.Sx
open Go.Proofs
set_option maxRecDepth 100000
/-! word: bytes within a quote that begin no part -/
def npt (b : UInt8) : Prop := b.toNat ≠ 36 ∧ b.toNat ≠ 92 ∧ b.toNat ≠ 96
def qb (s : List UInt8) : List (Int × List UInt8) := s.map fun b => (1, [b])
theorem ntx_qb (s : List UInt8) : ntx (qb s) = s := by
  induction s with
  | nil => rfl
  | cons a s ih => simp only [qb, ntx, List.map_cons, List.flatten_cons] at ih ⊢; rw [ih]; rfl
def wqE (p : List UInt8) (c : UInt8) (t : List UInt8) (ρ : Env) : Env := (((ρ.setS 54 [c]).setS 46 t).setR 22 ((qb p).map nrow)).setI 1 p.length
def wqF (s : List UInt8) (ρ : Env) : Env := (ρ.setR 22 ((qb s).map nrow)).setI 1 s.length
def wqI (s : List UInt8) (ρ0 : Env) : Nat → Env → Prop
  | 0, ρ => ρ = ρ0
  | 1, ρ => ∃ p c t, s = p ++ c :: t ∧ p ≠ [] ∧ ρ = wqE p c t ρ0
  | 2, ρ => ρ = wqF s ρ0
  | _, _ => False
def wqμ : Nat → Env → Nat
  | 0, _ => 1000
  | 1, ρ => (ρ.str 46).length + 1
  | _, _ => 0
noncomputable def wqO (a : SS) : Orc := { facts := [], f := 113, args := [.ptr 72 0, .str a, .bool (.lit true)], pre := [], next := 79, v := .ptr 79 0, post := [(79, .cells false none [.slice 82 0 (.rlen 22) (.rest 2), .int .i64 (.var 1)] 77), (82, .cells false (some (.v 22, 2)) [] 79)], next' := 83 }
theorem qb_snoc (p : List UInt8) (c : UInt8) : (qb (p ++ [c])).map nrow = (qb p).map nrow ++ [[vstr [c], .int .i64 1]] := by simp [qb, nrow, qrow]
theorem wq_ok {s t0 : List UInt8} {c0 : UInt8} {ρ : Env} (e0 : s = c0 :: t0) (hl : s.length ≤ 60) (hb : ∀ b ∈ s, npt b) (h54 : ρ.str 54 = [c0]) (h46 : ρ.str 46 = t0) (h22 : ρ.rows 22 = (qb s).map nrow) (h1 : ρ.int 1 = s.length) : OrcOK Tryz.prog ρ (wqO [.chr (.sbyte 54 (.lit 0)), .var 46]) := by
  refine orc_of_graph (G := wqG) (C := wqC) (I := wqI s ρ) (μ := wqμ) (l0 := []) (fun _ _ _ => withHp_ok (ctx18 orcs_nil pors_nil) hp77) ?_ ?_ ?_ rfl wqst rfl rfl rfl rfl (by decide) (by kernel_rfl) (RefL.refl _ _)
  · intro k ρ' hi
    match k, hi with
    | 0, hi =>
      obtain rfl : ρ' = ρ := hi
      obtain ⟨b1, b2, b3⟩ := hb c0 (by rw [e0]; simp)
      rw [e0, List.length_cons] at hl
      rw [wqf0]; intro p hp
      simp only [List.mem_cons, List.not_mem_nil, or_false] at hp
      rcases hp with rfl | rfl | rfl | rfl <;> simp [SB.den, SI.den, intCmp, ltInt_iff, eqInt_iff, h54, h46] <;> omega
    | 1, hi =>
      obtain ⟨p, c, t, e, hp, rfl⟩ := hi
      obtain ⟨b1, b2, b3⟩ := hb c (by rw [e]; simp)
      have hp := List.length_pos_iff.2 hp
      rw [e, List.length_append, List.length_cons] at hl
      have r1 : ((qb p).map nrow).length = p.length := by simp [qb]
      rw [wqf1]; intro q hq
      simp only [List.mem_cons, List.not_mem_nil, or_false] at hq
      rcases hq with rfl | rfl | rfl | rfl | rfl | rfl | rfl | rfl <;> simp [SB.den, SI.den, intCmp, ltInt_iff, eqInt_iff, wqE, setI_int, setR_rows, setI_rows, setI_str, setR_str, setS_str, qb] <;> omega
    | 2, hi =>
      obtain rfl : ρ' = wqF s ρ := hi
      have hs : 1 ≤ s.length := by rw [e0]; simp
      rw [wqf2]; intro q hq
      simp only [List.mem_cons, List.not_mem_nil, or_false] at hq
      rcases hq with rfl | rfl | rfl | rfl <;> simp [SB.den, SI.den, intCmp, ltInt_iff, eqInt_iff, wqF, setI_int, setR_rows, setI_rows, qb] <;> omega
  · intro k ρ' hi
    match k, hi with
    | 0, _ => exact wqat0
    | 1, _ => exact wqat1
    | 2, _ => exact wqat2
  · intro k ρ' hi
    match k, hi with
    | 0, hi =>
      obtain rfl : ρ' = ρ := hi
      show OTok (wqI s ρ') wqμ _ 0 ρ' wqo0
      simp only [wqo0, OTok]
      have key : (∃ ρ'', Eqns ρ'' ρ' [.str [.chr (.sbyte 54 (.lit 0)), .var 46] [.var 46], .row 22 2 none [.str [.chr (.sbyte 54 (.lit 0))], .int .i64 (.lit 1)], .int (.rlen 22) (.lit 1), .int (.var 1) (.lit 1)] ∧ wqI s ρ' 1 ρ'' ∧ wqμ 1 ρ'' < wqμ 0 ρ') ∨
          (∃ ρ'', Eqns ρ'' ρ' [.str [] [.var 46], .row 22 2 none [.str [.chr (.sbyte 54 (.lit 0))], .int .i64 (.lit 1)], .int (.rlen 22) (.lit 1), .int (.var 1) (.lit 1)] ∧ wqI s ρ' 2 ρ'' ∧ wqμ 2 ρ'' < wqμ 0 ρ') := by
        cases t0 with
        | nil =>
          refine .inr ⟨wqF [c0] ρ', ?_, by rw [e0]; rfl, by simp [wqμ]⟩
          simp [Eqns, Eqn.ok, SI.den, SS.den, SP.den, wqF, setI_int, setR_rows, setI_rows, h54, h46, qb, nrow, qrow, preCells, RX.ok, AV.val, vstr]
          exact ⟨rfl, rfl⟩
        | cons c t =>
          refine .inl ⟨wqE [c0] c t ρ', ?_, ⟨[c0], c, t, e0, by simp, rfl⟩, by rw [e0] at hl; simp only [List.length_cons] at hl; simp [wqμ, wqE, setI_str, setR_str, setS_str]; omega⟩
          simp [Eqns, Eqn.ok, SI.den, SS.den, SP.den, wqE, setI_int, setR_rows, setI_rows, setI_str, setR_str, setS_str, h54, h46, qb, nrow, qrow, preCells, RX.ok, AV.val, vstr]
          exact ⟨rfl, rfl⟩
      exact ⟨fun _ => key, fun _ => key⟩
    | 1, hi =>
      obtain ⟨p, c, t, e, hp, rfl⟩ := hi
      show OTok (wqI s ρ) wqμ _ 1 _ wqo1
      simp only [wqo1, OTok]
      have key : (∃ ρ'', Eqns ρ'' (wqE p c t ρ) [.str [.chr (.sbyte 54 (.lit 0)), .var 46] [.var 46], .row 22 2 (some (.v 22, 2)) [.str [.chr (.sbyte 54 (.lit 0))], .int .i64 (.lit 1)], .int (.rlen 22) (.add (.rlen 22) (.lit 1)), .int (.var 1) (.add (.var 1) (.lit 1))] ∧ wqI s ρ 1 ρ'' ∧ wqμ 1 ρ'' < wqμ 1 (wqE p c t ρ)) ∨
          (∃ ρ'', Eqns ρ'' (wqE p c t ρ) [.str [] [.var 46], .row 22 2 (some (.v 22, 2)) [.str [.chr (.sbyte 54 (.lit 0))], .int .i64 (.lit 1)], .int (.rlen 22) (.add (.rlen 22) (.lit 1)), .int (.var 1) (.add (.var 1) (.lit 1))] ∧ wqI s ρ 2 ρ'' ∧ wqμ 2 ρ'' < wqμ 1 (wqE p c t ρ)) := by
        have hrows : ∀ q : List Value, (∃ a b, (a, b) ∈ qb p ∧ nrow (a, b) = q) ∨ q = [vstr [c], Value.int .i64 1] → q.length = 2 ∧ ∀ v ∈ q, v.oneCell' = true := by
          rintro q (⟨a, b, hm, rfl⟩ | rfl)
          · exact nrow_ok (qb p) _ (List.mem_map_of_mem hm)
          · exact ⟨rfl, fun v hv => by simp at hv; rcases hv with rfl | rfl <;> rfl⟩
        have r1 : ((qb p).map nrow).length = p.length := by simp [qb]
        cases t with
        | nil =>
          refine .inr ⟨wqF s ρ, ?_, rfl, by simp [wqμ, wqE, setI_str, setR_str, setS_str]⟩
          rw [e]
          simp [-List.length_flatten, Eqns, Eqn.ok, SI.den, SS.den, SP.den, wqE, wqF, setI_int, setR_rows, setI_rows, setI_str, setR_str, setS_str, qb_snoc, preCells, RX.flat, RX.ok, AV.val, r1]
          exact ⟨rfl, hrows⟩
        | cons c' t =>
          refine .inl ⟨wqE (p ++ [c]) c' t ρ, ?_, ⟨p ++ [c], c', t, by rw [e]; simp, by simp, rfl⟩, by simp [wqμ, wqE, setI_str, setR_str, setS_str]⟩
          simp [-List.length_flatten, Eqns, Eqn.ok, SI.den, SS.den, SP.den, wqE, setI_int, setR_rows, setI_rows, setI_str, setR_str, setS_str, qb_snoc, preCells, RX.flat, RX.ok, AV.val, r1]
          exact ⟨rfl, hrows⟩
      exact ⟨fun _ => key, fun _ => key⟩
    | 2, hi =>
      obtain rfl : ρ' = wqF s ρ := hi
      show OTok (wqI s ρ) wqμ _ 2 _ wqo2
      simp only [wqo2, OTok]
      refine ⟨ρ, ?_, rfl⟩
      simp [-List.length_flatten, Eqns, Eqn.ok, SI.den, wqF, setI_int, setR_rows, setI_rows, h22, h1, preCells, RX.flat, RX.ok]
      rintro q x y hm rfl
      exact nrow_ok (qb s) _ (List.mem_map_of_mem hm)
end Go.Sx
