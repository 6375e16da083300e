import Derived.Test.YtanpkoghglnphaaGreatDoorCtx
import Derived.Lib.Strings
import Derived.Lib.Slices
import Derived.Lib.Walk
import Derived.Test.YtanpkoghglnphaaGreatDoorEnv
namespace Go.Sx
open Go.Proofs
set_option maxRecDepth 100000
/-- strings.HasPrefix as a known call -/
def withHp (C : Ctx) (f : Nat) : Ctx := { C with hp := some f }
theorem withHp_ok {C : Ctx} {P : Program} {ρ : Env} {f : Nat} (h : CtxOK C P ρ) (hp : HpOK P f) : CtxOK (withHp C f) P ρ :=
  ⟨h.ext, h.fn, h.noNum, h.ty, h.lies, h.mixed, h.depth, h.orc, h.por, fun g hg => by cases hg; exact hp⟩
theorem isPre_has : ∀ p s : List UInt8, isPre p s = Lib.hasPrefix s p
  | [], s => by simp [isPre, Lib.hasPrefix]
  | _ :: _, [] => by simp [isPre, Lib.hasPrefix]
  | x :: a, y :: b => by
    have := isPre_has a b
    simp only [isPre, this, Lib.hasPrefix, List.isPrefixOf]
    by_cases e : x = y
    · subst e
      have : eqByte x x = true := by simp [eqByte]
      simp [this]
    · have h : eqByte x y = false := by
        cases h : eqByte x y
        · rfl
        · exact absurd (eqByte_eq h) e
      simp [h, e]
theorem hp_calls (s p : ByteArray) (w : World) :
    Calls Tryz.prog 77 #[.string s, .string p] w fun e w' => e = .returned (.bool (Lib.hasPrefix s.data.toList p.data.toList)) ∧ w' = w := by
  rw [← Lib.hasPrefix_of_take, ← Lib.size_eq, ← Lib.size_eq]
  go_enter Tryz.func77, Tryz.ntmps77
  go_wp2
  · rename_i h
    go_ret
    refine ⟨?_, rfl⟩
    show Ending.returned (Value.bool ((s.extract 0 p.size).toList == p.toList)) = _
    rw [Lib.extract_toList, Lib.toList_data]
    simp [h]
  · rename_i h
    go_ret
    refine ⟨?_, rfl⟩
    show Ending.returned (Value.bool false) = _
    simp [h]
theorem hp77 : HpOK Tryz.prog 77 := by
  intro s p w
  refine (hp_calls ⟨⟨s⟩⟩ ⟨⟨p⟩⟩ w).mono fun e w' ⟨he, hw⟩ => ?_
  subst hw
  exact ⟨by rw [he]; exact congrArg (fun b => Ending.returned (Value.bool b)) (isPre_has p s).symm, fun b _ => rfl, ⟨rfl, rfl⟩, Nat.le_refl _⟩
end Go.Sx
namespace Go.Sx
open Go.Proofs
set_option maxRecDepth 100000
noncomputable def tl (a b : SS) : POrc := { facts := [], f := 145, args := [.str a, .str [.lit [32, 9, 10]]], pre := [], v := .str b }
noncomputable def p_c0 : POrc := { facts := [], f := 178, args := [.str [.var 30]], pre := [], v := .tup [.int .i64 (.var 34), .bool (.lit true)] }
noncomputable def p_c1 : POrc := { facts := [], f := 178, args := [.str [.var 31]], pre := [], v := .tup [.int .i64 (.var 35), .bool (.lit true)] }
noncomputable def sM (b : Bool) : List UInt8 := if b then [32, 43, 32, 45] else [32, 43, 32]
noncomputable def sX (a : Bool) : List UInt8 := if a then [120, 32, 61, 32, 45] else [120, 32, 61, 32]
noncomputable def tls (b : Bool) : List POrc := [tl [.lit [32], .var 30, .lit (sM b), .var 31] [.var 30, .lit (sM b), .var 31], tl [.var 30, .lit (sM b), .var 31] [.var 30, .lit (sM b), .var 31], tl [.lit [32], .var 31] [.var 31], tl [.var 31] [.var 31]]
noncomputable def tabB : Nat × ABlk := (1, .cells true none [.int .u64 (.lit 1), .int .u64 (.lit 10), .int .u64 (.lit 100), .int .u64 (.lit 1000), .int .u64 (.lit 10000), .int .u64 (.lit 100000), .int .u64 (.lit 1000000), .int .u64 (.lit 10000000), .int .u64 (.lit 100000000), .int .u64 (.lit 1000000000), .int .u64 (.lit 10000000000), .int .u64 (.lit 100000000000), .int .u64 (.lit 1000000000000), .int .u64 (.lit 10000000000000), .int .u64 (.lit 100000000000000), .int .u64 (.lit 1000000000000000), .int .u64 (.lit 10000000000000000), .int .u64 (.lit 100000000000000000), .int .u64 (.lit 1000000000000000000), .int .u64 (.lit 10000000000000000000)] 1000)
noncomputable def rowsB (b : Nat) : List (Nat × ABlk) := [(b, .cells false none [.str [.lit [124, 124]]] 9), (b + 1, .cells false none [.str [.lit [38, 38]]] 9), (b + 2, .cells false none [.str [.lit [124]]] 9), (b + 3, .cells false none [.str [.lit [94]]] 9), (b + 4, .cells false none [.str [.lit [38]]] 9), (b + 5, .cells false none [.str [.lit [61, 61]], .str [.lit [33, 61]]] 9), (b + 6, .cells false none [.str [.lit [60]], .str [.lit [60, 61]], .str [.lit [62]], .str [.lit [62, 61]]] 9), (b + 7, .cells false none [.str [.lit [60, 60]], .str [.lit [62, 62]]] 9), (b + 8, .cells false none [.str [.lit [43]], .str [.lit [45]]] 9), (b + 9, .cells false none [.str [.lit [42]], .str [.lit [47]], .str [.lit [37]]] 9), (b + 10, .cells false none [.slice b 0 (.lit 1) (.known 1), .slice (b + 1) 0 (.lit 1) (.known 1), .slice (b + 2) 0 (.lit 1) (.known 1), .slice (b + 3) 0 (.lit 1) (.known 1), .slice (b + 4) 0 (.lit 1) (.known 1), .slice (b + 5) 0 (.lit 2) (.known 2), .slice (b + 6) 0 (.lit 4) (.known 4), .slice (b + 7) 0 (.lit 2) (.known 2), .slice (b + 8) 0 (.lit 2) (.known 2), .slice (b + 9) 0 (.lit 3) (.known 3)] 22)]
noncomputable def numA (a : Bool) (i : Nat) : SI := if a then .wrap .i64 (.sub (.lit 0) (.var i)) else .var i
noncomputable def sumE (a b : Bool) : SI := .wrap .i64 (.add (numA a 34) (numA b 35))
noncomputable def p_fi (a b : Bool) : POrc := { facts := [], f := 116, args := [.int .i64 (sumE a b), .int .i64 (.lit 10)], pre := [tabB], v := .str [.var 37] }
noncomputable def dfa (x : Nat) : Facts := [(.cmp .geq (.slen x) (.lit 1), true), (.cmp .leq (.slen x) (.lit 20), true), (.cmp .geq (.sbyte x (.lit 0)) (.lit 48), true), (.cmp .leq (.sbyte x (.lit 0)) (.lit 57), true), (.cmp .geq (.bin .or .u8 (.sbyte x (.lit 0)) (.lit 32)) (.lit 97), false)]
noncomputable def fD : Facts := dfa 30 ++ dfa 31
noncomputable def fL : Facts := fD ++ [(.cmp .geq (.slen 40) (.lit 1), true), (.cmp .leq (.slen 40) (.lit 20), true), (.cmp .leq (.slen 42) (.lit 20), true), (.cmp .geq (.sbyte 54 (.lit 0)) (.lit 48), true), (.cmp .leq (.sbyte 54 (.lit 0)) (.lit 57), true), (.cmp .geq (.bin .or .u8 (.sbyte 54 (.lit 0)) (.lit 32)) (.lit 97), false)]
noncomputable def vaHp : List (Nat × ABlk) := [tabB]
noncomputable def vaArgs (a b : Bool) : List AV := [.str [.lit (sX a), .var 30, .lit (sM b), .var 31], .slice 64 0 (.lit 1) (.rest 4)]
end Go.Sx
namespace Go.Sx
open Go.Proofs
set_option maxRecDepth 1000000
/-- a known call that hands out no place -/
theorem keptV {o : Orc} {P : Program} {ρ : Env} (ho : OrcOK P ρ o) (hpre : o.pre = []) (hnext : o.next = 64) (hF : o.facts.ok ρ) {xs : List Value} (ha : VRs ρ pl0 o.args xs) (W : World) :
    Calls P o.f ⟨xs⟩ W fun e W' => (∃ φ z, e = .returned z ∧ VR ρ φ o.v z) ∧ Kept W W' := by
  have h := ho.calls pl0 W xs (by rw [hpre, hnext]; exact wr0 ρ W) glob0 hF ha
  refine h.mono fun e W' ⟨φ', z, he, hz, hev⟩ => ⟨⟨φ', z, he, hz⟩, hev.kept fun b ⟨id, bb, L, h1, _⟩ => ?_⟩
  rw [hpre] at h1
  cases h1
/-! strings.TrimLeft of blanks, where a digit stands -/
noncomputable def tlC : Ctx := ctxOf Tryz.prog lies18 exts18 [] []
noncomputable def tlF : Facts := [(.cmp .leq (.slen 39) (.lit 1000), true)]
noncomputable def tlO (a b : SS) : Orc := { facts := tlF, f := 145, args := [.str a, .str [.lit [32, 9, 10]]], pre := [], next := 64, v := .str b, post := [], next' := 66 }
noncomputable def tlP (d : Nat) : Bool := orcCheck tlC (tlO [.lit [32, UInt8.ofNat d], .var 39] [.lit [UInt8.ofNat d], .var 39]) 3000 && orcCheck tlC (tlO [.lit [UInt8.ofNat d], .var 39] [.lit [UInt8.ofNat d], .var 39]) 3000
theorem tlAll : (tlP 48 && tlP 49 && tlP 50 && tlP 51 && tlP 52 && tlP 53 && tlP 54 && tlP 55 && tlP 56 && tlP 57) = true := by kernel_rfl
theorem tlP_ok (d : Nat) (h : 48 ≤ d) (h' : d ≤ 57) : tlP d = true := by
  have := tlAll
  simp only [Bool.and_eq_true] at this
  obtain ⟨⟨⟨⟨⟨⟨⟨⟨⟨h0, h1⟩, h2⟩, h3⟩, h4⟩, h5⟩, h6⟩, h7⟩, h8⟩, h9⟩ := this
  have : d = 48 ∨ d = 49 ∨ d = 50 ∨ d = 51 ∨ d = 52 ∨ d = 53 ∨ d = 54 ∨ d = 55 ∨ d = 56 ∨ d = 57 := by omega
  rcases this with rfl | rfl | rfl | rfl | rfl | rfl | rfl | rfl | rfl | rfl <;> assumption
theorem por_tl {ρ : Env} {a b : SS} {d : UInt8} {r : List UInt8} (h0 : 48 ≤ d.toNat) (h1 : d.toNat ≤ 57) (hr : r.length ≤ 1000) (ha : SS.den ρ a = d :: r ∨ SS.den ρ a = 32 :: d :: r) (hb : SS.den ρ b = d :: r) : POrcOK Tryz.prog ρ (tl a b) := by
  intro φ w xs n _ _ _ hxs
  obtain ⟨x, xs, rfl, hx, hxs⟩ := VRs.cons_left hxs
  obtain ⟨y, xs, rfl, hy, hxs⟩ := VRs.cons_left hxs
  have := VRs.nil_left hxs; subst this
  simp only [VR, SS.den, SP.den, List.append_nil] at hx hy
  subst hx hy
  have hP := tlP_ok d.toNat h0 h1
  unfold tlP at hP
  rw [Bool.and_eq_true] at hP
  have ed : UInt8.ofNat d.toNat = d := UInt8.ofNat_toNat
  rw [ed] at hP
  have hF : tlF.ok (Env.setS (env [] []) 39 r) := by
    intro p hp
    simp only [tlF, List.mem_cons, List.not_mem_nil, or_false] at hp
    subst hp
    simp [SB.den, SI.den, intCmp, ltInt_iff, setS_str]; omega
  have fin : ∀ (o : SS), SS.den ρ a = SS.den (Env.setS (env [] []) 39 r) o → orcCheck tlC (tlO o [.lit [d], .var 39]) 3000 = true →
      Calls Tryz.prog 145 ⟨[.string ⟨⟨SS.den ρ a⟩⟩, .string ⟨⟨[32, 9, 10]⟩⟩]⟩ w fun e w' => ∃ z, e = .returned z ∧ VR ρ φ (.str b) z ∧ Kept w w' := by
    intro o ho hc
    refine (keptV (orc_of_check (ctx18 orcs_nil pors_nil) hc rfl) rfl rfl hF (xs := [.string ⟨⟨SS.den ρ a⟩⟩, .string ⟨⟨[32, 9, 10]⟩⟩]) (VRs.cons (by simp only [VR]; rw [ho]) (VRs.cons (by simp only [VR, SS.den, SP.den, List.append_nil]) VRs.nil)) w).mono ?_
    rintro e w' ⟨⟨ψ, z, he, hz⟩, hk⟩
    refine ⟨z, he, ?_, hk⟩
    have hz : VR _ ψ (.str [.lit [d], .var 39]) z := hz
    simp only [VR, SS.den, SP.den, List.append_nil, setS_str, if_true] at hz
    simp only [VR]
    rw [hz, hb]; rfl
  rcases ha with ha | ha
  · exact fin [.lit [d], .var 39] (by rw [ha]; simp [SS.den, SP.den, setS_str]) hP.2
  · exact fin [.lit [32, d], .var 39] (by rw [ha]; simp [SS.den, SP.den, setS_str]) hP.1
end Go.Sx
