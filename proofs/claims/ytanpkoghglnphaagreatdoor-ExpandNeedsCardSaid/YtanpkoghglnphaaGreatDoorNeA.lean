import Derived.Test.YtanpkoghglnphaaGreatDoorEnv
import Derived.Test.YtanpkoghglnphaaGreatDoorSxH
import Derived.Test.YtanpkoghglnphaaGreatDoorCtx
import Derived.Lib.ItoaNum
namespace Go.Sx
open Go.Proofs
set_option maxRecDepth 1000000

noncomputable def trC : Ctx := ctxOf Tryz.prog lies18 exts18 [] []
noncomputable def trtg : List AM := [st trC 112 [.str [.var 50], .str [.lit [10]]] (hpOf [] 64) [],
    st trC 112 [.str [], .str [.lit [10]]] (hpOf [] 64) [],
    st trC 112 [.str [.var 55, .chr (.sbyte 54 (.lit 0))], .str [.lit [10]]] (hpOf [] 64) [(.cmp .leq (.slen 55) (.lit 100000), true)],
    ndAt (leafAt (execS trC (stopAny [(124, 1, 3)]) 300 (st trC 112 [.str [.var 55, .chr (.sbyte 54 (.lit 0))], .str [.lit [10]]] (hpOf [] 64) [(.cmp .leq (.slen 55) (.lit 100000), true)])) [true]) [1] [(0, .str [])] [[]] [] [] [] 64 [],
    ndAt (leafAt (execS trC (stopAny [(124, 1, 3)]) 300 (st trC 112 [.str [.var 55, .chr (.sbyte 54 (.lit 0))], .str [.lit [10]]] (hpOf [] 64) [(.cmp .leq (.slen 55) (.lit 100000), true)])) [true]) [1] [(0, .str [.var 55, .chr (.sbyte 54 (.lit 0))])] [[]] [] [] [] 64 [(.cmp .leq (.slen 55) (.lit 100000), true)]]
noncomputable def tro0 : OT := (.alt (.to 1 ⟨64, 64, []⟩ [.str [] [.var 50]]) (.to 2 ⟨64, 64, []⟩ [.str [.var 55, .chr (.sbyte 54 (.lit 0))] [.var 50]]))
noncomputable def tro1 : OT := (.fin ⟨64, 64, []⟩ [.str [.var 51] []])
noncomputable def tro2 : OT := (.fork (.cmp .eql (.sbyte 54 (.lit 0)) (.lit 10)) (.alt (.to 3 ⟨64, 64, []⟩ [.str [] [.var 55]]) (.to 4 ⟨64, 64, []⟩ [.str [.var 55, .chr (.sbyte 54 (.lit 0))] [.var 55]])) (.fin ⟨64, 64, []⟩ [.str [.var 51] [.var 55, .chr (.sbyte 54 (.lit 0))]]))
noncomputable def tro3 : OT := (.fin ⟨64, 64, []⟩ [.str [.var 51] []])
noncomputable def tro4 : OT := (.fork (.cmp .eql (.sbyte 54 (.lit 0)) (.lit 10)) (.alt (.to 3 ⟨64, 64, []⟩ [.str [] [.var 55]]) (.to 4 ⟨64, 64, []⟩ [.str [.var 55, .chr (.sbyte 54 (.lit 0))] [.var 55]])) (.fin ⟨64, 64, []⟩ [.str [.var 51] [.var 55, .chr (.sbyte 54 (.lit 0))]]))
noncomputable def trG : Graph := { tg := pick trtg, stop := (stopAny [(124, (1, 3))]), n := (fun k => [0, 300, 300, 300, 300].getD k 0), pl := fun k => ([tro0, tro1, tro2, tro3, tro4].getD k .no).plan, o := fun k => [tro0, tro1, tro2, tro3, tro4].getD k .no, v := .str [.var 51], h := (hpOf [] 64), f := 112, N := 64 }
theorem trat0 : trG.At trC 0 := ⟨by kernel_rfl, by kernel_rfl, by kernel_rfl⟩
theorem trat1 : trG.At trC 1 := ⟨by kernel_rfl, by kernel_rfl, by kernel_rfl⟩
theorem trat2 : trG.At trC 2 := ⟨by kernel_rfl, by kernel_rfl, by kernel_rfl⟩
theorem trat3 : trG.At trC 3 := ⟨by kernel_rfl, by kernel_rfl, by kernel_rfl⟩
theorem trat4 : trG.At trC 4 := ⟨by kernel_rfl, by kernel_rfl, by kernel_rfl⟩
theorem trf0 : (trG.tg 0).facts = [] := by kernel_rfl
theorem trf1 : (trG.tg 1).facts = [] := by kernel_rfl
theorem trf2 : (trG.tg 2).facts = [(.cmp .leq (.slen 55) (.lit 100000), true)] := by kernel_rfl
theorem trf3 : (trG.tg 3).facts = [] := by kernel_rfl
theorem trf4 : (trG.tg 4).facts = [(.cmp .leq (.slen 55) (.lit 100000), true)] := by kernel_rfl
theorem trst : startF trC [] 112 [.str [.var 50], .str [.lit [10]]] (hpOf [] 64) = some (trG.tg 0) := by kernel_rfl
end Go.Sx
namespace Go.Sx
open Go.Proofs
set_option maxRecDepth 100000
def trimR (s : List UInt8) : List UInt8 := (s.reverse.dropWhile (fun b => b == 10)).reverse
theorem trimR_nil : trimR [] = [] := rfl
theorem trimR_nl (a : List UInt8) : trimR (a ++ [10]) = trimR a := by simp [trimR]
theorem trimR_other (a : List UInt8) {b : UInt8} (h : b ≠ 10) : trimR (a ++ [b]) = a ++ [b] := by simp [trimR, h]
theorem trimR_len (s : List UInt8) : (trimR s).length ≤ s.length := by
  simp only [trimR, List.length_reverse]
  exact Nat.le_trans (List.Sublist.length_le (List.dropWhile_sublist _)) (by simp)
theorem snoc_of {s : List UInt8} (h : s ≠ []) : ∃ a b, s = a ++ [b] := ⟨s.dropLast, s.getLast h, (List.dropLast_concat_getLast h).symm⟩
theorem b10 {b : UInt8} : ((b.toNat : Int) = 10) ↔ b = 10 := by
  constructor
  · intro h; apply UInt8.toNat_inj.1; show b.toNat = 10; omega
  · rintro rfl; rfl
def trE (a : List UInt8) (b : UInt8) (ρ : Env) : Env := (ρ.setS 54 [b]).setS 55 a
def trI (s : List UInt8) : Nat → Env → Prop
  | 0, ρ => ρ.str 50 = s
  | 1, _ => s = []
  | 2, ρ => ∃ a b, s = a ++ [b] ∧ a.length ≤ 100000 ∧ ρ.str 55 = a ∧ ρ.str 54 = [b]
  | 3, _ => trimR s = []
  | 4, ρ => ∃ a b, trimR s = trimR (a ++ [b]) ∧ a.length ≤ 100000 ∧ ρ.str 55 = a ∧ ρ.str 54 = [b]
  | _, _ => False
def trμ (s : List UInt8) : Nat → Env → Nat
  | 0, _ => s.length + 10
  | 1, _ => 0
  | 2, ρ => (ρ.str 55).length + 2
  | 3, _ => 0
  | 4, ρ => (ρ.str 55).length + 1
  | _, _ => 0
theorem tr_calls (s : List UInt8) (hs : s.length ≤ 100000) (W : World) :
    Calls Tryz.prog 112 #[.string ⟨⟨s⟩⟩, .string ⟨⟨[10]⟩⟩] W fun e W' => e = .returned (.string ⟨⟨trimR s⟩⟩) ∧ Kept W W' := by
  have := Graph.calls (G := trG) (C := trC) (P := Tryz.prog) (I := trI s) (μ := trμ s) (J := fun ρ => ρ.str 51 = trimR s) (fun _ _ _ => ctx18 orcs_nil pors_nil) ?_ ?_ ?_ (ρ := Env.setS (env [] []) 50 s) rfl (F := []) (args := [.str [.var 50], .str [.lit [10]]]) (h := hpOf [] 64) trst
    (φ := pl0) (w := W) (xs := [.string ⟨⟨s⟩⟩, .string ⟨⟨[10]⟩⟩]) (wr0 _ W) glob0 (VRs.cons (by simp only [VR, SS.den, SP.den, List.append_nil]; rfl) (VRs.cons (by simp only [VR, SS.den, SP.den, List.append_nil]) VRs.nil))
  · exact this.mono fun e W' h => kept_of h (fun ρ' ψ z hJ hz => by
      have hz : VR ρ' ψ (.str [.var 51]) z := hz
      simp only [VR, SS.den, SP.den, List.append_nil] at hz; rw [hz, hJ]) rfl
  · intro k ρ hi
    match k, hi with
    | 0, hi => rw [trf0]; intro p hp; cases hp
    | 1, hi => rw [trf1]; intro p hp; cases hp
    | 2, hi =>
      obtain ⟨a, b, h1, h2, h3, h4⟩ := hi
      rw [trf2]; intro p hp
      simp only [List.mem_cons, List.not_mem_nil, or_false] at hp
      rcases hp with rfl
      simp [SB.den, SI.den, intCmp, ltInt_iff, h3]; omega
    | 3, hi => rw [trf3]; intro p hp; cases hp
    | 4, hi =>
      obtain ⟨a, b, h1, h2, h3, h4⟩ := hi
      rw [trf4]; intro p hp
      simp only [List.mem_cons, List.not_mem_nil, or_false] at hp
      rcases hp with rfl
      simp [SB.den, SI.den, intCmp, ltInt_iff, h3]; omega
  · intro k ρ hi
    match k, hi with
    | 0, _ => exact trat0
    | 1, _ => exact trat1
    | 2, _ => exact trat2
    | 3, _ => exact trat3
    | 4, _ => exact trat4
  · have step : ∀ (ρ : Env) (a : List UInt8) (b : UInt8), trimR s = trimR (a ++ [b]) → a.length ≤ 100000 → ρ.str 55 = a → ρ.str 54 = [b] → ∀ k, (a.length + 1 ≤ trμ s k ρ) →
        OTok (trI s) (trμ s) (fun ρ => ρ.str 51 = trimR s) k ρ tro4 := by
      intro ρ a b h1 h2 h3 h4 k hm
      simp only [tro4, OTok]
      refine ⟨fun h => ?_, fun h => ?_⟩
      · have hb : b = 10 := by
          simp [SB.den, SI.den, intCmp, eqInt_iff, h4] at h; exact b10.1 h
        subst hb
        rw [trimR_nl] at h1
        by_cases ha : a = []
        · subst ha
          exact .inl ⟨ρ, by simp [Eqns, Eqn.ok, SS.den, SP.den, h3], by show trimR s = []; rw [h1]; rfl, by show 0 < _; omega⟩
        · obtain ⟨c, d, rfl⟩ := snoc_of ha
          simp at h2 hm
          exact .inr ⟨trE c d ρ, by simp [Eqns, Eqn.ok, SS.den, SP.den, SI.den, trE, setS_str, h3], ⟨c, d, h1, by omega, rfl, rfl⟩, by show c.length + 1 < _; omega⟩
      · have hb : b ≠ 10 := by
          intro hb
          simp [SB.den, SI.den, intCmp, eqInt_iff, h4, hb] at h
        rw [trimR_other a hb] at h1
        exact ⟨ρ.setS 51 (trimR s), by simp [Eqns, Eqn.ok, SS.den, SP.den, SI.den, setS_str, h1, h3, h4], rfl⟩
    intro k ρ hi
    match k, hi with
    | 0, hi =>
      have hi : ρ.str 50 = s := hi
      show OTok (trI s) (trμ s) _ 0 ρ tro0
      simp only [tro0, OTok]
      by_cases ha : s = []
      · exact .inl ⟨ρ, by simp [Eqns, Eqn.ok, SS.den, SP.den, hi, ha], ha, by simp [trμ]⟩
      · obtain ⟨c, d, hcd⟩ := snoc_of ha
        have hl : s.length = c.length + 1 := by rw [hcd]; simp
        exact .inr ⟨trE c d ρ, by simp [Eqns, Eqn.ok, SS.den, SP.den, SI.den, trE, setS_str, hi, hcd], ⟨c, d, hcd, by omega, rfl, rfl⟩, by simp [trμ, trE, setS_str]; omega⟩
    | 1, hi =>
      have hi : s = [] := hi
      show OTok (trI s) (trμ s) _ 1 ρ tro1
      simp only [tro1, OTok]
      exact ⟨ρ.setS 51 [], by simp [Eqns, Eqn.ok, SS.den, SP.den, setS_str], by rw [hi]; rfl⟩
    | 2, hi =>
      obtain ⟨a, b, h1, h2, h3, h4⟩ := hi
      exact step ρ a b (by rw [h1]) h2 h3 h4 2 (by simp [trμ, h3])
    | 3, hi =>
      have hi : trimR s = [] := hi
      show OTok (trI s) (trμ s) _ 3 ρ tro3
      simp only [tro3, OTok]
      exact ⟨ρ.setS 51 [], by simp [Eqns, Eqn.ok, SS.den, SP.den, setS_str], by rw [hi]; rfl⟩
    | 4, hi =>
      obtain ⟨a, b, h1, h2, h3, h4⟩ := hi
      exact step ρ a b h1 h2 h3 h4 4 (by simp [trμ, h3])
theorem por_tr {ρ : Env} {a b : Nat} (h : ρ.str b = trimR (ρ.str a)) (hl : (ρ.str a).length ≤ 100000) : POrcOK Tryz.prog ρ { facts := [], f := 112, args := [.str [.var a], .str [.lit [10]]], pre := [], v := .str [.var b] } := by
  intro φ w xs n _ _ _ ha
  obtain ⟨x, ys, rfl, h1, h2⟩ := VRs.cons_left ha
  obtain ⟨y, zs, rfl, h3, h4⟩ := VRs.cons_left h2
  have := VRs.nil_left h4; subst this
  simp only [VR, SS.den, SP.den, List.append_nil] at h1 h3
  subst h1
  subst h3
  refine (tr_calls (ρ.str a) hl w).mono fun e w' ⟨he, hk⟩ => ⟨_, he, ?_, hk⟩
  simp only [VR, SS.den, SP.den, List.append_nil, h]
end Go.Sx
namespace Go.Sx
open Go.Proofs
set_option maxRecDepth 1000000

noncomputable def diC : Ctx := ctxOf Tryz.prog lies18 exts18 [] []
noncomputable def ditg : List AM := [st diC 17 [.int .i64 (.var 5)] (hpOf [] 64) [(.cmp .geq (.var 5) (.lit (-9223372036854775808)), true), (.cmp .leq (.var 5) (.lit 9223372036854775807), true)],
    nd diC 17 0 [(0, .int .i64 (.var 5)), (3, .int .u64 (.var 2)), (4, .str [.var 7])]
      [] 64
      [(.cmp .lss (.var 5) (.lit 0), true), (.cmp .geq (.var 2) (.lit 0), true), (.cmp .leq (.var 2) (.lit 18446744073709551615), true), (.cmp .geq (.slen 7) (.lit 1), true), (.cmp .leq (.slen 7) (.lit 30), true)],
    nd diC 17 0 [(0, .int .i64 (.var 5)), (3, .int .u64 (.var 2)), (4, .str [.var 7])]
      [] 64
      [(.cmp .lss (.var 5) (.lit 0), false), (.cmp .geq (.var 2) (.lit 0), true), (.cmp .leq (.var 2) (.lit 18446744073709551615), true), (.cmp .geq (.slen 7) (.lit 1), true), (.cmp .leq (.slen 7) (.lit 30), true)]]
noncomputable def dio0 : OT := (.fork (.cmp .lss (.var 5) (.lit 0)) (.fork (.cmp .gtr (.wrap .u64 (.sub (.lit 0) (.wrap .u64 (.var 5)))) (.lit 9)) (.alt (.to 1 ⟨64, 64, []⟩ [.int (.var 5) (.var 5), .int (.var 2) (.bin .quo .u64 (.wrap .u64 (.sub (.lit 0) (.wrap .u64 (.var 5)))) (.lit 10)), .str [.var 7] [.chr (.wrap .u8 (.wrap .u64 (.add (.lit 48) (.bin .rem .u64 (.wrap .u64 (.sub (.lit 0) (.wrap .u64 (.var 5)))) (.lit 10)))))]]) (.to 2 ⟨64, 64, []⟩ [.int (.var 5) (.var 5), .int (.var 2) (.bin .quo .u64 (.wrap .u64 (.sub (.lit 0) (.wrap .u64 (.var 5)))) (.lit 10)), .str [.var 7] [.chr (.wrap .u8 (.wrap .u64 (.add (.lit 48) (.bin .rem .u64 (.wrap .u64 (.sub (.lit 0) (.wrap .u64 (.var 5)))) (.lit 10)))))]])) (.fin ⟨64, 64, []⟩ [.str [.var 9] [.lit [45], .chr (.add (.lit 48) (.wrap .u64 (.sub (.lit 0) (.wrap .u64 (.var 5)))))]])) (.fork (.cmp .gtr (.wrap .u64 (.var 5)) (.lit 9)) (.alt (.to 1 ⟨64, 64, []⟩ [.int (.var 5) (.var 5), .int (.var 2) (.bin .quo .u64 (.wrap .u64 (.var 5)) (.lit 10)), .str [.var 7] [.chr (.wrap .u8 (.wrap .u64 (.add (.lit 48) (.bin .rem .u64 (.wrap .u64 (.var 5)) (.lit 10)))))]]) (.to 2 ⟨64, 64, []⟩ [.int (.var 5) (.var 5), .int (.var 2) (.bin .quo .u64 (.wrap .u64 (.var 5)) (.lit 10)), .str [.var 7] [.chr (.wrap .u8 (.wrap .u64 (.add (.lit 48) (.bin .rem .u64 (.wrap .u64 (.var 5)) (.lit 10)))))]])) (.fin ⟨64, 64, []⟩ [.str [.var 9] [.chr (.add (.lit 48) (.wrap .u64 (.var 5)))]])))
noncomputable def dio1 : OT := (.fork (.cmp .gtr (.var 2) (.lit 9)) (.alt (.to 1 ⟨64, 64, []⟩ [.int (.var 5) (.var 5), .int (.var 2) (.bin .quo .u64 (.var 2) (.lit 10)), .str [.var 7] [.chr (.wrap .u8 (.wrap .u64 (.add (.lit 48) (.bin .rem .u64 (.var 2) (.lit 10))))), .var 7]]) (.to 2 ⟨64, 64, []⟩ [.int (.var 5) (.var 5), .int (.var 2) (.bin .quo .u64 (.var 2) (.lit 10)), .str [.var 7] [.chr (.wrap .u8 (.wrap .u64 (.add (.lit 48) (.bin .rem .u64 (.var 2) (.lit 10))))), .var 7]])) (.fin ⟨64, 64, []⟩ [.str [.var 9] [.lit [45], .chr (.add (.lit 48) (.var 2)), .var 7]]))
noncomputable def dio2 : OT := (.fork (.cmp .gtr (.var 2) (.lit 9)) (.alt (.to 1 ⟨64, 64, []⟩ [.int (.var 5) (.var 5), .int (.var 2) (.bin .quo .u64 (.var 2) (.lit 10)), .str [.var 7] [.chr (.wrap .u8 (.wrap .u64 (.add (.lit 48) (.bin .rem .u64 (.var 2) (.lit 10))))), .var 7]]) (.to 2 ⟨64, 64, []⟩ [.int (.var 5) (.var 5), .int (.var 2) (.bin .quo .u64 (.var 2) (.lit 10)), .str [.var 7] [.chr (.wrap .u8 (.wrap .u64 (.add (.lit 48) (.bin .rem .u64 (.var 2) (.lit 10))))), .var 7]])) (.fin ⟨64, 64, []⟩ [.str [.var 9] [.chr (.add (.lit 48) (.var 2)), .var 7]]))
noncomputable def diG : Graph := { tg := pick ditg, stop := (stopAny [(17, (0, 3))]), n := (fun _ => 600), pl := fun k => ([dio0, dio1, dio2].getD k .no).plan, o := fun k => [dio0, dio1, dio2].getD k .no, v := .str [.var 9], h := (hpOf [] 64), f := 17, N := 64 }
theorem diat0 : diG.At diC 0 := ⟨by kernel_rfl, by kernel_rfl, by kernel_rfl⟩
theorem diat1 : diG.At diC 1 := ⟨by kernel_rfl, by kernel_rfl, by kernel_rfl⟩
theorem diat2 : diG.At diC 2 := ⟨by kernel_rfl, by kernel_rfl, by kernel_rfl⟩
theorem dif0 : (diG.tg 0).facts = [(.cmp .geq (.var 5) (.lit (-9223372036854775808)), true), (.cmp .leq (.var 5) (.lit 9223372036854775807), true)] := by kernel_rfl
theorem dif1 : (diG.tg 1).facts = [(.cmp .lss (.var 5) (.lit 0), true), (.cmp .geq (.var 2) (.lit 0), true), (.cmp .leq (.var 2) (.lit 18446744073709551615), true), (.cmp .geq (.slen 7) (.lit 1), true), (.cmp .leq (.slen 7) (.lit 30), true)] := by kernel_rfl
theorem dif2 : (diG.tg 2).facts = [(.cmp .lss (.var 5) (.lit 0), false), (.cmp .geq (.var 2) (.lit 0), true), (.cmp .leq (.var 2) (.lit 18446744073709551615), true), (.cmp .geq (.slen 7) (.lit 1), true), (.cmp .leq (.slen 7) (.lit 30), true)] := by kernel_rfl
theorem dist : startF diC [(.cmp .geq (.var 5) (.lit (-9223372036854775808)), true), (.cmp .leq (.var 5) (.lit 9223372036854775807), true)] 17 [.int .i64 (.var 5)] (hpOf [] 64) = some (diG.tg 0) := by kernel_rfl
end Go.Sx
namespace Go.Sx
open Go.Proofs
set_option maxRecDepth 100000
theorem w64neg {n : Int} (h : n < 0) (h0 : -9223372036854775808 ≤ n) : IntKind.wrap .u64 (0 - IntKind.wrap .u64 n) = n.natAbs := by
  simp [IntKind.wrap, IntKind.signed, IntKind.bits]; omega
theorem w64pos {n : Int} (h : 0 ≤ n) (h0 : n ≤ 9223372036854775807) : IntKind.wrap .u64 n = n.natAbs := by
  simp [IntKind.wrap, IntKind.signed, IntKind.bits]; omega
theorem quo10 {u : Nat} (h : u < 18446744073709551616) : (intBin .quo .u64 (u : Int) 10).getD 0 = ((u / 10 : Nat) : Int) := by
  have e : ((u : Int)).tdiv 10 = ((u / 10 : Nat) : Int) := by
    rw [Int.tdiv_eq_ediv_of_nonneg (by omega)]; rfl
  have : intBin .quo .u64 (u : Int) 10 = some (IntKind.wrap .u64 ((u : Int).tdiv 10)) := rfl
  rw [this, e, Option.getD_some]
  simp [IntKind.wrap, IntKind.signed, IntKind.bits]; omega
theorem rem10 {u : Nat} : (intBin .rem .u64 (u : Int) 10).getD 0 = ((u % 10 : Nat) : Int) := by
  have : intBin .rem .u64 (u : Int) 10 = some ((u : Int).tmod 10) := rfl
  rw [this, Option.getD_some, Int.tmod_eq_emod_of_nonneg (by omega)]; rfl
theorem chr10 (d : Nat) (h : d < 10) : (IntKind.wrap .u8 (IntKind.wrap .u64 (48 + (d : Int)))).toNat = 48 + d := by
  simp [IntKind.wrap, IntKind.signed, IntKind.bits]; omega
theorem dd_big {u : Nat} (h : ¬ u < 10) : Lib.decDigits u = Lib.decDigits (u / 10) ++ [UInt8.ofNat (48 + u % 10)] := by
  rw [Lib.decDigits, dif_neg h]
theorem nDig_le : ∀ (k u : Nat), 1 ≤ k → u < 10 ^ k → Lib.nDigits u ≤ k
  | 0, u, h, _ => by omega
  | k + 1, u, _, h => by
    by_cases hu : u < 10
    · rw [Lib.nDigits_small hu]; omega
    · rw [Lib.nDigits_big hu]
      cases k with
      | zero => simp at h; omega
      | succ k =>
        have := nDig_le (k + 1) (u / 10) (by omega) (by rw [Nat.pow_succ] at h; omega)
        omega
theorem dd_len {u : Nat} (h : u < 18446744073709551616) : 1 ≤ (Lib.decDigits u).length ∧ (Lib.decDigits u).length ≤ 20 := by
  rw [Lib.decDigits_length]
  exact ⟨Lib.nDigits_pos u, nDig_le 20 u (by omega) (by omega)⟩
def diE (n : Int) (u : Nat) (s : List UInt8) (ρ : Env) : Env := ((ρ.setI 5 n).setI 2 u).setS 7 s
def diI (n : Int) : Nat → Env → Prop
  | 0, ρ => ρ.int 5 = n
  | 1, ρ => ∃ (u : Nat) (s : List UInt8), n < 0 ∧ ρ.int 5 = n ∧ ρ.int 2 = u ∧ ρ.str 7 = s ∧ Lib.decDigits n.natAbs = Lib.decDigits u ++ s ∧ s ≠ [] ∧ u < 18446744073709551616
  | 2, ρ => ∃ (u : Nat) (s : List UInt8), 0 ≤ n ∧ ρ.int 5 = n ∧ ρ.int 2 = u ∧ ρ.str 7 = s ∧ Lib.decDigits n.natAbs = Lib.decDigits u ++ s ∧ s ≠ [] ∧ u < 18446744073709551616
  | _, _ => False
def diμ (n : Int) : Nat → Env → Nat
  | 0, _ => n.natAbs + 10
  | _, ρ => (ρ.int 2).toNat
theorem digits_calls (n : Int) (h0 : -9223372036854775808 ≤ n) (h1 : n ≤ 9223372036854775807) (W : World) :
    Calls Tryz.prog 17 #[.int .i64 n] W fun e W' => e = .returned (.string ⟨⟨Lib.itoa n⟩⟩) ∧ Kept W W' := by
  have hU : n.natAbs < 18446744073709551616 := by omega
  have := Graph.calls (G := diG) (C := diC) (P := Tryz.prog) (I := diI n) (μ := diμ n) (J := fun ρ => ρ.str 9 = Lib.itoa n) (fun _ _ _ => ctx18 orcs_nil pors_nil) ?_ ?_ ?_ (ρ := Env.setI (env [] []) 5 n) rfl (F := [(.cmp .geq (.var 5) (.lit (-9223372036854775808)), true), (.cmp .leq (.var 5) (.lit 9223372036854775807), true)]) (args := [.int .i64 (.var 5)]) (h := hpOf [] 64) dist
    (φ := pl0) (w := W) (xs := [.int .i64 n]) (wr0 _ W) glob0 (VRs.cons (by simp only [VR, SI.den]; rfl) VRs.nil)
  · exact this.mono fun e W' h => kept_of h (fun ρ' ψ z hJ hz => by
      have hz : VR ρ' ψ (.str [.var 9]) z := hz
      simp only [VR, SS.den, SP.den, List.append_nil] at hz; rw [hz, hJ]) rfl
  · intro k ρ hi
    match k, hi with
    | 0, hi =>
      have hi : ρ.int 5 = n := hi
      rw [dif0]; intro p hp
      simp only [List.mem_cons, List.not_mem_nil, or_false] at hp
      rcases hp with rfl | rfl <;> simp [SB.den, SI.den, intCmp, ltInt_iff, hi] <;> omega
    | 1, hi =>
      obtain ⟨u, s, a0, a1, a2, a3, a4, a5, a6⟩ := hi
      have l1 := dd_len hU
      rw [a4, List.length_append] at l1
      have l2 := List.length_pos_iff.2 a5
      rw [dif1]; intro p hp
      simp only [List.mem_cons, List.not_mem_nil, or_false] at hp
      rcases hp with rfl | rfl | rfl | rfl | rfl <;> simp [SB.den, SI.den, intCmp, ltInt_iff, a1, a2, a3] <;> omega
    | 2, hi =>
      obtain ⟨u, s, a0, a1, a2, a3, a4, a5, a6⟩ := hi
      have l1 := dd_len hU
      rw [a4, List.length_append] at l1
      have l2 := List.length_pos_iff.2 a5
      rw [dif2]; intro p hp
      simp only [List.mem_cons, List.not_mem_nil, or_false] at hp
      rcases hp with rfl | rfl | rfl | rfl | rfl <;> simp [SB.den, SI.den, intCmp, ltInt_iff, a1, a2, a3] <;> omega
  · intro k ρ hi
    match k, hi with
    | 0, _ => exact diat0
    | 1, _ => exact diat1
    | 2, _ => exact diat2
  · intro k ρ hi
    match k, hi with
    | 0, hi =>
      have hi : ρ.int 5 = n := hi
      show OTok (diI n) (diμ n) _ 0 ρ dio0
      have hchr := chr10 (n.natAbs % 10) (by omega)
      simp only [dio0, OTok]
      refine ⟨fun h => ?_, fun h => ?_⟩
      · have hn : n < 0 := by simpa [SB.den, SI.den, intCmp, ltInt_iff, hi] using h
        have hw := w64neg hn h0
        refine ⟨fun g => ?_, fun g => ?_⟩
        · have hg : ¬ n.natAbs < 10 := by
            simp [SB.den, SI.den, intCmp, ltInt_iff, hi] at g; rw [← Int.zero_sub, hw] at g; omega
          refine .inl ⟨diE n (n.natAbs / 10) [UInt8.ofNat (48 + n.natAbs % 10)] ρ, ?_, ⟨n.natAbs / 10, [UInt8.ofNat (48 + n.natAbs % 10)], hn, rfl, rfl, rfl, dd_big hg, by simp, by omega⟩, ?_⟩
          · simp only [Eqns, Eqn.ok, diE, List.mem_cons, List.not_mem_nil, or_false, forall_eq_or_imp, forall_eq, SI.den, SS.den, SP.den, setI_int, setS_int, setS_str, hi, hw, quo10 hU, rem10, hchr, List.append_nil, and_true, true_and, if_true]
            simp
          · simp only [diμ, diE, setS_int, setI_int, if_true]; omega
        · have hg : n.natAbs < 10 := by
            simp [SB.den, SI.den, intCmp, ltInt_iff, hi] at g; rw [← Int.zero_sub, hw] at g; omega
          refine ⟨ρ.setS 9 (Lib.itoa n), ?_, rfl⟩
          have e : Lib.itoa n = [45, UInt8.ofNat (48 + n.natAbs)] := by rw [Lib.itoa, if_pos hn, Lib.decDigits_one hg]
          have hc : (48 + (n.natAbs : Int)).toNat = 48 + n.natAbs := by omega
          simp only [Eqns, Eqn.ok, List.mem_cons, List.not_mem_nil, or_false, forall_eq, SI.den, SS.den, SP.den, setS_str, setS_int, hi, hw, hc, e, if_true]
          rfl
      · have hn : 0 ≤ n := by
          simp [SB.den, SI.den, intCmp, ltInt_iff, hi] at h; exact h
        have hw := w64pos hn h1
        refine ⟨fun g => ?_, fun g => ?_⟩
        · have hg : ¬ n.natAbs < 10 := by
            simp [SB.den, SI.den, intCmp, ltInt_iff, hi, hw] at g; omega
          refine .inr ⟨diE n (n.natAbs / 10) [UInt8.ofNat (48 + n.natAbs % 10)] ρ, ?_, ⟨n.natAbs / 10, [UInt8.ofNat (48 + n.natAbs % 10)], hn, rfl, rfl, rfl, dd_big hg, by simp, by omega⟩, ?_⟩
          · simp only [Eqns, Eqn.ok, diE, List.mem_cons, List.not_mem_nil, or_false, forall_eq_or_imp, forall_eq, SI.den, SS.den, SP.den, setI_int, setS_int, setS_str, hi, hw, quo10 hU, rem10, hchr, List.append_nil, and_true, true_and, if_true]
            simp
          · simp only [diμ, diE, setS_int, setI_int, if_true]; omega
        · have hg : n.natAbs < 10 := by
            simp [SB.den, SI.den, intCmp, ltInt_iff, hi, hw] at g; omega
          refine ⟨ρ.setS 9 (Lib.itoa n), ?_, rfl⟩
          have e : Lib.itoa n = [UInt8.ofNat (48 + n.natAbs)] := by
            rw [Lib.itoa, if_neg (by omega), show n.toNat = n.natAbs by omega, Lib.decDigits_one hg]
          have hc : (48 + (n.natAbs : Int)).toNat = 48 + n.natAbs := by omega
          simp only [Eqns, Eqn.ok, List.mem_cons, List.not_mem_nil, or_false, forall_eq, SI.den, SS.den, SP.den, setS_str, setS_int, hi, hw, hc, e, if_true]
    | 1, hi =>
      obtain ⟨u, s, a0, a1, a2, a3, a4, a5, a6⟩ := hi
      have hchr := chr10 (u % 10) (by omega)
      show OTok (diI n) (diμ n) _ 1 ρ dio1
      simp only [dio1, OTok]
      refine ⟨fun g => ?_, fun g => ?_⟩
      · have hg : ¬ u < 10 := by
          simp [SB.den, SI.den, intCmp, ltInt_iff, a2] at g; omega
        refine .inl ⟨diE n (u / 10) (UInt8.ofNat (48 + u % 10) :: s) ρ, ?_, ⟨u / 10, UInt8.ofNat (48 + u % 10) :: s, a0, rfl, rfl, rfl, by rw [a4, dd_big hg]; simp, by simp, by omega⟩, ?_⟩
        · simp only [Eqns, Eqn.ok, diE, List.mem_cons, List.not_mem_nil, or_false, forall_eq_or_imp, forall_eq, SI.den, SS.den, SP.den, setI_int, setS_int, setS_str, a1, a2, a3, quo10 a6, rem10, hchr, List.append_nil, and_true, true_and, if_true]
          simp
        · simp only [diμ, diE, setS_int, setI_int, if_true, a2]; omega
      · have hg : u < 10 := by
          simp [SB.den, SI.den, intCmp, ltInt_iff, a2] at g; omega
        refine ⟨ρ.setS 9 (Lib.itoa n), ?_, rfl⟩
        have e : Lib.itoa n = 45 :: UInt8.ofNat (48 + u) :: s := by rw [Lib.itoa, if_pos a0, a4, Lib.decDigits_one hg]; rfl
        have hc : (48 + (u : Int)).toNat = 48 + u := by omega
        simp only [Eqns, Eqn.ok, List.mem_cons, List.not_mem_nil, or_false, forall_eq, SI.den, SS.den, SP.den, setS_str, setS_int, a2, a3, hc, e, if_true]
        simp
    | 2, hi =>
      obtain ⟨u, s, a0, a1, a2, a3, a4, a5, a6⟩ := hi
      have hchr := chr10 (u % 10) (by omega)
      show OTok (diI n) (diμ n) _ 2 ρ dio2
      simp only [dio2, OTok]
      refine ⟨fun g => ?_, fun g => ?_⟩
      · have hg : ¬ u < 10 := by
          simp [SB.den, SI.den, intCmp, ltInt_iff, a2] at g; omega
        refine .inr ⟨diE n (u / 10) (UInt8.ofNat (48 + u % 10) :: s) ρ, ?_, ⟨u / 10, UInt8.ofNat (48 + u % 10) :: s, a0, rfl, rfl, rfl, by rw [a4, dd_big hg]; simp, by simp, by omega⟩, ?_⟩
        · simp only [Eqns, Eqn.ok, diE, List.mem_cons, List.not_mem_nil, or_false, forall_eq_or_imp, forall_eq, SI.den, SS.den, SP.den, setI_int, setS_int, setS_str, a1, a2, a3, quo10 a6, rem10, hchr, List.append_nil, and_true, true_and, if_true]
          simp
        · simp only [diμ, diE, setS_int, setI_int, if_true, a2]; omega
      · have hg : u < 10 := by
          simp [SB.den, SI.den, intCmp, ltInt_iff, a2] at g; omega
        refine ⟨ρ.setS 9 (Lib.itoa n), ?_, rfl⟩
        have e : Lib.itoa n = UInt8.ofNat (48 + u) :: s := by
          rw [Lib.itoa, if_neg (by omega), show n.toNat = n.natAbs by omega, a4, Lib.decDigits_one hg]; rfl
        have hc : (48 + (u : Int)).toNat = 48 + u := by omega
        simp only [Eqns, Eqn.ok, List.mem_cons, List.not_mem_nil, or_false, forall_eq, SI.den, SS.den, SP.den, setS_str, setS_int, a2, a3, hc, e, if_true]
        simp
end Go.Sx
namespace Go.Sx
open Go.Proofs
set_option maxRecDepth 100000
/-! the word of the law: parts, one behind the other -/
def pt' (j : Nat) : List UInt8 := [36, 40, 100, 111, 32] ++ (Lib.decDigits j ++ [41])
def pt (j : Nat) : List UInt8 := pt' j ++ [46]
def wsuf : Nat → Nat → List UInt8
  | _, 0 => []
  | j, n + 1 => pt j ++ wsuf (j + 1) n
theorem wsuf_split : ∀ (a j b : Nat), wsuf j (a + b) = wsuf j a ++ wsuf (j + a) b
  | 0, j, b => by simp [wsuf]
  | a + 1, j, b => by
    have e : a + 1 + b = (a + b) + 1 := by omega
    rw [e, wsuf, wsuf, wsuf_split a (j + 1) b, List.append_assoc, show j + 1 + a = j + (a + 1) by omega]
theorem wsuf_snoc (j n : Nat) : wsuf j (n + 1) = wsuf j n ++ pt (j + n) := by
  rw [wsuf_split n j 1]; simp [wsuf]
theorem wsuf_at {j N : Nat} (h : j < N) : wsuf 0 N = wsuf 0 j ++ (pt' j ++ (46 :: wsuf (j + 1) (N - j - 1))) := by
  have e : N = j + ((N - j - 1) + 1) := by omega
  conv => lhs; rw [e, wsuf_split j 0, wsuf]
  simp [pt]
theorem wsuf_from {j N : Nat} (h : j < N) : wsuf j (N - j) = pt' j ++ (46 :: wsuf (j + 1) (N - j - 1)) := by
  have e : N - j = (N - j - 1) + 1 := by omega
  rw [e, wsuf]; simp [pt]
theorem dd_lt {j : Nat} (h : j < 20) : 1 ≤ (Lib.decDigits j).length ∧ (Lib.decDigits j).length ≤ 2 := by
  rw [Lib.decDigits_length]
  exact ⟨Lib.nDigits_pos j, nDig_le 2 j (by omega) (by omega)⟩
theorem pt'_len (j : Nat) : (pt' j).length = 6 + (Lib.decDigits j).length := by simp [pt']; omega
theorem wsuf_len : ∀ (n j : Nat), j + n ≤ 20 → 8 * n ≤ (wsuf j n).length ∧ (wsuf j n).length ≤ 9 * n
  | 0, _, _ => by simp [wsuf]
  | n + 1, j, h => by
    have h1 := wsuf_len n (j + 1) (by omega)
    have h2 := dd_lt (j := j) (by omega)
    have h3 := pt'_len j
    simp only [wsuf, pt, List.length_append, List.length_cons, List.length_nil]; omega
theorem ofN {k : Nat} (h : k < 256) : (UInt8.ofNat k).toNat = k := by simp [UInt8.toNat_ofNat]; omega
theorem dd_1 {j : Nat} (h : j < 10) : ∃ d : UInt8, Lib.decDigits j = [d] ∧ 48 ≤ d.toNat ∧ d.toNat ≤ 57 :=
  ⟨_, Lib.decDigits_one h, by rw [ofN (by omega)]; omega, by rw [ofN (by omega)]; omega⟩
theorem dd_2 {j : Nat} (h1 : ¬ j < 10) (h : j < 100) : ∃ d e : UInt8, Lib.decDigits j = [d, e] ∧ 48 ≤ d.toNat ∧ d.toNat ≤ 57 ∧ 48 ≤ e.toNat ∧ e.toNat ≤ 57 :=
  ⟨_, _, Lib.decDigits_two h1 h, by rw [ofN (by omega)]; omega, by rw [ofN (by omega)]; omega, by rw [ofN (by omega)]; omega, by rw [ofN (by omega)]; omega⟩
end Go.Sx
