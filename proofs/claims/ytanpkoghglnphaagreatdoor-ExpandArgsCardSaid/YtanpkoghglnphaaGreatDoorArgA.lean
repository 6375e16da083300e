import Derived.Test.YtanpkoghglnphaaGreatDoorEnv
namespace Go.Sx
open Go.Proofs
set_option maxRecDepth 1000000

noncomputable def plC : Ctx := ctxOf Tryz.prog lies18 exts18 [] []
noncomputable def pltg : List AM := [st plC 20 [.str [.var 33]] (hpOf [] 64) [(.cmp .leq (.slen 33) (.lit 100000), true)],
    st plC 20 [.str [.lit [92], .chr (.sbyte 54 (.lit 0)), .var 52]] (hpOf [] 64) [(.cmp .leq (.slen 52) (.lit 100000), true)],
    st plC 20 [.str [.chr (.sbyte 54 (.lit 0)), .var 52]] (hpOf [] 64) [(.cmp .eql (.sbyte 54 (.lit 0)) (.lit 92), false), (.cmp .leq (.slen 52) (.lit 100000), true)],
    st plC 20 [.str []] (hpOf [] 64) [],
    nd plC 20 0 [(0, .str [.lit [92], .chr (.sbyte 54 (.lit 0)), .var 52]), (3, .ptr 64 0)]
      [(64, .cells false none [.ptr 64 0, .slice 65 0 (.slen 31) (.rest 1)] 70), (65, .bytes [.var 31] 5 false)] 66
      [(.cmp .leq (.slen 52) (.lit 100000), true), (.cmp .geq (.slen 31) (.lit 1), true), (.cmp .leq (.slen 31) (.lit 100000), true)],
    nd plC 20 0 [(0, .str [.chr (.sbyte 54 (.lit 0)), .var 52]), (3, .ptr 64 0)]
      [(64, .cells false none [.ptr 64 0, .slice 65 0 (.slen 31) (.rest 1)] 70), (65, .bytes [.var 31] 5 false)] 66
      [(.cmp .eql (.sbyte 54 (.lit 0)) (.lit 92), false), (.cmp .leq (.slen 52) (.lit 100000), true), (.cmp .geq (.slen 31) (.lit 1), true), (.cmp .leq (.slen 31) (.lit 100000), true)],
    nd plC 20 0 [(0, .str []), (3, .ptr 64 0)]
      [(64, .cells false none [.ptr 64 0, .slice 65 0 (.slen 31) (.rest 1)] 70), (65, .bytes [.var 31] 5 false)] 66
      [(.cmp .geq (.slen 31) (.lit 1), true), (.cmp .leq (.slen 31) (.lit 100000), true)]]
noncomputable def plo0 : OT := (.alt (.to 1 ⟨64, 64, []⟩ [.str [.lit [92], .chr (.sbyte 54 (.lit 0)), .var 52] [.var 33]]) (.alt (.to 2 ⟨64, 64, []⟩ [.str [.chr (.sbyte 54 (.lit 0)), .var 52] [.var 33]]) (.to 3 ⟨64, 64, []⟩ [.str [] [.var 33]])))
noncomputable def plo1 : OT := (.alt (.to 4 ⟨64, 66, [(64, 64), (65, 66)]⟩ [.str [.lit [92], .chr (.sbyte 54 (.lit 0)), .var 52] [.var 52], .str [.var 31] [.chr (.sbyte 54 (.lit 0))], .int (.slen 31) (.lit 1)]) (.alt (.to 5 ⟨64, 66, [(64, 64), (65, 66)]⟩ [.str [.chr (.sbyte 54 (.lit 0)), .var 52] [.var 52], .str [.var 31] [.chr (.sbyte 54 (.lit 0))], .int (.slen 31) (.lit 1)]) (.to 6 ⟨64, 66, [(64, 64), (65, 66)]⟩ [.str [] [.var 52], .str [.var 31] [.chr (.sbyte 54 (.lit 0))], .int (.slen 31) (.lit 1)])))
noncomputable def plo2 : OT := (.alt (.to 4 ⟨64, 66, [(64, 64), (65, 66)]⟩ [.str [.lit [92], .chr (.sbyte 54 (.lit 0)), .var 52] [.var 52], .str [.var 31] [.chr (.sbyte 54 (.lit 0))], .int (.slen 31) (.lit 1)]) (.alt (.to 5 ⟨64, 66, [(64, 64), (65, 66)]⟩ [.str [.chr (.sbyte 54 (.lit 0)), .var 52] [.var 52], .str [.var 31] [.chr (.sbyte 54 (.lit 0))], .int (.slen 31) (.lit 1)]) (.to 6 ⟨64, 66, [(64, 64), (65, 66)]⟩ [.str [] [.var 52], .str [.var 31] [.chr (.sbyte 54 (.lit 0))], .int (.slen 31) (.lit 1)])))
noncomputable def plo3 : OT := (.fin ⟨64, 64, []⟩ [.str [.var 9] []])
noncomputable def plo4 : OT := (.alt (.to 4 ⟨64, 66, [(64, 64), (65, 67)]⟩ [.str [.lit [92], .chr (.sbyte 54 (.lit 0)), .var 52] [.var 52], .str [.var 31] [.var 31, .chr (.sbyte 54 (.lit 0))], .int (.slen 31) (.add (.slen 31) (.lit 1))]) (.alt (.to 5 ⟨64, 66, [(64, 64), (65, 67)]⟩ [.str [.chr (.sbyte 54 (.lit 0)), .var 52] [.var 52], .str [.var 31] [.var 31, .chr (.sbyte 54 (.lit 0))], .int (.slen 31) (.add (.slen 31) (.lit 1))]) (.to 6 ⟨64, 66, [(64, 64), (65, 67)]⟩ [.str [] [.var 52], .str [.var 31] [.var 31, .chr (.sbyte 54 (.lit 0))], .int (.slen 31) (.add (.slen 31) (.lit 1))])))
noncomputable def plo5 : OT := (.alt (.to 4 ⟨64, 66, [(64, 64), (65, 67)]⟩ [.str [.lit [92], .chr (.sbyte 54 (.lit 0)), .var 52] [.var 52], .str [.var 31] [.var 31, .chr (.sbyte 54 (.lit 0))], .int (.slen 31) (.add (.slen 31) (.lit 1))]) (.alt (.to 5 ⟨64, 66, [(64, 64), (65, 67)]⟩ [.str [.chr (.sbyte 54 (.lit 0)), .var 52] [.var 52], .str [.var 31] [.var 31, .chr (.sbyte 54 (.lit 0))], .int (.slen 31) (.add (.slen 31) (.lit 1))]) (.to 6 ⟨64, 66, [(64, 64), (65, 67)]⟩ [.str [] [.var 52], .str [.var 31] [.var 31, .chr (.sbyte 54 (.lit 0))], .int (.slen 31) (.add (.slen 31) (.lit 1))])))
noncomputable def plo6 : OT := (.fin ⟨64, 64, []⟩ [.str [.var 9] [.var 31]])
noncomputable def plG : Graph := { tg := pick pltg, stop := (stopAny [(20, (0, 3))]), n := (fun k => [0, 600, 600, 600, 600, 600, 600].getD k 0), pl := fun k => ([plo0, plo1, plo2, plo3, plo4, plo5, plo6].getD k .no).plan, o := fun k => [plo0, plo1, plo2, plo3, plo4, plo5, plo6].getD k .no, v := .str [.var 9], h := (hpOf [] 64), f := 20, N := 64 }
theorem plat0 : plG.At plC 0 := ⟨by kernel_rfl, by kernel_rfl, by kernel_rfl⟩
theorem plat1 : plG.At plC 1 := ⟨by kernel_rfl, by kernel_rfl, by kernel_rfl⟩
theorem plat2 : plG.At plC 2 := ⟨by kernel_rfl, by kernel_rfl, by kernel_rfl⟩
theorem plat3 : plG.At plC 3 := ⟨by kernel_rfl, by kernel_rfl, by kernel_rfl⟩
theorem plat4 : plG.At plC 4 := ⟨by kernel_rfl, by kernel_rfl, by kernel_rfl⟩
theorem plat5 : plG.At plC 5 := ⟨by kernel_rfl, by kernel_rfl, by kernel_rfl⟩
theorem plat6 : plG.At plC 6 := ⟨by kernel_rfl, by kernel_rfl, by kernel_rfl⟩
theorem plf0 : (plG.tg 0).facts = [(.cmp .leq (.slen 33) (.lit 100000), true)] := by kernel_rfl
theorem plf1 : (plG.tg 1).facts = [(.cmp .leq (.slen 52) (.lit 100000), true)] := by kernel_rfl
theorem plf2 : (plG.tg 2).facts = [(.cmp .eql (.sbyte 54 (.lit 0)) (.lit 92), false), (.cmp .leq (.slen 52) (.lit 100000), true)] := by kernel_rfl
theorem plf3 : (plG.tg 3).facts = [] := by kernel_rfl
theorem plf4 : (plG.tg 4).facts = [(.cmp .leq (.slen 52) (.lit 100000), true), (.cmp .geq (.slen 31) (.lit 1), true), (.cmp .leq (.slen 31) (.lit 100000), true)] := by kernel_rfl
theorem plf5 : (plG.tg 5).facts = [(.cmp .eql (.sbyte 54 (.lit 0)) (.lit 92), false), (.cmp .leq (.slen 52) (.lit 100000), true), (.cmp .geq (.slen 31) (.lit 1), true), (.cmp .leq (.slen 31) (.lit 100000), true)] := by kernel_rfl
theorem plf6 : (plG.tg 6).facts = [(.cmp .geq (.slen 31) (.lit 1), true), (.cmp .leq (.slen 31) (.lit 100000), true)] := by kernel_rfl
theorem plst : startF plC [(.cmp .leq (.slen 33) (.lit 100000), true)] 20 [.str [.var 33]] (hpOf [] 64) = some (plG.tg 0) := by kernel_rfl
end Go.Sx
namespace Go.Sx
open Go.Proofs
set_option maxRecDepth 100000
def pE (b : UInt8) (t a : List UInt8) (ρ : Env) : Env := ((ρ.setS 54 [b]).setS 52 (quoteL t)).setS 31 a
def plI (s : List UInt8) : Nat → Env → Prop
  | 0, ρ => ρ.str 33 = quoteL s
  | 1, ρ => ∃ b t, s = b :: t ∧ isSp b = true ∧ ρ.str 54 = [b] ∧ ρ.str 52 = quoteL t
  | 2, ρ => ∃ b t, s = b :: t ∧ isSp b = false ∧ ρ.str 54 = [b] ∧ ρ.str 52 = quoteL t
  | 3, _ => s = []
  | 4, ρ => ∃ a b t, s = a ++ b :: t ∧ a ≠ [] ∧ isSp b = true ∧ ρ.str 54 = [b] ∧ ρ.str 52 = quoteL t ∧ ρ.str 31 = a
  | 5, ρ => ∃ a b t, s = a ++ b :: t ∧ a ≠ [] ∧ isSp b = false ∧ ρ.str 54 = [b] ∧ ρ.str 52 = quoteL t ∧ ρ.str 31 = a
  | 6, ρ => s ≠ [] ∧ ρ.str 31 = s
  | _, _ => False
def plμ (s : List UInt8) : Nat → Env → Nat
  | 0, _ => 2 * s.length + 10
  | 1, _ => 2 * s.length + 5
  | 2, _ => 2 * s.length + 5
  | 3, _ => 1
  | 4, ρ => (ρ.str 52).length + 2
  | 5, ρ => (ρ.str 52).length + 2
  | _, _ => 1
theorem quoteL_sp {b : UInt8} (h : isSp b = true) (t : List UInt8) : quoteL (b :: t) = 92 :: b :: quoteL t := by simp [quoteL, quoteB_yes h]
theorem quoteL_np {b : UInt8} (h : isSp b = false) (t : List UInt8) : quoteL (b :: t) = b :: quoteL t := by simp [quoteL, quoteB_no h]
theorem np92 {b : UInt8} (h : isSp b = false) : b.toNat ≠ 92 ∧ b.toNat ≠ 42 ∧ b.toNat ≠ 63 ∧ b.toNat ≠ 91 := by
  simp [isSp] at h; omega
theorem plain_calls (s : List UInt8) (hs : s.length ≤ 50000) (q : ByteArray) (hq : q.data.toList = quoteL s) (W : World) :
    Calls Tryz.prog 20 #[.string q] W fun e W' => e = .returned (.string ⟨⟨s⟩⟩) ∧ Kept W W' := by
  have ql := quoteL_len
  have := Graph.calls (G := plG) (C := plC) (P := Tryz.prog) (I := plI s) (μ := plμ s) (J := fun ρ => ρ.str 9 = s) (fun _ _ _ => ctx18 orcs_nil pors_nil) ?_ ?_ ?_ (ρ := Env.setS (env [] []) 33 (quoteL s)) rfl (F := [(.cmp .leq (.slen 33) (.lit 100000), true)]) (args := [.str [.var 33]]) (h := hpOf [] 64) plst
    (φ := pl0) (w := W) (xs := [.string q]) (wr0 _ W) glob0 (VRs.cons (by simp only [VR, SS.den, SP.den, List.append_nil]; show Value.string q = .string ⟨⟨quoteL s⟩⟩; rw [← hq]) VRs.nil)
  · exact this.mono fun e W' h => kept_of h (fun ρ' ψ z hJ hz => by
      have hz : VR ρ' ψ (.str [.var 9]) z := hz
      simp only [VR, SS.den, SP.den, List.append_nil] at hz; rw [hz, hJ]) rfl
  · intro k ρ hi
    have l0 := ql s
    match k, hi with
    | 0, hi =>
      have hi : ρ.str 33 = quoteL s := hi
      rw [plf0]; intro p hp
      simp only [List.mem_cons, List.not_mem_nil, or_false] at hp
      rcases hp with rfl
      simp [SB.den, SI.den, intCmp, ltInt_iff, hi]; omega
    | 1, hi =>
      obtain ⟨b, t, h1, h2, h3, h4⟩ := hi
      have l1 := ql t
      rw [h1, List.length_cons] at hs
      rw [plf1]; intro p hp
      simp only [List.mem_cons, List.not_mem_nil, or_false] at hp
      rcases hp with rfl
      simp [SB.den, SI.den, intCmp, ltInt_iff, h4]; omega
    | 2, hi =>
      obtain ⟨b, t, h1, h2, h3, h4⟩ := hi
      have l1 := ql t
      have l2 := np92 h2
      rw [h1, List.length_cons] at hs
      rw [plf2]; intro p hp
      simp only [List.mem_cons, List.not_mem_nil, or_false] at hp
      rcases hp with rfl | rfl <;> simp [SB.den, SI.den, intCmp, ltInt_iff, eqInt_iff, h4, h3] <;> omega
    | 3, hi => rw [plf3]; intro p hp; cases hp
    | 4, hi =>
      obtain ⟨a, b, t, h1, h0, h2, h3, h4, h5⟩ := hi
      have l1 := ql t
      have l3 := List.length_pos_iff.2 h0
      rw [h1, List.length_append, List.length_cons] at hs
      rw [plf4]; intro p hp
      simp only [List.mem_cons, List.not_mem_nil, or_false] at hp
      rcases hp with rfl | rfl | rfl <;> simp [SB.den, SI.den, intCmp, ltInt_iff, eqInt_iff, h4, h3, h5] <;> omega
    | 5, hi =>
      obtain ⟨a, b, t, h1, h0, h2, h3, h4, h5⟩ := hi
      have l1 := ql t
      have l2 := np92 h2
      have l3 := List.length_pos_iff.2 h0
      rw [h1, List.length_append, List.length_cons] at hs
      rw [plf5]; intro p hp
      simp only [List.mem_cons, List.not_mem_nil, or_false] at hp
      rcases hp with rfl | rfl | rfl | rfl <;> simp [SB.den, SI.den, intCmp, ltInt_iff, eqInt_iff, h4, h3, h5] <;> omega
    | 6, hi =>
      obtain ⟨h0, h1⟩ := hi
      have l3 := List.length_pos_iff.2 h0
      rw [plf6]; intro p hp
      simp only [List.mem_cons, List.not_mem_nil, or_false] at hp
      rcases hp with rfl | rfl <;> simp [SB.den, SI.den, intCmp, ltInt_iff, eqInt_iff, h1] <;> omega
  · intro k ρ hi
    match k, hi with
    | 0, _ => exact plat0
    | 1, _ => exact plat1
    | 2, _ => exact plat2
    | 3, _ => exact plat3
    | 4, _ => exact plat4
    | 5, _ => exact plat5
    | 6, _ => exact plat6
  · intro k ρ hi
    match k, hi with
    | 0, hi =>
      have hi : ρ.str 33 = quoteL s := hi
      show OTok (plI s) (plμ s) _ 0 ρ plo0
      simp only [plo0, OTok]
      cases s with
      | nil => exact .inr (.inr ⟨ρ, by simp [Eqns, Eqn.ok, SS.den, SP.den, hi, quoteL], rfl, by simp [plμ]⟩)
      | cons b t =>
        cases hb : isSp b with
        | true => exact .inl ⟨pE b t [] ρ, by simp [Eqns, Eqn.ok, SS.den, SP.den, SI.den, pE, setS_str, hi, quoteL_sp hb], ⟨b, t, rfl, hb, rfl, rfl⟩, by simp [plμ]⟩
        | false => exact .inr (.inl ⟨pE b t [] ρ, by simp [Eqns, Eqn.ok, SS.den, SP.den, SI.den, pE, setS_str, hi, quoteL_np hb], ⟨b, t, rfl, hb, rfl, rfl⟩, by simp [plμ]⟩)
    | 1, hi =>
      obtain ⟨b, t, h1, h2, h3, h4⟩ := hi
      show OTok (plI s) (plμ s) _ 1 ρ plo1
      simp only [plo1, OTok]
      cases t with
      | nil => exact .inr (.inr ⟨pE b [] s ρ, by simp [Eqns, Eqn.ok, SS.den, SP.den, SI.den, pE, setS_str, h1, h3, h4, quoteL], ⟨by simp [h1], rfl⟩, by simp [plμ, h1]⟩)
      | cons c t =>
        have l1 := ql t
        have hl : s.length = t.length + 2 := by rw [h1]; simp
        cases hb : isSp c with
        | true => exact .inl ⟨pE c t [b] ρ, by simp [Eqns, Eqn.ok, SS.den, SP.den, SI.den, pE, setS_str, h3, h4, quoteL_sp hb], ⟨[b], c, t, by simp [h1], by simp, hb, rfl, rfl, rfl⟩, by simp [plμ, pE, setS_str]; omega⟩
        | false => exact .inr (.inl ⟨pE c t [b] ρ, by simp [Eqns, Eqn.ok, SS.den, SP.den, SI.den, pE, setS_str, h3, h4, quoteL_np hb], ⟨[b], c, t, by simp [h1], by simp, hb, rfl, rfl, rfl⟩, by simp [plμ, pE, setS_str]; omega⟩)
    | 2, hi =>
      obtain ⟨b, t, h1, h2, h3, h4⟩ := hi
      show OTok (plI s) (plμ s) _ 2 ρ plo2
      simp only [plo2, OTok]
      cases t with
      | nil => exact .inr (.inr ⟨pE b [] s ρ, by simp [Eqns, Eqn.ok, SS.den, SP.den, SI.den, pE, setS_str, h1, h3, h4, quoteL], ⟨by simp [h1], rfl⟩, by simp [plμ, h1]⟩)
      | cons c t =>
        have l1 := ql t
        have hl : s.length = t.length + 2 := by rw [h1]; simp
        cases hb : isSp c with
        | true => exact .inl ⟨pE c t [b] ρ, by simp [Eqns, Eqn.ok, SS.den, SP.den, SI.den, pE, setS_str, h3, h4, quoteL_sp hb], ⟨[b], c, t, by simp [h1], by simp, hb, rfl, rfl, rfl⟩, by simp [plμ, pE, setS_str]; omega⟩
        | false => exact .inr (.inl ⟨pE c t [b] ρ, by simp [Eqns, Eqn.ok, SS.den, SP.den, SI.den, pE, setS_str, h3, h4, quoteL_np hb], ⟨[b], c, t, by simp [h1], by simp, hb, rfl, rfl, rfl⟩, by simp [plμ, pE, setS_str]; omega⟩)
    | 3, hi =>
      have hi : s = [] := hi
      show OTok (plI s) (plμ s) _ 3 ρ plo3
      simp only [plo3, OTok]
      exact ⟨ρ.setS 9 [], by simp [Eqns, Eqn.ok, SS.den, SP.den, setS_str], by rw [hi]; rfl⟩
    | 4, hi =>
      obtain ⟨a, b, t, h1, h0, h2, h3, h4, h5⟩ := hi
      show OTok (plI s) (plμ s) _ 4 ρ plo4
      simp only [plo4, OTok]
      cases t with
      | nil => exact .inr (.inr ⟨pE b [] s ρ, by simp [Eqns, Eqn.ok, SS.den, SP.den, SI.den, pE, setS_str, h1, h3, h4, h5, quoteL], ⟨by simp [h1], rfl⟩, by simp [plμ]⟩)
      | cons c t =>
        have l1 := quoteB_len c
        cases hb : isSp c with
        | true => exact .inl ⟨pE c t (a ++ [b]) ρ, by simp [Eqns, Eqn.ok, SS.den, SP.den, SI.den, pE, setS_str, h3, h4, h5, quoteL_sp hb], ⟨a ++ [b], c, t, by simp [h1], by simp, hb, rfl, rfl, rfl⟩, by simp [plμ, pE, setS_str, h4, quoteL]; omega⟩
        | false => exact .inr (.inl ⟨pE c t (a ++ [b]) ρ, by simp [Eqns, Eqn.ok, SS.den, SP.den, SI.den, pE, setS_str, h3, h4, h5, quoteL_np hb], ⟨a ++ [b], c, t, by simp [h1], by simp, hb, rfl, rfl, rfl⟩, by simp [plμ, pE, setS_str, h4, quoteL]; omega⟩)
    | 5, hi =>
      obtain ⟨a, b, t, h1, h0, h2, h3, h4, h5⟩ := hi
      show OTok (plI s) (plμ s) _ 5 ρ plo5
      simp only [plo5, OTok]
      cases t with
      | nil => exact .inr (.inr ⟨pE b [] s ρ, by simp [Eqns, Eqn.ok, SS.den, SP.den, SI.den, pE, setS_str, h1, h3, h4, h5, quoteL], ⟨by simp [h1], rfl⟩, by simp [plμ]⟩)
      | cons c t =>
        have l1 := quoteB_len c
        cases hb : isSp c with
        | true => exact .inl ⟨pE c t (a ++ [b]) ρ, by simp [Eqns, Eqn.ok, SS.den, SP.den, SI.den, pE, setS_str, h3, h4, h5, quoteL_sp hb], ⟨a ++ [b], c, t, by simp [h1], by simp, hb, rfl, rfl, rfl⟩, by simp [plμ, pE, setS_str, h4, quoteL]; omega⟩
        | false => exact .inr (.inl ⟨pE c t (a ++ [b]) ρ, by simp [Eqns, Eqn.ok, SS.den, SP.den, SI.den, pE, setS_str, h3, h4, h5, quoteL_np hb], ⟨a ++ [b], c, t, by simp [h1], by simp, hb, rfl, rfl, rfl⟩, by simp [plμ, pE, setS_str, h4, quoteL]; omega⟩)
    | 6, hi =>
      obtain ⟨h0, h1⟩ := hi
      show OTok (plI s) (plμ s) _ 6 ρ plo6
      simp only [plo6, OTok]
      exact ⟨ρ.setS 9 s, by simp [Eqns, Eqn.ok, SS.den, SP.den, setS_str, h1], rfl⟩
end Go.Sx
namespace Go.Sx
open Go.Proofs
set_option maxRecDepth 1000000

noncomputable def haC : Ctx := ctxOf Tryz.prog lies18 exts18 [] []
noncomputable def hatg : List AM := [st haC 21 [.str [.var 33]] (hpOf [] 64) [(.cmp .leq (.slen 33) (.lit 100000), true)],
    st haC 21 [.str [.lit [92], .chr (.sbyte 54 (.lit 0)), .var 52]] (hpOf [] 64) [(.cmp .leq (.slen 52) (.lit 100000), true)],
    st haC 21 [.str [.chr (.sbyte 54 (.lit 0)), .var 52]] (hpOf [] 64) [(.cmp .eql (.sbyte 54 (.lit 0)) (.lit 92), false), (.cmp .eql (.sbyte 54 (.lit 0)) (.lit 42), false), (.cmp .eql (.sbyte 54 (.lit 0)) (.lit 63), false), (.cmp .eql (.sbyte 54 (.lit 0)) (.lit 91), false), (.cmp .leq (.slen 52) (.lit 100000), true)],
    st haC 21 [.str []] (hpOf [] 64) [],
    ndAt (leafAt (execS haC (stopAny [(57, 1, 2)]) 600 (st haC 21 [.str [.lit [92], .chr (.sbyte 54 (.lit 0)), .var 52]] (hpOf [] 64) [(.cmp .leq (.slen 52) (.lit 100000), true)])) [true]) [0, 1] [] [[2]] [64, 66, 67] [2] [(65, .cells false none [.str [.lit [92], .chr (.sbyte 54 (.lit 0)), .var 52]] 9)] 68 [(.cmp .leq (.slen 52) (.lit 100000), true)],
    ndAt (leafAt (execS haC (stopAny [(57, 1, 2)]) 600 (st haC 21 [.str [.lit [92], .chr (.sbyte 54 (.lit 0)), .var 52]] (hpOf [] 64) [(.cmp .leq (.slen 52) (.lit 100000), true)])) [true]) [0, 1] [] [[2]] [64, 66, 67] [2] [(65, .cells false none [.str [.chr (.sbyte 54 (.lit 0)), .var 52]] 9)] 68 [(.cmp .eql (.sbyte 54 (.lit 0)) (.lit 92), false), (.cmp .eql (.sbyte 54 (.lit 0)) (.lit 42), false), (.cmp .eql (.sbyte 54 (.lit 0)) (.lit 63), false), (.cmp .eql (.sbyte 54 (.lit 0)) (.lit 91), false), (.cmp .leq (.slen 52) (.lit 100000), true)],
    ndAt (leafAt (execS haC (stopAny [(57, 1, 2)]) 600 (st haC 21 [.str [.lit [92], .chr (.sbyte 54 (.lit 0)), .var 52]] (hpOf [] 64) [(.cmp .leq (.slen 52) (.lit 100000), true)])) [true]) [0, 1] [] [[2]] [64, 66, 67] [2] [(65, .cells false none [.str []] 9)] 68 []]
noncomputable def hao0 : OT := (.alt (.to 1 ⟨64, 64, []⟩ [.str [.lit [92], .chr (.sbyte 54 (.lit 0)), .var 52] [.var 33]]) (.alt (.to 2 ⟨64, 64, []⟩ [.str [.chr (.sbyte 54 (.lit 0)), .var 52] [.var 33]]) (.to 3 ⟨64, 64, []⟩ [.str [] [.var 33]])))
noncomputable def hao1 : OT := (.fork (.cmp .lss (.bin .shr .u8 (.sbyte 54 (.lit 0)) (.lit 6)) (.lit 1)) (.alt (.to 4 ⟨64, 68, [(64, 64), (65, 65), (66, 66), (67, 67)]⟩ [.str [.lit [92], .chr (.sbyte 54 (.lit 0)), .var 52] [.var 52]]) (.alt (.to 5 ⟨64, 68, [(64, 64), (65, 65), (66, 66), (67, 67)]⟩ [.str [.chr (.sbyte 54 (.lit 0)), .var 52] [.var 52]]) (.to 6 ⟨64, 68, [(64, 64), (65, 65), (66, 66), (67, 67)]⟩ [.str [] [.var 52]]))) (.fork (.cmp .lss (.bin .shr .u8 (.sbyte 54 (.lit 0)) (.lit 6)) (.lit 2)) (.alt (.to 4 ⟨64, 68, [(64, 64), (65, 65), (66, 66), (67, 67)]⟩ [.str [.lit [92], .chr (.sbyte 54 (.lit 0)), .var 52] [.var 52]]) (.alt (.to 5 ⟨64, 68, [(64, 64), (65, 65), (66, 66), (67, 67)]⟩ [.str [.chr (.sbyte 54 (.lit 0)), .var 52] [.var 52]]) (.to 6 ⟨64, 68, [(64, 64), (65, 65), (66, 66), (67, 67)]⟩ [.str [] [.var 52]]))) (.fork (.cmp .lss (.bin .shr .u8 (.sbyte 54 (.lit 0)) (.lit 6)) (.lit 3)) (.alt (.to 4 ⟨64, 68, [(64, 64), (65, 65), (66, 66), (67, 67)]⟩ [.str [.lit [92], .chr (.sbyte 54 (.lit 0)), .var 52] [.var 52]]) (.alt (.to 5 ⟨64, 68, [(64, 64), (65, 65), (66, 66), (67, 67)]⟩ [.str [.chr (.sbyte 54 (.lit 0)), .var 52] [.var 52]]) (.to 6 ⟨64, 68, [(64, 64), (65, 65), (66, 66), (67, 67)]⟩ [.str [] [.var 52]]))) (.alt (.to 4 ⟨64, 68, [(64, 64), (65, 65), (66, 66), (67, 67)]⟩ [.str [.lit [92], .chr (.sbyte 54 (.lit 0)), .var 52] [.var 52]]) (.alt (.to 5 ⟨64, 68, [(64, 64), (65, 65), (66, 66), (67, 67)]⟩ [.str [.chr (.sbyte 54 (.lit 0)), .var 52] [.var 52]]) (.to 6 ⟨64, 68, [(64, 64), (65, 65), (66, 66), (67, 67)]⟩ [.str [] [.var 52]]))))))
noncomputable def hao2 : OT := (.fork (.cmp .lss (.bin .shr .u8 (.sbyte 54 (.lit 0)) (.lit 6)) (.lit 1)) (.alt (.to 4 ⟨64, 68, [(64, 64), (65, 65), (66, 66), (67, 67)]⟩ [.str [.lit [92], .chr (.sbyte 54 (.lit 0)), .var 52] [.var 52]]) (.alt (.to 5 ⟨64, 68, [(64, 64), (65, 65), (66, 66), (67, 67)]⟩ [.str [.chr (.sbyte 54 (.lit 0)), .var 52] [.var 52]]) (.to 6 ⟨64, 68, [(64, 64), (65, 65), (66, 66), (67, 67)]⟩ [.str [] [.var 52]]))) (.fork (.cmp .lss (.bin .shr .u8 (.sbyte 54 (.lit 0)) (.lit 6)) (.lit 2)) (.alt (.to 4 ⟨64, 68, [(64, 64), (65, 65), (66, 66), (67, 67)]⟩ [.str [.lit [92], .chr (.sbyte 54 (.lit 0)), .var 52] [.var 52]]) (.alt (.to 5 ⟨64, 68, [(64, 64), (65, 65), (66, 66), (67, 67)]⟩ [.str [.chr (.sbyte 54 (.lit 0)), .var 52] [.var 52]]) (.to 6 ⟨64, 68, [(64, 64), (65, 65), (66, 66), (67, 67)]⟩ [.str [] [.var 52]]))) (.fork (.cmp .lss (.bin .shr .u8 (.sbyte 54 (.lit 0)) (.lit 6)) (.lit 3)) (.alt (.to 4 ⟨64, 68, [(64, 64), (65, 65), (66, 66), (67, 67)]⟩ [.str [.lit [92], .chr (.sbyte 54 (.lit 0)), .var 52] [.var 52]]) (.alt (.to 5 ⟨64, 68, [(64, 64), (65, 65), (66, 66), (67, 67)]⟩ [.str [.chr (.sbyte 54 (.lit 0)), .var 52] [.var 52]]) (.to 6 ⟨64, 68, [(64, 64), (65, 65), (66, 66), (67, 67)]⟩ [.str [] [.var 52]]))) (.alt (.to 4 ⟨64, 68, [(64, 64), (65, 65), (66, 66), (67, 67)]⟩ [.str [.lit [92], .chr (.sbyte 54 (.lit 0)), .var 52] [.var 52]]) (.alt (.to 5 ⟨64, 68, [(64, 64), (65, 65), (66, 66), (67, 67)]⟩ [.str [.chr (.sbyte 54 (.lit 0)), .var 52] [.var 52]]) (.to 6 ⟨64, 68, [(64, 64), (65, 65), (66, 66), (67, 67)]⟩ [.str [] [.var 52]]))))))
noncomputable def hao3 : OT := (.fin ⟨64, 64, []⟩ [])
noncomputable def hao4 : OT := (.fork (.cmp .lss (.bin .shr .u8 (.sbyte 54 (.lit 0)) (.lit 6)) (.lit 1)) (.alt (.to 4 ⟨64, 68, [(64, 64), (65, 65), (66, 66), (67, 67)]⟩ [.str [.lit [92], .chr (.sbyte 54 (.lit 0)), .var 52] [.var 52]]) (.alt (.to 5 ⟨64, 68, [(64, 64), (65, 65), (66, 66), (67, 67)]⟩ [.str [.chr (.sbyte 54 (.lit 0)), .var 52] [.var 52]]) (.to 6 ⟨64, 68, [(64, 64), (65, 65), (66, 66), (67, 67)]⟩ [.str [] [.var 52]]))) (.fork (.cmp .lss (.bin .shr .u8 (.sbyte 54 (.lit 0)) (.lit 6)) (.lit 2)) (.alt (.to 4 ⟨64, 68, [(64, 64), (65, 65), (66, 66), (67, 67)]⟩ [.str [.lit [92], .chr (.sbyte 54 (.lit 0)), .var 52] [.var 52]]) (.alt (.to 5 ⟨64, 68, [(64, 64), (65, 65), (66, 66), (67, 67)]⟩ [.str [.chr (.sbyte 54 (.lit 0)), .var 52] [.var 52]]) (.to 6 ⟨64, 68, [(64, 64), (65, 65), (66, 66), (67, 67)]⟩ [.str [] [.var 52]]))) (.fork (.cmp .lss (.bin .shr .u8 (.sbyte 54 (.lit 0)) (.lit 6)) (.lit 3)) (.alt (.to 4 ⟨64, 68, [(64, 64), (65, 65), (66, 66), (67, 67)]⟩ [.str [.lit [92], .chr (.sbyte 54 (.lit 0)), .var 52] [.var 52]]) (.alt (.to 5 ⟨64, 68, [(64, 64), (65, 65), (66, 66), (67, 67)]⟩ [.str [.chr (.sbyte 54 (.lit 0)), .var 52] [.var 52]]) (.to 6 ⟨64, 68, [(64, 64), (65, 65), (66, 66), (67, 67)]⟩ [.str [] [.var 52]]))) (.alt (.to 4 ⟨64, 68, [(64, 64), (65, 65), (66, 66), (67, 67)]⟩ [.str [.lit [92], .chr (.sbyte 54 (.lit 0)), .var 52] [.var 52]]) (.alt (.to 5 ⟨64, 68, [(64, 64), (65, 65), (66, 66), (67, 67)]⟩ [.str [.chr (.sbyte 54 (.lit 0)), .var 52] [.var 52]]) (.to 6 ⟨64, 68, [(64, 64), (65, 65), (66, 66), (67, 67)]⟩ [.str [] [.var 52]]))))))
noncomputable def hao5 : OT := (.fork (.cmp .lss (.bin .shr .u8 (.sbyte 54 (.lit 0)) (.lit 6)) (.lit 1)) (.alt (.to 4 ⟨64, 68, [(64, 64), (65, 65), (66, 66), (67, 67)]⟩ [.str [.lit [92], .chr (.sbyte 54 (.lit 0)), .var 52] [.var 52]]) (.alt (.to 5 ⟨64, 68, [(64, 64), (65, 65), (66, 66), (67, 67)]⟩ [.str [.chr (.sbyte 54 (.lit 0)), .var 52] [.var 52]]) (.to 6 ⟨64, 68, [(64, 64), (65, 65), (66, 66), (67, 67)]⟩ [.str [] [.var 52]]))) (.fork (.cmp .lss (.bin .shr .u8 (.sbyte 54 (.lit 0)) (.lit 6)) (.lit 2)) (.alt (.to 4 ⟨64, 68, [(64, 64), (65, 65), (66, 66), (67, 67)]⟩ [.str [.lit [92], .chr (.sbyte 54 (.lit 0)), .var 52] [.var 52]]) (.alt (.to 5 ⟨64, 68, [(64, 64), (65, 65), (66, 66), (67, 67)]⟩ [.str [.chr (.sbyte 54 (.lit 0)), .var 52] [.var 52]]) (.to 6 ⟨64, 68, [(64, 64), (65, 65), (66, 66), (67, 67)]⟩ [.str [] [.var 52]]))) (.fork (.cmp .lss (.bin .shr .u8 (.sbyte 54 (.lit 0)) (.lit 6)) (.lit 3)) (.alt (.to 4 ⟨64, 68, [(64, 64), (65, 65), (66, 66), (67, 67)]⟩ [.str [.lit [92], .chr (.sbyte 54 (.lit 0)), .var 52] [.var 52]]) (.alt (.to 5 ⟨64, 68, [(64, 64), (65, 65), (66, 66), (67, 67)]⟩ [.str [.chr (.sbyte 54 (.lit 0)), .var 52] [.var 52]]) (.to 6 ⟨64, 68, [(64, 64), (65, 65), (66, 66), (67, 67)]⟩ [.str [] [.var 52]]))) (.alt (.to 4 ⟨64, 68, [(64, 64), (65, 65), (66, 66), (67, 67)]⟩ [.str [.lit [92], .chr (.sbyte 54 (.lit 0)), .var 52] [.var 52]]) (.alt (.to 5 ⟨64, 68, [(64, 64), (65, 65), (66, 66), (67, 67)]⟩ [.str [.chr (.sbyte 54 (.lit 0)), .var 52] [.var 52]]) (.to 6 ⟨64, 68, [(64, 64), (65, 65), (66, 66), (67, 67)]⟩ [.str [] [.var 52]]))))))
noncomputable def hao6 : OT := (.fin ⟨64, 64, []⟩ [])
noncomputable def haG : Graph := { tg := pick hatg, stop := (stopAny [(57, (1, 2))]), n := (fun k => [0, 600, 600, 600, 600, 600, 600].getD k 0), pl := fun k => ([hao0, hao1, hao2, hao3, hao4, hao5, hao6].getD k .no).plan, o := fun k => [hao0, hao1, hao2, hao3, hao4, hao5, hao6].getD k .no, v := .bool (.lit false), h := (hpOf [] 64), f := 21, N := 64 }
theorem haat0 : haG.At haC 0 := ⟨by kernel_rfl, by kernel_rfl, by kernel_rfl⟩
theorem haat1 : haG.At haC 1 := ⟨by kernel_rfl, by kernel_rfl, by kernel_rfl⟩
theorem haat2 : haG.At haC 2 := ⟨by kernel_rfl, by kernel_rfl, by kernel_rfl⟩
theorem haat3 : haG.At haC 3 := ⟨by kernel_rfl, by kernel_rfl, by kernel_rfl⟩
theorem haat4 : haG.At haC 4 := ⟨by kernel_rfl, by kernel_rfl, by kernel_rfl⟩
theorem haat5 : haG.At haC 5 := ⟨by kernel_rfl, by kernel_rfl, by kernel_rfl⟩
theorem haat6 : haG.At haC 6 := ⟨by kernel_rfl, by kernel_rfl, by kernel_rfl⟩
theorem haf0 : (haG.tg 0).facts = [(.cmp .leq (.slen 33) (.lit 100000), true)] := by kernel_rfl
theorem haf1 : (haG.tg 1).facts = [(.cmp .leq (.slen 52) (.lit 100000), true)] := by kernel_rfl
theorem haf2 : (haG.tg 2).facts = [(.cmp .eql (.sbyte 54 (.lit 0)) (.lit 92), false), (.cmp .eql (.sbyte 54 (.lit 0)) (.lit 42), false), (.cmp .eql (.sbyte 54 (.lit 0)) (.lit 63), false), (.cmp .eql (.sbyte 54 (.lit 0)) (.lit 91), false), (.cmp .leq (.slen 52) (.lit 100000), true)] := by kernel_rfl
theorem haf3 : (haG.tg 3).facts = [] := by kernel_rfl
theorem haf4 : (haG.tg 4).facts = [(.cmp .leq (.slen 52) (.lit 100000), true)] := by kernel_rfl
theorem haf5 : (haG.tg 5).facts = [(.cmp .eql (.sbyte 54 (.lit 0)) (.lit 92), false), (.cmp .eql (.sbyte 54 (.lit 0)) (.lit 42), false), (.cmp .eql (.sbyte 54 (.lit 0)) (.lit 63), false), (.cmp .eql (.sbyte 54 (.lit 0)) (.lit 91), false), (.cmp .leq (.slen 52) (.lit 100000), true)] := by kernel_rfl
theorem haf6 : (haG.tg 6).facts = [] := by kernel_rfl
theorem hast : startF haC [(.cmp .leq (.slen 33) (.lit 100000), true)] 21 [.str [.var 33]] (hpOf [] 64) = some (haG.tg 0) := by kernel_rfl
end Go.Sx
namespace Go.Sx
open Go.Proofs
set_option maxRecDepth 100000
def haL (t : List UInt8) : Nat := t.length
def haI (s : List UInt8) : Nat → Env → Prop
  | 0, ρ => ρ.str 33 = quoteL s
  | 1, ρ => ∃ b t, haL t < 50000 ∧ s = b :: t ∧ isSp b = true ∧ ρ.str 54 = [b] ∧ ρ.str 52 = quoteL t
  | 2, ρ => ∃ b t, haL t < 50000 ∧ s = b :: t ∧ isSp b = false ∧ ρ.str 54 = [b] ∧ ρ.str 52 = quoteL t
  | 3, _ => s = []
  | 4, ρ => ∃ b t, haL t < 50000 ∧ isSp b = true ∧ ρ.str 54 = [b] ∧ ρ.str 52 = quoteL t
  | 5, ρ => ∃ b t, haL t < 50000 ∧ isSp b = false ∧ ρ.str 54 = [b] ∧ ρ.str 52 = quoteL t
  | 6, _ => True
  | _, _ => False
def haμ (s : List UInt8) : Nat → Env → Nat
  | 0, _ => 2 * s.length + 10
  | 1, _ => 2 * s.length + 5
  | 2, _ => 2 * s.length + 5
  | 3, _ => 1
  | 4, ρ => (ρ.str 52).length + 2
  | 5, ρ => (ρ.str 52).length + 2
  | _, _ => 1
theorem has_calls (s : List UInt8) (hs : s.length ≤ 50000) (q : ByteArray) (hq : q.data.toList = quoteL s) (W : World) :
    Calls Tryz.prog 21 #[.string q] W fun e W' => e = .returned (.bool false) ∧ Kept W W' := by
  have ql := quoteL_len
  have := Graph.calls (G := haG) (C := haC) (P := Tryz.prog) (I := haI s) (μ := haμ s) (J := fun _ => True) (fun _ _ _ => ctx18 orcs_nil pors_nil) ?_ ?_ ?_ (ρ := Env.setS (env [] []) 33 (quoteL s)) rfl (F := [(.cmp .leq (.slen 33) (.lit 100000), true)]) (args := [.str [.var 33]]) (h := hpOf [] 64) hast
    (φ := pl0) (w := W) (xs := [.string q]) (wr0 _ W) glob0 (VRs.cons (by simp only [VR, SS.den, SP.den, List.append_nil]; show Value.string q = .string ⟨⟨quoteL s⟩⟩; rw [← hq]) VRs.nil)
  · exact this.mono fun e W' h => kept_of h (fun ρ' ψ z hJ hz => by
      have hz : VR ρ' ψ (.bool (.lit false)) z := hz
      simp only [VR, SB.den] at hz; exact hz) rfl
  · intro k ρ hi
    have l0 := ql s
    match k, hi with
    | 0, hi =>
      have hi : ρ.str 33 = quoteL s := hi
      rw [haf0]; intro p hp
      simp only [List.mem_cons, List.not_mem_nil, or_false] at hp
      rcases hp with rfl
      simp [SB.den, SI.den, intCmp, ltInt_iff, hi]; omega
    | 1, hi =>
      obtain ⟨b, t, hl, h1, h2, h3, h4⟩ := hi
      have l1 := ql t
      simp only [haL] at hl
      rw [haf1]; intro p hp
      simp only [List.mem_cons, List.not_mem_nil, or_false] at hp
      rcases hp with rfl
      simp [SB.den, SI.den, intCmp, ltInt_iff, h4]; omega
    | 2, hi =>
      obtain ⟨b, t, hl, h1, h2, h3, h4⟩ := hi
      have l1 := ql t
      have l2 := np92 h2
      simp only [haL] at hl
      rw [haf2]; intro p hp
      simp only [List.mem_cons, List.not_mem_nil, or_false] at hp
      rcases hp with rfl | rfl | rfl | rfl | rfl <;> simp [SB.den, SI.den, intCmp, ltInt_iff, eqInt_iff, h4, h3] <;> omega
    | 3, hi => rw [haf3]; intro p hp; cases hp
    | 4, hi =>
      obtain ⟨b, t, hl, h2, h3, h4⟩ := hi
      have l1 := ql t
      simp only [haL] at hl
      rw [haf4]; intro p hp
      simp only [List.mem_cons, List.not_mem_nil, or_false] at hp
      rcases hp with rfl
      simp [SB.den, SI.den, intCmp, ltInt_iff, h4]; omega
    | 5, hi =>
      obtain ⟨b, t, hl, h2, h3, h4⟩ := hi
      have l1 := ql t
      have l2 := np92 h2
      simp only [haL] at hl
      rw [haf5]; intro p hp
      simp only [List.mem_cons, List.not_mem_nil, or_false] at hp
      rcases hp with rfl | rfl | rfl | rfl | rfl <;> simp [SB.den, SI.den, intCmp, ltInt_iff, eqInt_iff, h4, h3] <;> omega
    | 6, hi => rw [haf6]; intro p hp; cases hp
  · intro k ρ hi
    match k, hi with
    | 0, _ => exact haat0
    | 1, _ => exact haat1
    | 2, _ => exact haat2
    | 3, _ => exact haat3
    | 4, _ => exact haat4
    | 5, _ => exact haat5
    | 6, _ => exact haat6
  · intro k ρ hi
    match k, hi with
    | 0, hi =>
      have hi : ρ.str 33 = quoteL s := hi
      show OTok (haI s) (haμ s) _ 0 ρ hao0
      simp only [hao0, OTok]
      cases s with
      | nil => exact .inr (.inr ⟨ρ, by simp [Eqns, Eqn.ok, SS.den, SP.den, hi, quoteL], rfl, by simp [haμ]⟩)
      | cons b t =>
        have hl : haL t < 50000 := by simp only [haL]; simp at hs; omega
        cases hb : isSp b with
        | true => exact .inl ⟨pE b t [] ρ, by simp [Eqns, Eqn.ok, SS.den, SP.den, SI.den, pE, setS_str, hi, quoteL_sp hb], ⟨b, t, hl, rfl, hb, rfl, rfl⟩, by simp [haμ]⟩
        | false => exact .inr (.inl ⟨pE b t [] ρ, by simp [Eqns, Eqn.ok, SS.den, SP.den, SI.den, pE, setS_str, hi, quoteL_np hb], ⟨b, t, hl, rfl, hb, rfl, rfl⟩, by simp [haμ]⟩)
    | 1, hi =>
      obtain ⟨b, t, hl, h1, h2, h3, h4⟩ := hi
      show OTok (haI s) (haμ s) _ 1 ρ hao1
      simp only [hao1, OTok]
      cases t with
      | nil => refine ⟨fun _ => ?_, fun _ => ⟨fun _ => ?_, fun _ => ⟨fun _ => ?_, fun _ => ?_⟩⟩⟩ <;> exact .inr (.inr ⟨ρ, by simp [Eqns, Eqn.ok, SS.den, SP.den, h4, quoteL], trivial, by simp [haμ, h1]⟩)
      | cons c t =>
        have l1 := quoteB_len c
        have l2 := ql t
        cases hb : isSp c with
        | true => refine ⟨fun _ => ?_, fun _ => ⟨fun _ => ?_, fun _ => ⟨fun _ => ?_, fun _ => ?_⟩⟩⟩ <;> exact .inl ⟨pE c t [] ρ, by simp [Eqns, Eqn.ok, SS.den, SP.den, SI.den, pE, setS_str, h3, h4, quoteL_sp hb], ⟨c, t, by simp [haL] at hl ⊢; omega, hb, rfl, rfl⟩, by simp [haμ, pE, setS_str, h1, h4, quoteL]; (try simp [haL] at hl); (try omega)⟩
        | false => refine ⟨fun _ => ?_, fun _ => ⟨fun _ => ?_, fun _ => ⟨fun _ => ?_, fun _ => ?_⟩⟩⟩ <;> exact .inr (.inl ⟨pE c t [] ρ, by simp [Eqns, Eqn.ok, SS.den, SP.den, SI.den, pE, setS_str, h3, h4, quoteL_np hb], ⟨c, t, by simp [haL] at hl ⊢; omega, hb, rfl, rfl⟩, by simp [haμ, pE, setS_str, h1, h4, quoteL]; (try simp [haL] at hl); (try omega)⟩)
    | 2, hi =>
      obtain ⟨b, t, hl, h1, h2, h3, h4⟩ := hi
      show OTok (haI s) (haμ s) _ 2 ρ hao2
      simp only [hao2, OTok]
      cases t with
      | nil => refine ⟨fun _ => ?_, fun _ => ⟨fun _ => ?_, fun _ => ⟨fun _ => ?_, fun _ => ?_⟩⟩⟩ <;> exact .inr (.inr ⟨ρ, by simp [Eqns, Eqn.ok, SS.den, SP.den, h4, quoteL], trivial, by simp [haμ, h1]⟩)
      | cons c t =>
        have l1 := quoteB_len c
        have l2 := ql t
        cases hb : isSp c with
        | true => refine ⟨fun _ => ?_, fun _ => ⟨fun _ => ?_, fun _ => ⟨fun _ => ?_, fun _ => ?_⟩⟩⟩ <;> exact .inl ⟨pE c t [] ρ, by simp [Eqns, Eqn.ok, SS.den, SP.den, SI.den, pE, setS_str, h3, h4, quoteL_sp hb], ⟨c, t, by simp [haL] at hl ⊢; omega, hb, rfl, rfl⟩, by simp [haμ, pE, setS_str, h1, h4, quoteL]; (try simp [haL] at hl); (try omega)⟩
        | false => refine ⟨fun _ => ?_, fun _ => ⟨fun _ => ?_, fun _ => ⟨fun _ => ?_, fun _ => ?_⟩⟩⟩ <;> exact .inr (.inl ⟨pE c t [] ρ, by simp [Eqns, Eqn.ok, SS.den, SP.den, SI.den, pE, setS_str, h3, h4, quoteL_np hb], ⟨c, t, by simp [haL] at hl ⊢; omega, hb, rfl, rfl⟩, by simp [haμ, pE, setS_str, h1, h4, quoteL]; (try simp [haL] at hl); (try omega)⟩)
    | 3, hi =>
      show OTok (haI s) (haμ s) _ 3 ρ hao3
      simp only [hao3, OTok]
      exact ⟨ρ, by simp [Eqns], trivial⟩
    | 4, hi =>
      obtain ⟨b, t, hl, h2, h3, h4⟩ := hi
      show OTok (haI s) (haμ s) _ 4 ρ hao4
      simp only [hao4, OTok]
      cases t with
      | nil => refine ⟨fun _ => ?_, fun _ => ⟨fun _ => ?_, fun _ => ⟨fun _ => ?_, fun _ => ?_⟩⟩⟩ <;> exact .inr (.inr ⟨ρ, by simp [Eqns, Eqn.ok, SS.den, SP.den, h4, quoteL], trivial, by simp [haμ]⟩)
      | cons c t =>
        have l1 := quoteB_len c
        have l2 := ql t
        cases hb : isSp c with
        | true => refine ⟨fun _ => ?_, fun _ => ⟨fun _ => ?_, fun _ => ⟨fun _ => ?_, fun _ => ?_⟩⟩⟩ <;> exact .inl ⟨pE c t [] ρ, by simp [Eqns, Eqn.ok, SS.den, SP.den, SI.den, pE, setS_str, h3, h4, quoteL_sp hb], ⟨c, t, by simp [haL] at hl ⊢; omega, hb, rfl, rfl⟩, by simp [haμ, pE, setS_str, h4, quoteL]; (try simp [haL] at hl); (try omega)⟩
        | false => refine ⟨fun _ => ?_, fun _ => ⟨fun _ => ?_, fun _ => ⟨fun _ => ?_, fun _ => ?_⟩⟩⟩ <;> exact .inr (.inl ⟨pE c t [] ρ, by simp [Eqns, Eqn.ok, SS.den, SP.den, SI.den, pE, setS_str, h3, h4, quoteL_np hb], ⟨c, t, by simp [haL] at hl ⊢; omega, hb, rfl, rfl⟩, by simp [haμ, pE, setS_str, h4, quoteL]; (try simp [haL] at hl); (try omega)⟩)
    | 5, hi =>
      obtain ⟨b, t, hl, h2, h3, h4⟩ := hi
      show OTok (haI s) (haμ s) _ 5 ρ hao5
      simp only [hao5, OTok]
      cases t with
      | nil => refine ⟨fun _ => ?_, fun _ => ⟨fun _ => ?_, fun _ => ⟨fun _ => ?_, fun _ => ?_⟩⟩⟩ <;> exact .inr (.inr ⟨ρ, by simp [Eqns, Eqn.ok, SS.den, SP.den, h4, quoteL], trivial, by simp [haμ]⟩)
      | cons c t =>
        have l1 := quoteB_len c
        have l2 := ql t
        cases hb : isSp c with
        | true => refine ⟨fun _ => ?_, fun _ => ⟨fun _ => ?_, fun _ => ⟨fun _ => ?_, fun _ => ?_⟩⟩⟩ <;> exact .inl ⟨pE c t [] ρ, by simp [Eqns, Eqn.ok, SS.den, SP.den, SI.den, pE, setS_str, h3, h4, quoteL_sp hb], ⟨c, t, by simp [haL] at hl ⊢; omega, hb, rfl, rfl⟩, by simp [haμ, pE, setS_str, h4, quoteL]; (try simp [haL] at hl); (try omega)⟩
        | false => refine ⟨fun _ => ?_, fun _ => ⟨fun _ => ?_, fun _ => ⟨fun _ => ?_, fun _ => ?_⟩⟩⟩ <;> exact .inr (.inl ⟨pE c t [] ρ, by simp [Eqns, Eqn.ok, SS.den, SP.den, SI.den, pE, setS_str, h3, h4, quoteL_np hb], ⟨c, t, by simp [haL] at hl ⊢; omega, hb, rfl, rfl⟩, by simp [haμ, pE, setS_str, h4, quoteL]; (try simp [haL] at hl); (try omega)⟩)
    | 6, hi =>
      show OTok (haI s) (haμ s) _ 6 ρ hao6
      simp only [hao6, OTok]
      exact ⟨ρ, by simp [Eqns], trivial⟩
end Go.Sx
