import Derived.Test.YtanpkoghglnphaaGreatDoorSxH
import Derived.Test.YtanpkoghglnphaaGreatDoorCtx
import Derived.Test.YtanpkoghglnphaaGreatDoorEnv
namespace Go.Sx
open Go.Proofs
set_option maxRecDepth 1000000

noncomputable def spC : Ctx := ctxOf Tryz.prog lies18 exts18 [] []
noncomputable def sptg : List AM := [st spC 30 [.ptr 91 0, .agg [.str [.var 7, .lit [32]], .int .i64 (.lit 2)], .str [.lit [32, 9, 10]]] (hpOf [(91, .cells false none [.nilSlice, .nilPtr, .nilSlice, .bool (.lit false), .bool (.lit false), .bool (.lit false), .bool (.lit false)] 72)] 109) [(.cmp .geq (.slen 7) (.lit 1), true), (.cmp .leq (.slen 7) (.lit 900), true), (.cmp .eql (.sbyte 7 (.lit 0)) (.lit 92), false)],
    nd spC 30 0 [(0, .ptr 91 0), (2, .str [.lit [32, 9, 10]]), (4, .ptr 109 0), (43, .int .i64 (.slen 6)), (44, .int .i64 (.var 0))]
      [(91, .cells false none [.nilSlice, .nilPtr, .nilSlice, .bool (.lit false), .bool (.lit false), .bool (.lit false), .bool (.lit false)] 72), (109, .cells false none [.str [.var 6], .int .i64 (.lit 2)] 79)] 110
      [(.cmp .geq (.var 0) (.lit 1), true), (.cmp .leq (.var 0) (.slen 6), true), (.cmp .leq (.slen 6) (.lit 1000), true), (.cmp .eql (.sbyte 6 (.var 0)) (.lit 92), false)],
    nd spC 30 0 [(0, .ptr 91 0), (2, .str [.lit [32, 9, 10]]), (4, .ptr 109 0), (43, .int .i64 (.slen 6)), (44, .int .i64 (.var 0))]
      [(91, .cells false none [.nilSlice, .ptr 91 1, .slice 110 0 (.slen 31) (.rest 1), .bool (.lit true), .bool (.lit true), .bool (.lit false), .bool (.lit false)] 72), (109, .cells false none [.str [.var 6], .int .i64 (.lit 2)] 79), (110, .bytes [.var 31] 5 false)] 111
      [(.cmp .geq (.var 0) (.lit 1), true), (.cmp .leq (.var 0) (.slen 6), true), (.cmp .leq (.slen 6) (.lit 1000), true), (.cmp .eql (.sbyte 6 (.var 0)) (.lit 92), false), (.cmp .geq (.slen 31) (.lit 1), true), (.cmp .leq (.slen 31) (.lit 1000), true)],
    nd spC 30 0 [(0, .ptr 91 0), (2, .str [.lit [32, 9, 10]]), (4, .ptr 109 0), (43, .int .i64 (.slen 6)), (44, .int .i64 (.var 0))]
      [(91, .cells false none [.slice 110 0 (.rlen 21) (.rest 1), .nilPtr, .nilSlice, .bool (.lit false), .bool (.lit false), .bool (.lit false), .bool (.lit true)] 72), (109, .cells false none [.str [.var 6], .int .i64 (.lit 2)] 79), (110, .cells false (some (.v 21, 1)) [] 9)] 111
      [(.cmp .geq (.var 0) (.lit 1), true), (.cmp .leq (.var 0) (.slen 6), true), (.cmp .leq (.slen 6) (.lit 1000), true), (.cmp .eql (.sbyte 6 (.var 0)) (.lit 92), false), (.cmp .geq (.rlen 21) (.lit 1), true), (.cmp .leq (.rlen 21) (.lit 1000), true)],
    nd spC 30 0 [(0, .ptr 91 0), (2, .str [.lit [32, 9, 10]]), (4, .ptr 109 0), (43, .int .i64 (.slen 6)), (44, .int .i64 (.var 0))]
      [(91, .cells false none [.slice 110 0 (.rlen 21) (.rest 1), .ptr 91 1, .slice 111 0 (.slen 31) (.rest 1), .bool (.lit true), .bool (.lit true), .bool (.lit false), .bool (.lit false)] 72), (109, .cells false none [.str [.var 6], .int .i64 (.lit 2)] 79), (110, .cells false (some (.v 21, 1)) [] 9), (111, .bytes [.var 31] 5 false)] 112
      [(.cmp .geq (.var 0) (.lit 1), true), (.cmp .leq (.var 0) (.slen 6), true), (.cmp .leq (.slen 6) (.lit 1000), true), (.cmp .eql (.sbyte 6 (.var 0)) (.lit 92), false), (.cmp .geq (.rlen 21) (.lit 1), true), (.cmp .leq (.rlen 21) (.lit 1000), true), (.cmp .geq (.slen 31) (.lit 1), true), (.cmp .leq (.slen 31) (.lit 1000), true)]]
noncomputable def spo0 : OT := (.fork (.cmp .eql (.sbyte 7 (.lit 0)) (.lit 32)) (.to 1 ⟨109, 110, [(109, 109)]⟩ [.int (.slen 6) (.add (.slen 7) (.lit 1)), .int (.var 0) (.lit 1), .str [.var 6] [.var 7, .lit [32]]]) (.fork (.cmp .eql (.sbyte 7 (.lit 0)) (.lit 9)) (.to 1 ⟨109, 110, [(109, 109)]⟩ [.int (.slen 6) (.add (.slen 7) (.lit 1)), .int (.var 0) (.lit 1), .str [.var 6] [.var 7, .lit [32]]]) (.fork (.cmp .eql (.sbyte 7 (.lit 0)) (.lit 10)) (.to 1 ⟨109, 110, [(109, 109)]⟩ [.int (.slen 6) (.add (.slen 7) (.lit 1)), .int (.var 0) (.lit 1), .str [.var 6] [.var 7, .lit [32]]]) (.to 2 ⟨109, 111, [(109, 109), (110, 110)]⟩ [.int (.slen 6) (.add (.slen 7) (.lit 1)), .int (.var 0) (.lit 1), .int (.slen 31) (.lit 1), .str [.var 6] [.var 7, .lit [32]], .str [.var 31] [.chr (.sbyte 7 (.lit 0))]]))))
noncomputable def spo1 : OT := (.fork (.cmp .lss (.var 0) (.slen 6)) (.fork (.cmp .eql (.sbyte 6 (.var 0)) (.lit 32)) (.to 1 ⟨109, 110, [(109, 109)]⟩ [.int (.slen 6) (.slen 6), .int (.var 0) (.add (.var 0) (.lit 1)), .str [.var 6] [.var 6]]) (.fork (.cmp .eql (.sbyte 6 (.var 0)) (.lit 9)) (.to 1 ⟨109, 110, [(109, 109)]⟩ [.int (.slen 6) (.slen 6), .int (.var 0) (.add (.var 0) (.lit 1)), .str [.var 6] [.var 6]]) (.fork (.cmp .eql (.sbyte 6 (.var 0)) (.lit 10)) (.to 1 ⟨109, 110, [(109, 109)]⟩ [.int (.slen 6) (.slen 6), .int (.var 0) (.add (.var 0) (.lit 1)), .str [.var 6] [.var 6]]) (.to 2 ⟨109, 111, [(109, 109), (110, 110)]⟩ [.int (.slen 6) (.slen 6), .int (.var 0) (.add (.var 0) (.lit 1)), .int (.slen 31) (.lit 1), .str [.var 6] [.var 6], .str [.var 31] [.chr (.sbyte 6 (.var 0))]])))) .no)
noncomputable def spo2 : OT := (.fork (.cmp .lss (.var 0) (.slen 6)) (.fork (.cmp .eql (.sbyte 6 (.var 0)) (.lit 32)) (.to 3 ⟨109, 111, [(109, 109), (110, 112)]⟩ [.int (.slen 6) (.slen 6), .int (.var 0) (.add (.var 0) (.lit 1)), .int (.rlen 21) (.lit 1), .str [.var 6] [.var 6], .row 21 1 none [.str [.var 31]]]) (.fork (.cmp .eql (.sbyte 6 (.var 0)) (.lit 9)) (.to 3 ⟨109, 111, [(109, 109), (110, 112)]⟩ [.int (.slen 6) (.slen 6), .int (.var 0) (.add (.var 0) (.lit 1)), .int (.rlen 21) (.lit 1), .str [.var 6] [.var 6], .row 21 1 none [.str [.var 31]]]) (.fork (.cmp .eql (.sbyte 6 (.var 0)) (.lit 10)) (.to 3 ⟨109, 111, [(109, 109), (110, 112)]⟩ [.int (.slen 6) (.slen 6), .int (.var 0) (.add (.var 0) (.lit 1)), .int (.rlen 21) (.lit 1), .str [.var 6] [.var 6], .row 21 1 none [.str [.var 31]]]) (.to 2 ⟨109, 111, [(109, 109), (110, 111)]⟩ [.int (.slen 6) (.slen 6), .int (.var 0) (.add (.var 0) (.lit 1)), .int (.slen 31) (.add (.slen 31) (.lit 1)), .str [.var 6] [.var 6], .str [.var 31] [.var 31, .chr (.sbyte 6 (.var 0))]])))) .no)
noncomputable def spo3 : OT := (.fork (.cmp .lss (.var 0) (.slen 6)) (.fork (.cmp .eql (.sbyte 6 (.var 0)) (.lit 32)) (.to 3 ⟨109, 111, [(109, 109), (110, 110)]⟩ [.int (.slen 6) (.slen 6), .int (.var 0) (.add (.var 0) (.lit 1)), .int (.rlen 21) (.rlen 21), .str [.var 6] [.var 6], .row 21 1 (some ((.v 21), 1)) []]) (.fork (.cmp .eql (.sbyte 6 (.var 0)) (.lit 9)) (.to 3 ⟨109, 111, [(109, 109), (110, 110)]⟩ [.int (.slen 6) (.slen 6), .int (.var 0) (.add (.var 0) (.lit 1)), .int (.rlen 21) (.rlen 21), .str [.var 6] [.var 6], .row 21 1 (some ((.v 21), 1)) []]) (.fork (.cmp .eql (.sbyte 6 (.var 0)) (.lit 10)) (.to 3 ⟨109, 111, [(109, 109), (110, 110)]⟩ [.int (.slen 6) (.slen 6), .int (.var 0) (.add (.var 0) (.lit 1)), .int (.rlen 21) (.rlen 21), .str [.var 6] [.var 6], .row 21 1 (some ((.v 21), 1)) []]) (.to 4 ⟨109, 112, [(109, 109), (110, 110), (111, 111)]⟩ [.int (.slen 6) (.slen 6), .int (.var 0) (.add (.var 0) (.lit 1)), .str [.var 31] [.chr (.sbyte 6 (.var 0))], .int (.rlen 21) (.rlen 21), .int (.slen 31) (.lit 1), .str [.var 6] [.var 6], .row 21 1 (some ((.v 21), 1)) []])))) (.fin ⟨109, 110, [(109, 110)]⟩ [.int (.rlen 22) (.rlen 21), .row 22 1 (some ((.v 21), 1)) []]))
noncomputable def spo4 : OT := (.fork (.cmp .lss (.var 0) (.slen 6)) (.fork (.cmp .eql (.sbyte 6 (.var 0)) (.lit 32)) (.to 3 ⟨109, 111, [(109, 109), (110, 113)]⟩ [.int (.slen 6) (.slen 6), .int (.var 0) (.add (.var 0) (.lit 1)), .int (.rlen 21) (.add (.rlen 21) (.lit 1)), .str [.var 6] [.var 6], .row 21 1 (some ((.v 21), 1)) [.str [.var 31]]]) (.fork (.cmp .eql (.sbyte 6 (.var 0)) (.lit 9)) (.to 3 ⟨109, 111, [(109, 109), (110, 113)]⟩ [.int (.slen 6) (.slen 6), .int (.var 0) (.add (.var 0) (.lit 1)), .int (.rlen 21) (.add (.rlen 21) (.lit 1)), .str [.var 6] [.var 6], .row 21 1 (some ((.v 21), 1)) [.str [.var 31]]]) (.fork (.cmp .eql (.sbyte 6 (.var 0)) (.lit 10)) (.to 3 ⟨109, 111, [(109, 109), (110, 113)]⟩ [.int (.slen 6) (.slen 6), .int (.var 0) (.add (.var 0) (.lit 1)), .int (.rlen 21) (.add (.rlen 21) (.lit 1)), .str [.var 6] [.var 6], .row 21 1 (some ((.v 21), 1)) [.str [.var 31]]]) (.to 4 ⟨109, 112, [(109, 109), (110, 110), (111, 112)]⟩ [.int (.slen 6) (.slen 6), .int (.var 0) (.add (.var 0) (.lit 1)), .str [.var 31] [.var 31, .chr (.sbyte 6 (.var 0))], .int (.rlen 21) (.rlen 21), .int (.slen 31) (.add (.slen 31) (.lit 1)), .str [.var 6] [.var 6], .row 21 1 (some ((.v 21), 1)) []])))) .no)
noncomputable def spG : Graph := { tg := pick sptg, stop := stopAny [(30, (0, 3))], n := fun _ => 800, pl := fun k => ([spo0, spo1, spo2, spo3, spo4].getD k .no).plan, o := fun k => [spo0, spo1, spo2, spo3, spo4].getD k .no, v := .tup [], h := (hpOf [(91, .cells false none [.slice 109 0 (.rlen 22) (.rest 1), .nilPtr, .nilSlice, .bool (.lit false), .bool (.lit false), .bool (.lit false), .bool (.lit true)] 72), (109, .cells false (some (.v 22, 1)) [] 9)] 110), f := 30, N := 109 }
theorem spat0 : spG.At spC 0 := ⟨by kernel_rfl, by kernel_rfl, by kernel_rfl⟩
theorem spat1 : spG.At spC 1 := ⟨by kernel_rfl, by kernel_rfl, by kernel_rfl⟩
theorem spat2 : spG.At spC 2 := ⟨by kernel_rfl, by kernel_rfl, by kernel_rfl⟩
theorem spat3 : spG.At spC 3 := ⟨by kernel_rfl, by kernel_rfl, by kernel_rfl⟩
theorem spat4 : spG.At spC 4 := ⟨by kernel_rfl, by kernel_rfl, by kernel_rfl⟩
theorem spf0 : (spG.tg 0).facts = [(.cmp .geq (.slen 7) (.lit 1), true), (.cmp .leq (.slen 7) (.lit 900), true), (.cmp .eql (.sbyte 7 (.lit 0)) (.lit 92), false)] := by kernel_rfl
theorem spf1 : (spG.tg 1).facts = [(.cmp .geq (.var 0) (.lit 1), true), (.cmp .leq (.var 0) (.slen 6), true), (.cmp .leq (.slen 6) (.lit 1000), true), (.cmp .eql (.sbyte 6 (.var 0)) (.lit 92), false)] := by kernel_rfl
theorem spf2 : (spG.tg 2).facts = [(.cmp .geq (.var 0) (.lit 1), true), (.cmp .leq (.var 0) (.slen 6), true), (.cmp .leq (.slen 6) (.lit 1000), true), (.cmp .eql (.sbyte 6 (.var 0)) (.lit 92), false), (.cmp .geq (.slen 31) (.lit 1), true), (.cmp .leq (.slen 31) (.lit 1000), true)] := by kernel_rfl
theorem spf3 : (spG.tg 3).facts = [(.cmp .geq (.var 0) (.lit 1), true), (.cmp .leq (.var 0) (.slen 6), true), (.cmp .leq (.slen 6) (.lit 1000), true), (.cmp .eql (.sbyte 6 (.var 0)) (.lit 92), false), (.cmp .geq (.rlen 21) (.lit 1), true), (.cmp .leq (.rlen 21) (.lit 1000), true)] := by kernel_rfl
theorem spf4 : (spG.tg 4).facts = [(.cmp .geq (.var 0) (.lit 1), true), (.cmp .leq (.var 0) (.slen 6), true), (.cmp .leq (.slen 6) (.lit 1000), true), (.cmp .eql (.sbyte 6 (.var 0)) (.lit 92), false), (.cmp .geq (.rlen 21) (.lit 1), true), (.cmp .leq (.rlen 21) (.lit 1000), true), (.cmp .geq (.slen 31) (.lit 1), true), (.cmp .leq (.slen 31) (.lit 1000), true)] := by kernel_rfl
theorem spst : startF spC [(.cmp .geq (.slen 7) (.lit 1), true), (.cmp .leq (.slen 7) (.lit 900), true), (.cmp .eql (.sbyte 7 (.lit 0)) (.lit 92), false)] 30 [.ptr 91 0, .agg [.str [.var 7, .lit [32]], .int .i64 (.lit 2)], .str [.lit [32, 9, 10]]] (hpOf [(91, .cells false none [.nilSlice, .nilPtr, .nilSlice, .bool (.lit false), .bool (.lit false), .bool (.lit false), .bool (.lit false)] 72)] 109) = some (spG.tg 0) := by kernel_rfl
end Go.Sx
namespace Go.Sx
open Go.Proofs
set_option maxRecDepth 100000
def isBl (c : UInt8) : Prop := c.toNat = 32 ∨ c.toNat = 9 ∨ c.toNat = 10
instance (c : UInt8) : Decidable (isBl c) := by unfold isBl; infer_instance
def stp (s : List (List UInt8) × List UInt8) (c : UInt8) : List (List UInt8) × List UInt8 :=
  if isBl c then (if s.2 = [] then s else (s.1 ++ [s.2], [])) else (s.1, s.2 ++ [c])
def spl (V : List UInt8) : List (List UInt8) × List UInt8 := V.foldl stp ([], [])
theorem spl_snoc (V : List UInt8) (c : UInt8) : spl (V ++ [c]) = stp (spl V) c := by simp [spl, List.foldl_append]
theorem spl_take {V : List UInt8} {i : Nat} (h : i < V.length) : spl (V.take (i + 1)) = stp (spl (V.take i)) (V[i]?.getD 0) := by
  rw [List.take_succ_eq_append_getElem h, spl_snoc]; simp [List.getElem?_eq_getElem h]
theorem spl_len (V : List UInt8) : ∀ i, i ≤ V.length → (spl (V.take i)).1.length ≤ i ∧ (spl (V.take i)).2.length ≤ i
  | 0, _ => by simp [spl]
  | i + 1, h => by
    have ih := spl_len V i (by omega)
    rw [spl_take (by omega)]
    unfold stp
    split
    · split <;> (try simp) <;> omega
    · simp; omega
def spE (V : List UInt8) (ρ : Env) (i : Nat) : Env := (((ρ.setI 0 i).setS 6 V).setR 21 (rows1 (spl (V.take i)).1)).setS 31 (spl (V.take i)).2
def spI (V : List UInt8) (ρ0 : Env) : Nat → Env → Prop
  | 0, ρ => ρ = ρ0
  | 1, ρ => ∃ i : Nat, 1 ≤ i ∧ i ≤ V.length ∧ (spl (V.take i)).1 = [] ∧ (spl (V.take i)).2 = [] ∧ ρ = spE V ρ0 i
  | 2, ρ => ∃ i : Nat, 1 ≤ i ∧ i ≤ V.length ∧ (spl (V.take i)).1 = [] ∧ (spl (V.take i)).2 ≠ [] ∧ ρ = spE V ρ0 i
  | 3, ρ => ∃ i : Nat, 1 ≤ i ∧ i ≤ V.length ∧ (spl (V.take i)).1 ≠ [] ∧ (spl (V.take i)).2 = [] ∧ ρ = spE V ρ0 i
  | 4, ρ => ∃ i : Nat, 1 ≤ i ∧ i ≤ V.length ∧ (spl (V.take i)).1 ≠ [] ∧ (spl (V.take i)).2 ≠ [] ∧ ρ = spE V ρ0 i
  | _, _ => False
def spμ (V : List UInt8) : Nat → Env → Nat
  | 0, _ => V.length + 2
  | _, ρ => V.length + 1 - (ρ.int 0).toNat
theorem sp_t {V : List UInt8} {ρ : Env} {i : Nat} (h : SB.den (spE V ρ i) (.cmp .lss (.var 0) (.slen 6)) = true) : i < V.length := by
  simp [SB.den, SI.den, intCmp, ltInt_iff, spE, setS_int, setR_int, setI_int, setS_str, setR_str] at h
  omega
theorem sp_f {V : List UInt8} {ρ : Env} {i : Nat} (h : SB.den (spE V ρ i) (.cmp .lss (.var 0) (.slen 6)) = false) : V.length ≤ i := by
  simp [SB.den, SI.den, intCmp, ltInt_iff, spE, setS_int, setR_int, setI_int, setS_str, setR_str] at h
  omega
theorem bl_t {V : List UInt8} {ρ : Env} {i k : Nat} (h : SB.den (spE V ρ i) (.cmp .eql (.sbyte 6 (.var 0)) (.lit (k : Int))) = true) : (V[i]?.getD 0).toNat = k := by
  simp [SB.den, SI.den, intCmp, eqInt_iff, spE, setS_int, setR_int, setI_int, setS_str, setR_str] at h
  omega
theorem bl_f {V : List UInt8} {ρ : Env} {i k : Nat} (h : SB.den (spE V ρ i) (.cmp .eql (.sbyte 6 (.var 0)) (.lit (k : Int))) = false) : (V[i]?.getD 0).toNat ≠ k := by
  simp [SB.den, SI.den, intCmp, eqInt_iff, spE, setS_int, setR_int, setI_int, setS_str, setR_str] at h
  omega
noncomputable def o_sp : Orc := { facts := [], f := 30, args := [.ptr 91 0, .agg [.str [.var 7, .lit [32]], .int .i64 (.lit 2)], .str [.lit [32, 9, 10]]], pre := [(91, .cells false none [.nilSlice, .nilPtr, .nilSlice, .bool (.lit false), .bool (.lit false), .bool (.lit false), .bool (.lit false)] 72)], next := 109, v := .tup [], post := [(91, .cells false none [.slice 109 0 (.rlen 22) (.rest 1), .nilPtr, .nilSlice, .bool (.lit false), .bool (.lit false), .bool (.lit false), .bool (.lit true)] 72), (109, .cells false (some (.v 22, 1)) [] 9)], next' := 110 }
theorem spC_ok {ρ : Env} : CtxOK spC Tryz.prog ρ := ctx18 orcs_nil pors_nil
/-- what the letters of a value and its words stand for -/
structure SpL (v : List UInt8) (ws : List (List UInt8)) (ρ : Env) : Prop where
  len : 1 ≤ v.length ∧ v.length ≤ 900
  no92 : ∀ c ∈ v, c.toNat ≠ 92
  spl : spl (v ++ [32]) = (ws, [])
  ne : ws ≠ []
  str : ρ.str 7 = v
  rows : ρ.rows 22 = rows1 ws
theorem snoc1 {x : Value} {F : List Value → Prop} (hF : ∀ q, F q → q.length = 1 ∧ ∀ v ∈ q, v.oneCell' = true) (hx : x.oneCell' = true) : ∀ q : List Value, (F q ∨ q = [x]) → q.length = 1 ∧ ∀ v ∈ q, v.oneCell' = true := by
  rintro q (h | rfl)
  · exact hF q h
  · exact ⟨rfl, fun v hv => by simp at hv; subst hv; exact hx⟩
theorem ex1 {A : List (List UInt8)} : ∀ q : List Value, (∃ a, a ∈ A ∧ [Value.string ⟨⟨a⟩⟩] = q) → q.length = 1 ∧ ∀ v ∈ q, v.oneCell' = true := by
  rintro q ⟨a, _, rfl⟩
  exact ⟨rfl, fun v hv => by simp at hv; subst hv; rfl⟩
theorem sp_ok {v : List UInt8} {ws : List (List UInt8)} {ρ : Env} (L : SpL v ws ρ) : OrcOK Tryz.prog ρ o_sp := by
  obtain ⟨V, hV⟩ : ∃ V, V = v ++ [32] := ⟨_, rfl⟩
  have hl : V.length = v.length + 1 := by rw [hV]; simp
  have l1 := L.len
  have h92 : ∀ i : Nat, (V[i]?.getD 0).toNat ≠ 92 := by
    intro i
    cases h : V[i]? with
    | none => simp
    | some c =>
      have := List.mem_of_getElem? h
      rw [hV, List.mem_append] at this
      rcases this with h | h
      · exact L.no92 c h
      · simp at h; subst h; decide
  have hs : spl V = (ws, []) := by rw [hV]; exact L.spl
  have blank : ∀ i, i < V.length → (V[i]?.getD 0).toNat = 32 ∨ (V[i]?.getD 0).toNat = 9 ∨ (V[i]?.getD 0).toNat = 10 → spl (V.take (i + 1)) = if (spl (V.take i)).2 = [] then spl (V.take i) else ((spl (V.take i)).1 ++ [(spl (V.take i)).2], []) := by
    intro i hi h
    rw [spl_take hi, stp, if_pos (show isBl _ from h)]
  have other : ∀ i, i < V.length → (V[i]?.getD 0).toNat ≠ 32 → (V[i]?.getD 0).toNat ≠ 9 → (V[i]?.getD 0).toNat ≠ 10 → spl (V.take (i + 1)) = ((spl (V.take i)).1, (spl (V.take i)).2 ++ [V[i]?.getD 0]) := by
    intro i hi h1 h2 h3
    rw [spl_take hi, stp, if_neg (by unfold isBl; omega)]
  have h0 : spl (V.take 0) = ([], []) := by simp [spl]
  refine orc_of_graph (G := spG) (C := spC) (I := spI V ρ) (μ := spμ V) (l0 := o_sp.pre) (fun _ _ _ => spC_ok) ?_ ?_ ?_ rfl spst rfl rfl rfl rfl (by decide) (by kernel_rfl) (RefL.refl ρ _)
  · intro k ρ' hi
    match k, hi with
    | 0, hi =>
      subst hi
      rw [spf0]
      have := h92 0
      rw [hV] at this
      have h7 : (v[0]?.getD 0).toNat ≠ 92 := by rwa [List.getElem?_append_left (by omega)] at this
      intro p hp
      simp only [List.mem_cons, List.not_mem_nil, or_false] at hp
      rcases hp with rfl | rfl | rfl <;> simp [SB.den, SI.den, intCmp, ltInt_iff, eqInt_iff, L.str] <;> omega
    | 1, hi =>
      obtain ⟨i, h1, h2, h3, h4, rfl⟩ := hi
      rw [spf1]
      have e1 := h92 i
      intro p hp
      simp only [List.mem_cons, List.not_mem_nil, or_false] at hp
      rcases hp with rfl | rfl | rfl | rfl <;> simp [SB.den, SI.den, intCmp, ltInt_iff, eqInt_iff, spE, setI_int, setI_rows, setI_str, setR_int, setR_rows, setR_str, setS_int, setS_rows, setS_str] <;> omega
    | 2, hi =>
      obtain ⟨i, h1, h2, h3, h4, rfl⟩ := hi
      rw [spf2]
      have e1 := h92 i
      have e2 := spl_len V i h2
      have e4 := List.length_pos_iff.2 h4
      intro p hp
      simp only [List.mem_cons, List.not_mem_nil, or_false] at hp
      rcases hp with rfl | rfl | rfl | rfl | rfl | rfl <;> simp [SB.den, SI.den, intCmp, ltInt_iff, eqInt_iff, spE, setI_int, setI_rows, setI_str, setR_int, setR_rows, setR_str, setS_int, setS_rows, setS_str] <;> omega
    | 3, hi =>
      obtain ⟨i, h1, h2, h3, h4, rfl⟩ := hi
      rw [spf3]
      have e1 := h92 i
      have e2 := spl_len V i h2
      have e3 := List.length_pos_iff.2 h3
      intro p hp
      simp only [List.mem_cons, List.not_mem_nil, or_false] at hp
      rcases hp with rfl | rfl | rfl | rfl | rfl | rfl <;> simp [SB.den, SI.den, intCmp, ltInt_iff, eqInt_iff, spE, setI_int, setI_rows, setI_str, setR_int, setR_rows, setR_str, setS_int, setS_rows, setS_str, rows1] <;> omega
    | 4, hi =>
      obtain ⟨i, h1, h2, h3, h4, rfl⟩ := hi
      rw [spf4]
      have e1 := h92 i
      have e2 := spl_len V i h2
      have e3 := List.length_pos_iff.2 h3
      have e4 := List.length_pos_iff.2 h4
      intro p hp
      simp only [List.mem_cons, List.not_mem_nil, or_false] at hp
      rcases hp with rfl | rfl | rfl | rfl | rfl | rfl | rfl | rfl <;> simp [SB.den, SI.den, intCmp, ltInt_iff, eqInt_iff, spE, setI_int, setI_rows, setI_str, setR_int, setR_rows, setR_str, setS_int, setS_rows, setS_str, rows1] <;> omega
  · intro k ρ' hi
    match k, hi with
    | 0, _ => exact spat0
    | 1, _ => exact spat1
    | 2, _ => exact spat2
    | 3, _ => exact spat3
    | 4, _ => exact spat4
  · intro k ρ' hi
    match k, hi with
    | 0, hi =>
      subst hi
      show OTok _ _ _ 0 ρ' spo0
      simp only [spo0, OTok]
      have v0 : V[0]?.getD 0 = v[0]?.getD 0 := by rw [hV, List.getElem?_append_left (by omega)]
      have mk : ∀ k : Nat, SB.den ρ' (.cmp .eql (.sbyte 7 (.lit 0)) (.lit (k : Int))) = decide ((V[0]?.getD 0).toNat = k) := by
        intro k
        rw [v0, Bool.eq_iff_iff]
        simp [SB.den, SI.den, intCmp, eqInt_iff, L.str]
        omega
      have t : ∀ {k : Nat}, SB.den ρ' (.cmp .eql (.sbyte 7 (.lit 0)) (.lit (k : Int))) = true → (V[0]?.getD 0).toNat = k := fun {k} h => by rw [mk] at h; exact of_decide_eq_true h
      have f : ∀ {k : Nat}, SB.den ρ' (.cmp .eql (.sbyte 7 (.lit 0)) (.lit (k : Int))) = false → (V[0]?.getD 0).toNat ≠ k := fun {k} h => by rw [mk] at h; exact of_decide_eq_false h
      have hV7 : V = ρ'.str 7 ++ [32] := by rw [L.str]; exact hV
      refine ⟨fun h => ?_, fun g1 => ⟨fun h => ?_, fun g2 => ⟨fun h => ?_, fun g3 => ?_⟩⟩⟩
      · have e := blank 0 (by omega) (.inl (t h))
        rw [h0] at e
        rw [if_pos rfl] at e
        refine ⟨spE V ρ' 1, ?_, ⟨1, by omega, by omega, by rw [e], by rw [e], rfl⟩, by simp [spμ, spE, setS_int, setR_int, setI_int]⟩
        simp only [Nat.zero_add] at e
        simp [Eqns, Eqn.ok, spE, SI.den, SS.den, SP.den, setI_int, setI_rows, setI_str, setR_int, setR_rows, setR_str, setS_int, setS_rows, setS_str, preCells, RX.flat, RX.ok, AV.val, rows1, vstr, e, L.str, hV.symm, v0.symm, hl]
        try ((repeat' apply And.intro) <;> first | rfl | omega | exact rows1_ok _ | (intros; rfl) | exact snoc1 ex1 rfl)
      · have e := blank 0 (by omega) (.inr (.inl (t h)))
        rw [h0] at e
        rw [if_pos rfl] at e
        refine ⟨spE V ρ' 1, ?_, ⟨1, by omega, by omega, by rw [e], by rw [e], rfl⟩, by simp [spμ, spE, setS_int, setR_int, setI_int]⟩
        simp only [Nat.zero_add] at e
        simp [Eqns, Eqn.ok, spE, SI.den, SS.den, SP.den, setI_int, setI_rows, setI_str, setR_int, setR_rows, setR_str, setS_int, setS_rows, setS_str, preCells, RX.flat, RX.ok, AV.val, rows1, vstr, e, L.str, hV.symm, v0.symm, hl]
        try ((repeat' apply And.intro) <;> first | rfl | omega | exact rows1_ok _ | (intros; rfl) | exact snoc1 ex1 rfl)
      · have e := blank 0 (by omega) (.inr (.inr (t h)))
        rw [h0] at e
        rw [if_pos rfl] at e
        refine ⟨spE V ρ' 1, ?_, ⟨1, by omega, by omega, by rw [e], by rw [e], rfl⟩, by simp [spμ, spE, setS_int, setR_int, setI_int]⟩
        simp only [Nat.zero_add] at e
        simp [Eqns, Eqn.ok, spE, SI.den, SS.den, SP.den, setI_int, setI_rows, setI_str, setR_int, setR_rows, setR_str, setS_int, setS_rows, setS_str, preCells, RX.flat, RX.ok, AV.val, rows1, vstr, e, L.str, hV.symm, v0.symm, hl]
        try ((repeat' apply And.intro) <;> first | rfl | omega | exact rows1_ok _ | (intros; rfl) | exact snoc1 ex1 rfl)
      · have e := other 0 (by omega) (f g1) (f g2) (f g3)
        rw [h0] at e
        refine ⟨spE V ρ' 1, ?_, ⟨1, by omega, by omega, by rw [e], by rw [e]; try simp, rfl⟩, by simp [spμ, spE, setS_int, setR_int, setI_int]⟩
        simp only [Nat.zero_add] at e
        simp [Eqns, Eqn.ok, spE, SI.den, SS.den, SP.den, setI_int, setI_rows, setI_str, setR_int, setR_rows, setR_str, setS_int, setS_rows, setS_str, preCells, RX.flat, RX.ok, AV.val, rows1, vstr, e, L.str, hV.symm, v0.symm, hl]
        try ((repeat' apply And.intro) <;> first | rfl | omega | exact rows1_ok _ | (intros; rfl) | exact snoc1 ex1 rfl)
    | 1, hi =>
      obtain ⟨i, h1, h2, h3, h4, rfl⟩ := hi
      show OTok _ _ _ 1 _ spo1
      simp only [spo1, OTok]
      refine ⟨fun h => ?_, fun h => ?_⟩
      · have hlt := sp_t h
        refine ⟨fun h => ?_, fun g1 => ⟨fun h => ?_, fun g2 => ⟨fun h => ?_, fun g3 => ?_⟩⟩⟩
        · have e := blank i hlt (.inl (bl_t h))
          rw [if_pos h4] at e
          refine ⟨spE V ρ (i + 1), ?_, ⟨i + 1, by omega, by omega, by rw [e]; try first | exact h3 | simp, by rw [e]; try first | exact h4 | rfl | simp, rfl⟩, by simp [spμ, spE, setS_int, setR_int, setI_int]; omega⟩
          simp [Eqns, Eqn.ok, spE, SI.den, SS.den, SP.den, setI_int, setI_rows, setI_str, setR_int, setR_rows, setR_str, setS_int, setS_rows, setS_str, preCells, RX.flat, RX.ok, AV.val, rows1, vstr, e, h3, h4]
          try ((repeat' apply And.intro) <;> first | rfl | omega | exact rows1_ok _ | (intros; rfl) | exact snoc1 ex1 rfl)
        · have e := blank i hlt (.inr (.inl (bl_t h)))
          rw [if_pos h4] at e
          refine ⟨spE V ρ (i + 1), ?_, ⟨i + 1, by omega, by omega, by rw [e]; try first | exact h3 | simp, by rw [e]; try first | exact h4 | rfl | simp, rfl⟩, by simp [spμ, spE, setS_int, setR_int, setI_int]; omega⟩
          simp [Eqns, Eqn.ok, spE, SI.den, SS.den, SP.den, setI_int, setI_rows, setI_str, setR_int, setR_rows, setR_str, setS_int, setS_rows, setS_str, preCells, RX.flat, RX.ok, AV.val, rows1, vstr, e, h3, h4]
          try ((repeat' apply And.intro) <;> first | rfl | omega | exact rows1_ok _ | (intros; rfl) | exact snoc1 ex1 rfl)
        · have e := blank i hlt (.inr (.inr (bl_t h)))
          rw [if_pos h4] at e
          refine ⟨spE V ρ (i + 1), ?_, ⟨i + 1, by omega, by omega, by rw [e]; try first | exact h3 | simp, by rw [e]; try first | exact h4 | rfl | simp, rfl⟩, by simp [spμ, spE, setS_int, setR_int, setI_int]; omega⟩
          simp [Eqns, Eqn.ok, spE, SI.den, SS.den, SP.den, setI_int, setI_rows, setI_str, setR_int, setR_rows, setR_str, setS_int, setS_rows, setS_str, preCells, RX.flat, RX.ok, AV.val, rows1, vstr, e, h3, h4]
          try ((repeat' apply And.intro) <;> first | rfl | omega | exact rows1_ok _ | (intros; rfl) | exact snoc1 ex1 rfl)
        · have e := other i hlt (bl_f g1) (bl_f g2) (bl_f g3)
          refine ⟨spE V ρ (i + 1), ?_, ⟨i + 1, by omega, by omega, by rw [e]; try first | exact h3 | simp, by rw [e]; try first | exact h4 | rfl | simp, rfl⟩, by simp [spμ, spE, setS_int, setR_int, setI_int]; omega⟩
          simp [Eqns, Eqn.ok, spE, SI.den, SS.den, SP.den, setI_int, setI_rows, setI_str, setR_int, setR_rows, setR_str, setS_int, setS_rows, setS_str, preCells, RX.flat, RX.ok, AV.val, rows1, vstr, e, h3, h4]
          try ((repeat' apply And.intro) <;> first | rfl | omega | exact rows1_ok _ | (intros; rfl) | exact snoc1 ex1 rfl)
      · have hge := sp_f h
        have hi : V.take i = V := List.take_of_length_le hge
        rw [hi, hs] at h3 h4
        exact L.ne h3
    | 2, hi =>
      obtain ⟨i, h1, h2, h3, h4, rfl⟩ := hi
      show OTok _ _ _ 2 _ spo2
      simp only [spo2, OTok]
      refine ⟨fun h => ?_, fun h => ?_⟩
      · have hlt := sp_t h
        refine ⟨fun h => ?_, fun g1 => ⟨fun h => ?_, fun g2 => ⟨fun h => ?_, fun g3 => ?_⟩⟩⟩
        · have e := blank i hlt (.inl (bl_t h))
          rw [if_neg h4] at e
          refine ⟨spE V ρ (i + 1), ?_, ⟨i + 1, by omega, by omega, by rw [e]; try first | exact h3 | simp, by rw [e]; try first | exact h4 | rfl | simp, rfl⟩, by simp [spμ, spE, setS_int, setR_int, setI_int]; omega⟩
          simp [Eqns, Eqn.ok, spE, SI.den, SS.den, SP.den, setI_int, setI_rows, setI_str, setR_int, setR_rows, setR_str, setS_int, setS_rows, setS_str, preCells, RX.flat, RX.ok, AV.val, rows1, vstr, e, h3]
          try ((repeat' apply And.intro) <;> first | rfl | omega | exact rows1_ok _ | (intros; rfl) | exact snoc1 ex1 rfl)
        · have e := blank i hlt (.inr (.inl (bl_t h)))
          rw [if_neg h4] at e
          refine ⟨spE V ρ (i + 1), ?_, ⟨i + 1, by omega, by omega, by rw [e]; try first | exact h3 | simp, by rw [e]; try first | exact h4 | rfl | simp, rfl⟩, by simp [spμ, spE, setS_int, setR_int, setI_int]; omega⟩
          simp [Eqns, Eqn.ok, spE, SI.den, SS.den, SP.den, setI_int, setI_rows, setI_str, setR_int, setR_rows, setR_str, setS_int, setS_rows, setS_str, preCells, RX.flat, RX.ok, AV.val, rows1, vstr, e, h3]
          try ((repeat' apply And.intro) <;> first | rfl | omega | exact rows1_ok _ | (intros; rfl) | exact snoc1 ex1 rfl)
        · have e := blank i hlt (.inr (.inr (bl_t h)))
          rw [if_neg h4] at e
          refine ⟨spE V ρ (i + 1), ?_, ⟨i + 1, by omega, by omega, by rw [e]; try first | exact h3 | simp, by rw [e]; try first | exact h4 | rfl | simp, rfl⟩, by simp [spμ, spE, setS_int, setR_int, setI_int]; omega⟩
          simp [Eqns, Eqn.ok, spE, SI.den, SS.den, SP.den, setI_int, setI_rows, setI_str, setR_int, setR_rows, setR_str, setS_int, setS_rows, setS_str, preCells, RX.flat, RX.ok, AV.val, rows1, vstr, e, h3]
          try ((repeat' apply And.intro) <;> first | rfl | omega | exact rows1_ok _ | (intros; rfl) | exact snoc1 ex1 rfl)
        · have e := other i hlt (bl_f g1) (bl_f g2) (bl_f g3)
          refine ⟨spE V ρ (i + 1), ?_, ⟨i + 1, by omega, by omega, by rw [e]; try first | exact h3 | simp, by rw [e]; try first | exact h4 | rfl | simp, rfl⟩, by simp [spμ, spE, setS_int, setR_int, setI_int]; omega⟩
          simp [Eqns, Eqn.ok, spE, SI.den, SS.den, SP.den, setI_int, setI_rows, setI_str, setR_int, setR_rows, setR_str, setS_int, setS_rows, setS_str, preCells, RX.flat, RX.ok, AV.val, rows1, vstr, e, h3]
          try ((repeat' apply And.intro) <;> first | rfl | omega | exact rows1_ok _ | (intros; rfl) | exact snoc1 ex1 rfl)
      · have hge := sp_f h
        have hi : V.take i = V := List.take_of_length_le hge
        rw [hi, hs] at h3 h4
        exact h4 rfl
    | 3, hi =>
      obtain ⟨i, h1, h2, h3, h4, rfl⟩ := hi
      show OTok _ _ _ 3 _ spo3
      simp only [spo3, OTok]
      refine ⟨fun h => ?_, fun h => ?_⟩
      · have hlt := sp_t h
        refine ⟨fun h => ?_, fun g1 => ⟨fun h => ?_, fun g2 => ⟨fun h => ?_, fun g3 => ?_⟩⟩⟩
        · have e := blank i hlt (.inl (bl_t h))
          rw [if_pos h4] at e
          refine ⟨spE V ρ (i + 1), ?_, ⟨i + 1, by omega, by omega, by rw [e]; try first | exact h3 | simp, by rw [e]; try first | exact h4 | rfl | simp, rfl⟩, by simp [spμ, spE, setS_int, setR_int, setI_int]; omega⟩
          simp [Eqns, Eqn.ok, spE, SI.den, SS.den, SP.den, setI_int, setI_rows, setI_str, setR_int, setR_rows, setR_str, setS_int, setS_rows, setS_str, preCells, RX.flat, RX.ok, AV.val, rows1, vstr, e, h4]
          try ((repeat' apply And.intro) <;> first | rfl | omega | exact rows1_ok _ | (intros; rfl) | exact snoc1 ex1 rfl)
        · have e := blank i hlt (.inr (.inl (bl_t h)))
          rw [if_pos h4] at e
          refine ⟨spE V ρ (i + 1), ?_, ⟨i + 1, by omega, by omega, by rw [e]; try first | exact h3 | simp, by rw [e]; try first | exact h4 | rfl | simp, rfl⟩, by simp [spμ, spE, setS_int, setR_int, setI_int]; omega⟩
          simp [Eqns, Eqn.ok, spE, SI.den, SS.den, SP.den, setI_int, setI_rows, setI_str, setR_int, setR_rows, setR_str, setS_int, setS_rows, setS_str, preCells, RX.flat, RX.ok, AV.val, rows1, vstr, e, h4]
          try ((repeat' apply And.intro) <;> first | rfl | omega | exact rows1_ok _ | (intros; rfl) | exact snoc1 ex1 rfl)
        · have e := blank i hlt (.inr (.inr (bl_t h)))
          rw [if_pos h4] at e
          refine ⟨spE V ρ (i + 1), ?_, ⟨i + 1, by omega, by omega, by rw [e]; try first | exact h3 | simp, by rw [e]; try first | exact h4 | rfl | simp, rfl⟩, by simp [spμ, spE, setS_int, setR_int, setI_int]; omega⟩
          simp [Eqns, Eqn.ok, spE, SI.den, SS.den, SP.den, setI_int, setI_rows, setI_str, setR_int, setR_rows, setR_str, setS_int, setS_rows, setS_str, preCells, RX.flat, RX.ok, AV.val, rows1, vstr, e, h4]
          try ((repeat' apply And.intro) <;> first | rfl | omega | exact rows1_ok _ | (intros; rfl) | exact snoc1 ex1 rfl)
        · have e := other i hlt (bl_f g1) (bl_f g2) (bl_f g3)
          refine ⟨spE V ρ (i + 1), ?_, ⟨i + 1, by omega, by omega, by rw [e]; try first | exact h3 | simp, by rw [e]; try first | exact h4 | rfl | simp, rfl⟩, by simp [spμ, spE, setS_int, setR_int, setI_int]; omega⟩
          simp [Eqns, Eqn.ok, spE, SI.den, SS.den, SP.den, setI_int, setI_rows, setI_str, setR_int, setR_rows, setR_str, setS_int, setS_rows, setS_str, preCells, RX.flat, RX.ok, AV.val, rows1, vstr, e, h4]
          try ((repeat' apply And.intro) <;> first | rfl | omega | exact rows1_ok _ | (intros; rfl) | exact snoc1 ex1 rfl)
      · have hge := sp_f h
        have hi : V.take i = V := List.take_of_length_le hge
        rw [hi, hs] at h3 h4
        refine ⟨ρ, ?_, rfl⟩
        have e := hs
        rw [← hi] at e
        simp [Eqns, Eqn.ok, spE, SI.den, SS.den, SP.den, setI_int, setI_rows, setI_str, setR_int, setR_rows, setR_str, setS_int, setS_rows, setS_str, preCells, RX.flat, RX.ok, AV.val, rows1, vstr, e, L.rows]
        try ((repeat' apply And.intro) <;> first | rfl | omega | exact rows1_ok _ | (intros; rfl) | exact snoc1 ex1 rfl)
    | 4, hi =>
      obtain ⟨i, h1, h2, h3, h4, rfl⟩ := hi
      show OTok _ _ _ 4 _ spo4
      simp only [spo4, OTok]
      refine ⟨fun h => ?_, fun h => ?_⟩
      · have hlt := sp_t h
        refine ⟨fun h => ?_, fun g1 => ⟨fun h => ?_, fun g2 => ⟨fun h => ?_, fun g3 => ?_⟩⟩⟩
        · have e := blank i hlt (.inl (bl_t h))
          rw [if_neg h4] at e
          refine ⟨spE V ρ (i + 1), ?_, ⟨i + 1, by omega, by omega, by rw [e]; try first | exact h3 | simp, by rw [e]; try first | exact h4 | rfl | simp, rfl⟩, by simp [spμ, spE, setS_int, setR_int, setI_int]; omega⟩
          simp [Eqns, Eqn.ok, spE, SI.den, SS.den, SP.den, setI_int, setI_rows, setI_str, setR_int, setR_rows, setR_str, setS_int, setS_rows, setS_str, preCells, RX.flat, RX.ok, AV.val, rows1, vstr, e]
          try ((repeat' apply And.intro) <;> first | rfl | omega | exact rows1_ok _ | (intros; rfl) | exact snoc1 ex1 rfl)
        · have e := blank i hlt (.inr (.inl (bl_t h)))
          rw [if_neg h4] at e
          refine ⟨spE V ρ (i + 1), ?_, ⟨i + 1, by omega, by omega, by rw [e]; try first | exact h3 | simp, by rw [e]; try first | exact h4 | rfl | simp, rfl⟩, by simp [spμ, spE, setS_int, setR_int, setI_int]; omega⟩
          simp [Eqns, Eqn.ok, spE, SI.den, SS.den, SP.den, setI_int, setI_rows, setI_str, setR_int, setR_rows, setR_str, setS_int, setS_rows, setS_str, preCells, RX.flat, RX.ok, AV.val, rows1, vstr, e]
          try ((repeat' apply And.intro) <;> first | rfl | omega | exact rows1_ok _ | (intros; rfl) | exact snoc1 ex1 rfl)
        · have e := blank i hlt (.inr (.inr (bl_t h)))
          rw [if_neg h4] at e
          refine ⟨spE V ρ (i + 1), ?_, ⟨i + 1, by omega, by omega, by rw [e]; try first | exact h3 | simp, by rw [e]; try first | exact h4 | rfl | simp, rfl⟩, by simp [spμ, spE, setS_int, setR_int, setI_int]; omega⟩
          simp [Eqns, Eqn.ok, spE, SI.den, SS.den, SP.den, setI_int, setI_rows, setI_str, setR_int, setR_rows, setR_str, setS_int, setS_rows, setS_str, preCells, RX.flat, RX.ok, AV.val, rows1, vstr, e]
          try ((repeat' apply And.intro) <;> first | rfl | omega | exact rows1_ok _ | (intros; rfl) | exact snoc1 ex1 rfl)
        · have e := other i hlt (bl_f g1) (bl_f g2) (bl_f g3)
          refine ⟨spE V ρ (i + 1), ?_, ⟨i + 1, by omega, by omega, by rw [e]; try first | exact h3 | simp, by rw [e]; try first | exact h4 | rfl | simp, rfl⟩, by simp [spμ, spE, setS_int, setR_int, setI_int]; omega⟩
          simp [Eqns, Eqn.ok, spE, SI.den, SS.den, SP.den, setI_int, setI_rows, setI_str, setR_int, setR_rows, setR_str, setS_int, setS_rows, setS_str, preCells, RX.flat, RX.ok, AV.val, rows1, vstr, e]
          try ((repeat' apply And.intro) <;> first | rfl | omega | exact rows1_ok _ | (intros; rfl) | exact snoc1 ex1 rfl)
      · have hge := sp_f h
        have hi : V.take i = V := List.take_of_length_le hge
        rw [hi, hs] at h3 h4
        exact h4 rfl
end Go.Sx
namespace Go.Sx
open Go.Proofs
set_option maxRecDepth 1000000

noncomputable def smC : Ctx := ctxOf Tryz.prog lies18 exts18 [] []
noncomputable def smtg : List AM := [st smC 13 [.slice 109 0 (.rlen 22) .full, .slice 66 0 (.rlen 21) (.rest 1)] (hpOf [(66, .rowv false 21 1 (.lit 0) [.str [.var 51]] 9), (109, .rowv false 22 1 (.lit 0) [.str [.var 51]] 9)] 155) [(.cmp .geq (.rlen 21) (.lit 1), true), (.cmp .leq (.rlen 21) (.lit 40), true), (.cmp .eql (.rlen 22) (.rlen 21), true)],
    nd smC 13 0 [(0, .slice 109 0 (.rlen 22) .full), (1, .slice 66 0 (.rlen 21) (.rest 1)), (5, .int .i64 (.var 0))]
      [(66, .rowv false 21 1 (.var 0) [.str [.var 52]] 9), (109, .rowv false 22 1 (.var 0) [.str [.var 52]] 9)] 155
      [(.cmp .geq (.var 0) (.lit 1), true), (.cmp .leq (.var 0) (.rlen 21), true), (.cmp .leq (.rlen 21) (.lit 40), true), (.cmp .eql (.rlen 22) (.rlen 21), true)]]
noncomputable def smo0 : OT := (.to 1 ⟨155, 155, []⟩ [.int (.rlen 22) (.rlen 22), .int (.rlen 21) (.rlen 21), .int (.var 0) (.lit 1), .row 22 1 (some ((.v 22), 1)) [], .peek 22 (.var 0) [.str [.var 52]], .row 21 1 (some ((.v 21), 1)) [], .peek 21 (.var 0) [.str [.var 52]]])
noncomputable def smo1 : OT := (.fork (.cmp .lss (.var 0) (.rlen 22)) (.to 1 ⟨155, 155, []⟩ [.int (.rlen 22) (.rlen 22), .int (.rlen 21) (.rlen 21), .int (.var 0) (.add (.var 0) (.lit 1)), .row 22 1 (some ((.v 22), 1)) [], .peek 22 (.var 0) [.str [.var 52]], .row 21 1 (some ((.v 21), 1)) [], .peek 21 (.var 0) [.str [.var 52]]]) (.fin ⟨155, 155, []⟩ [.row 22 1 (some ((.v 22), 1)) [], .row 21 1 (some ((.v 21), 1)) []]))
noncomputable def smG : Graph := { tg := pick smtg, stop := stopAny [(13, (0, 3))], n := fun _ => 800, pl := fun k => ([smo0, smo1].getD k .no).plan, o := fun k => [smo0, smo1].getD k .no, v := .bool (.lit true), h := (hpOf [(66, .cells false (some (.v 21, 1)) [] 9), (109, .cells false (some (.v 22, 1)) [] 9)] 155), f := 13, N := 155 }
theorem smat0 : smG.At smC 0 := ⟨by kernel_rfl, by kernel_rfl, by kernel_rfl⟩
theorem smat1 : smG.At smC 1 := ⟨by kernel_rfl, by kernel_rfl, by kernel_rfl⟩
theorem smf0 : (smG.tg 0).facts = [(.cmp .geq (.rlen 21) (.lit 1), true), (.cmp .leq (.rlen 21) (.lit 40), true), (.cmp .eql (.rlen 22) (.rlen 21), true)] := by kernel_rfl
theorem smf1 : (smG.tg 1).facts = [(.cmp .geq (.var 0) (.lit 1), true), (.cmp .leq (.var 0) (.rlen 21), true), (.cmp .leq (.rlen 21) (.lit 40), true), (.cmp .eql (.rlen 22) (.rlen 21), true)] := by kernel_rfl
theorem smst : startF smC [(.cmp .geq (.rlen 21) (.lit 1), true), (.cmp .leq (.rlen 21) (.lit 40), true), (.cmp .eql (.rlen 22) (.rlen 21), true)] 13 [.slice 109 0 (.rlen 22) .full, .slice 66 0 (.rlen 21) (.rest 1)] (hpOf [(66, .rowv false 21 1 (.lit 0) [.str [.var 51]] 9), (109, .rowv false 22 1 (.lit 0) [.str [.var 51]] 9)] 155) = some (smG.tg 0) := by kernel_rfl
end Go.Sx
namespace Go.Sx
open Go.Proofs
set_option maxRecDepth 100000
noncomputable def o_sm : Orc := { facts := [], f := 13, args := [.slice 109 0 (.rlen 22) .full, .slice 66 0 (.rlen 21) (.rest 1)], pre := [(66, .cells false (some (.v 21, 1)) [] 9), (109, .cells false (some (.v 22, 1)) [] 9)], next := 155, v := .bool (.lit true), post := [(66, .cells false (some (.v 21, 1)) [] 9), (109, .cells false (some (.v 22, 1)) [] 9)], next' := 155 }
theorem smC_ok {ρ : Env} : CtxOK smC Tryz.prog ρ := ctx18 orcs_nil pors_nil
def smE (ws : List (List UInt8)) (ρ : Env) (i : Nat) : Env := (ρ.setI 0 i).setS 52 (ws.getD i [])
def smI (ws : List (List UInt8)) (ρ0 : Env) : Nat → Env → Prop
  | 0, ρ => ρ = ρ0
  | 1, ρ => ∃ i : Nat, 1 ≤ i ∧ i ≤ ws.length ∧ ρ = smE ws ρ0 i
  | _, _ => False
def smμ (ws : List (List UInt8)) : Nat → Env → Nat
  | 0, _ => ws.length + 2
  | _, ρ => ws.length + 1 - (ρ.int 0).toNat
theorem sm_ok {ws : List (List UInt8)} {ρ : Env} (h21 : ρ.rows 21 = rows1 ws) (h22 : ρ.rows 22 = rows1 ws) (h51 : ρ.str 51 = ws.getD 0 []) (hne : 1 ≤ ws.length) (hle : ws.length ≤ 40) : OrcOK Tryz.prog ρ o_sm := by
  refine orc_of_graph (G := smG) (C := smC) (I := smI ws ρ) (μ := smμ ws) (l0 := [(66, .rowv false 21 1 (.lit 0) [.str [.var 51]] 9), (109, .rowv false 22 1 (.lit 0) [.str [.var 51]] 9)]) (fun _ _ _ => smC_ok) ?_ ?_ ?_ rfl smst rfl rfl rfl rfl (by decide) (by kernel_rfl) ?_
  · intro k ρ' hi
    match k, hi with
    | 0, hi =>
      subst hi
      rw [smf0]
      intro p hp
      simp only [List.mem_cons, List.not_mem_nil, or_false] at hp
      rcases hp with rfl | rfl | rfl <;> simp [SB.den, SI.den, intCmp, ltInt_iff, eqInt_iff, h21, h22, rows1] <;> omega
    | 1, hi =>
      obtain ⟨i, h1, h2, rfl⟩ := hi
      rw [smf1]
      intro p hp
      simp only [List.mem_cons, List.not_mem_nil, or_false] at hp
      rcases hp with rfl | rfl | rfl | rfl <;> simp [SB.den, SI.den, intCmp, ltInt_iff, eqInt_iff, smE, setI_int, setI_rows, setS_int, setS_rows, h21, h22, rows1] <;> omega
  · intro k ρ' hi
    match k, hi with
    | 0, _ => exact smat0
    | 1, _ => exact smat1
  · intro k ρ' hi
    match k, hi with
    | 0, hi =>
      subst hi
      show OTok _ _ _ 0 ρ' smo0
      simp only [smo0, OTok]
      refine ⟨smE ws ρ' 1, ?_, ⟨1, by omega, hne, rfl⟩, by simp [smμ, smE, setS_int, setI_int]⟩
      simp [Eqns, Eqn.ok, smE, SI.den, SS.den, SP.den, setI_int, setI_rows, setI_str, setS_int, setS_rows, setS_str, preCells, RX.flat, RX.ok, AV.val, h21, h22]
      repeat' apply And.intro
      all_goals first | exact rows1_ok ws | rfl | (intro xs hx; simpa [vstr, List.getD] using rows1_get hx)
    | 1, hi =>
      obtain ⟨i, h1, h2, rfl⟩ := hi
      show OTok _ _ _ 1 _ smo1
      simp only [smo1, OTok]
      refine ⟨fun h => ?_, fun h => ?_⟩
      · have hlt : i < ws.length := by
          simp [SB.den, SI.den, intCmp, ltInt_iff, smE, setS_int, setI_int, setS_rows, setI_rows, h22, rows1] at h
          omega
        refine ⟨smE ws ρ (i + 1), ?_, ⟨i + 1, by omega, by omega, rfl⟩, by simp [smμ, smE, setS_int, setI_int]; omega⟩
        simp [Eqns, Eqn.ok, smE, SI.den, SS.den, SP.den, setI_int, setI_rows, setI_str, setS_int, setS_rows, setS_str, preCells, RX.flat, RX.ok, AV.val, h21, h22]
        repeat' apply And.intro
        all_goals first | exact rows1_ok ws | rfl | omega | (intro xs hx; simpa [vstr, List.getD] using rows1_get hx)
      · refine ⟨ρ, ?_, rfl⟩
        simp [Eqns, Eqn.ok, smE, SI.den, SS.den, SP.den, setI_int, setI_rows, setI_str, setS_int, setS_rows, setS_str, preCells, RX.flat, RX.ok, AV.val, h21, h22]
        exact rows1_ok ws
  · have pk : ∀ r, ρ.rows r = rows1 ws → (Eqn.peek r (.lit 0) [AV.str [.var 51]]).ok ρ ρ := by
      intro r hr
      refine ⟨by simp [SI.den], fun xs hx => ?_⟩
      simp only [SI.den, hr] at hx
      rw [rows1_get hx]
      simp [AV.val, SS.den, SP.den, h51, vstr]
    exact ⟨rfl, .inr ⟨_, _, _, _, _, _, rfl, rfl, rfl, pk _ h21⟩, rfl, .inr ⟨_, _, _, _, _, _, rfl, rfl, rfl, pk _ h22⟩, trivial⟩
end Go.Sx
namespace Go.Sx
open Go.Proofs
set_option maxRecDepth 100000
/-- bytes of words -/
def gd (c : UInt8) : Bool := (97 ≤ c.toNat && c.toNat ≤ 122) || (48 ≤ c.toNat && c.toNat ≤ 57) || 128 ≤ c.toNat
theorem quote_gd {c : UInt8} (h : gd c = true ∨ isBl c) : quoteB c = [c] := by
  have key : ∀ n : _root_.Fin 256, (gd (UInt8.ofNat n) = true ∨ isBl (UInt8.ofNat n)) → quoteB (UInt8.ofNat n) = [UInt8.ofNat n] := by decide +kernel
  have := key ⟨c.toNat, UInt8.toNat_lt c⟩
  simp only [UInt8.ofNat_toNat] at this
  exact this h
theorem quoteL_gd : ∀ {s : List UInt8}, (∀ c ∈ s, gd c = true ∨ isBl c) → quoteL s = s
  | [], _ => rfl
  | b :: s, h => by
    rw [quoteL, quote_gd (h b (by simp)), quoteL_gd (fun c hc => h c (by simp [hc]))]; rfl
noncomputable def p_qv : POrc := { facts := [], f := 93, args := [.str [.var 7, .lit [32]]], pre := [], v := .str [.var 7, .lit [32]] }
theorem qv_ok {ρ : Env} (h : ∀ c ∈ ρ.str 7, gd c = true ∨ isBl c) (hl : (ρ.str 7).length ≤ 1000) : POrcOK Tryz.prog ρ p_qv := by
  intro φ w xs n _ _ _ ha
  obtain ⟨x, ys, rfl, h1, h2⟩ := VRs.cons_left ha
  have := VRs.nil_left h2; subst this
  simp only [VR, SS.den, SP.den, List.append_nil] at h1
  subst h1
  refine (quote_calls ⟨⟨ρ.str 7 ++ [32]⟩⟩ (by simp; omega) w).mono fun e w' ⟨he, hk⟩ => ⟨_, he, ?_, hk⟩
  simp only [VR, SS.den, SP.den, List.append_nil, p_qv]
  have : quoteL (ρ.str 7 ++ [32]) = ρ.str 7 ++ [32] := quoteL_gd (fun c hc => by
    rcases List.mem_append.1 hc with hc | hc
    · exact h c hc
    · simp at hc; subst hc; right; left; rfl)
  simp only [this]
end Go.Sx
namespace Go.Sx
open Go.Proofs
/-! the plain law: what the law lays together is split into its words -/
def wd (A : List (List UInt8)) (i : Nat) : List UInt8 := A.getD i []
def gp (G : List Int) (i : Nat) : Int := G.getD i 0
def cur (A : List (List UInt8)) (i k : Nat) : List UInt8 := ((wd A i).take k).filter gd
def msk (g : Int) : Int := (intBin .and .i64 g 3).getD 0
def gapOf (G : List Int) (i : Nat) : List UInt8 :=
  if i < G.length then (if msk (gp G i) < 1 then [32] else if msk (gp G i) < 2 then [9] else if msk (gp G i) < 3 then [10] else [32, 32, 10, 9]) else [32]
def acc (A : List (List UInt8)) (G : List Int) : Nat → List UInt8 × List (List UInt8)
  | 0 => ([], [])
  | i + 1 => if cur A i 15 = [] then acc A G i else ((acc A G i).1 ++ gapOf G i ++ cur A i 15, (acc A G i).2 ++ [cur A i 15])
theorem gd_nbl {c : UInt8} (h : gd c = true) : ¬ isBl c := by
  unfold isBl
  simp [gd] at h
  omega
theorem fold_bl : ∀ {b : List UInt8} (F : List (List UInt8)), (∀ c ∈ b, isBl c) → b.foldl stp (F, []) = (F, [])
  | [], _, _ => rfl
  | c :: b, F, h => by
    rw [List.foldl_cons, stp, if_pos (h c (by simp)), if_pos rfl, fold_bl F (fun d hd => h d (by simp [hd]))]
theorem fold_bl1 {b : List UInt8} {F : List (List UInt8)} {w : List UInt8} (hb : b ≠ []) (h : ∀ c ∈ b, isBl c) (hw : w ≠ []) : b.foldl stp (F, w) = (F ++ [w], []) := by
  cases b with
  | nil => exact absurd rfl hb
  | cons c b => rw [List.foldl_cons, stp, if_pos (h c (by simp)), if_neg hw, fold_bl _ (fun d hd => h d (by simp [hd]))]
theorem fold_gd : ∀ {b : List UInt8} (F : List (List UInt8)) (w : List UInt8), (∀ c ∈ b, gd c = true) → b.foldl stp (F, w) = (F, w ++ b)
  | [], F, w, _ => by simp
  | c :: b, F, w, h => by
    rw [List.foldl_cons, stp, if_neg (gd_nbl (h c (by simp))), fold_gd F (w ++ [c]) (fun d hd => h d (by simp [hd]))]; simp
theorem spl_app (a b : List UInt8) : spl (a ++ b) = b.foldl stp (spl a) := by simp [spl, List.foldl_append]
theorem gap_ok (G : List Int) (i : Nat) : gapOf G i ≠ [] ∧ (∀ c ∈ gapOf G i, isBl c) ∧ (gapOf G i).length ≤ 4 := by
  unfold gapOf
  have k1 : ∀ c ∈ ([32] : List UInt8), isBl c := by intro c h; simp at h; subst h; left; rfl
  have k2 : ∀ c ∈ ([9] : List UInt8), isBl c := by intro c h; simp at h; subst h; right; left; rfl
  have k3 : ∀ c ∈ ([10] : List UInt8), isBl c := by intro c h; simp at h; subst h; right; right; rfl
  have k4 : ∀ c ∈ ([32, 32, 10, 9] : List UInt8), isBl c := by
    intro c h; simp at h; rcases h with rfl | rfl | rfl
    · left; rfl
    · right; right; rfl
    · right; left; rfl
  split
  · split
    · exact ⟨by simp, k1, by simp⟩
    · split
      · exact ⟨by simp, k2, by simp⟩
      · split
        · exact ⟨by simp, k3, by simp⟩
        · exact ⟨by simp, k4, by simp⟩
  · exact ⟨by simp, k1, by simp⟩
theorem cur_gd {A : List (List UInt8)} {i k : Nat} : ∀ c ∈ cur A i k, gd c = true := fun c h => (List.mem_filter.1 h).2
theorem cur_len (A : List (List UInt8)) (i k : Nat) : (cur A i k).length ≤ k := by
  unfold cur
  exact Nat.le_trans (List.length_filter_le _ _) (by simp; omega)
structure AccOk (v : List UInt8) (ws : List (List UInt8)) (i : Nat) : Prop where
  bytes : ∀ c ∈ v, gd c = true ∨ isBl c
  len : v.length ≤ 19 * i
  wlen : ws.length ≤ i
  nil : ws = [] → v = []
  last : ws ≠ [] → v ≠ [] ∧ ∃ us w, ws = us ++ [w] ∧ w ≠ [] ∧ spl v = (us, w)
theorem acc_ok (A : List (List UInt8)) (G : List Int) : ∀ i, AccOk (acc A G i).1 (acc A G i).2 i
  | 0 => ⟨fun c h => by simp [acc] at h, by simp [acc], by simp [acc], fun _ => rfl, fun h => absurd rfl h⟩
  | i + 1 => by
    have ih := acc_ok A G i
    rw [acc]
    split
    · exact ⟨ih.bytes, by have := ih.len; omega, by have := ih.wlen; omega, ih.nil, ih.last⟩
    · rename_i hw
      have g := gap_ok G i
      have cl := cur_len A i 15
      refine ⟨fun c h => ?_, ?_, ?_, fun h => by simp at h, fun _ => ⟨?_, (acc A G i).2, cur A i 15, rfl, hw, ?_⟩⟩
      · simp only [List.mem_append] at h
        rcases h with (h | h) | h
        · exact ih.bytes c h
        · exact .inr (g.2.1 c h)
        · exact .inl (cur_gd c h)
      · simp only [List.length_append]
        have := ih.len; omega
      · have := ih.wlen; simp; omega
      · simp [hw]
      · by_cases hn : (acc A G i).2 = []
        · rw [ih.nil hn, hn, List.nil_append, spl_app]
          rw [show spl (gapOf G i) = ([], []) from fold_bl [] g.2.1, fold_gd _ _ cur_gd]
          rfl
        · obtain ⟨_, us, w, e1, e2, e3⟩ := ih.last hn
          rw [List.append_assoc, spl_app, e3, List.foldl_append, fold_bl1 g.1 g.2.1 e2, fold_gd _ _ cur_gd, e1]
          rfl
theorem acc_spl {v : List UInt8} {ws : List (List UInt8)} {i : Nat} (h : AccOk v ws i) (hn : ws ≠ []) : spl (v ++ [32]) = (ws, []) := by
  obtain ⟨_, us, w, e1, e2, e3⟩ := h.last hn
  rw [spl_app, e3, fold_bl1 (by simp) (fun c hc => by simp at hc; subst hc; left; rfl) e2, e1]
theorem cur_more {A : List (List UInt8)} {i k : Nat} (hk : k < (wd A i).length) : cur A i (k + 1) = cur A i k ++ (if gd ((wd A i)[k]?.getD 0) = true then [(wd A i)[k]?.getD 0] else []) := by
  unfold cur
  rw [List.take_succ_eq_append_getElem hk, List.filter_append, List.getElem?_eq_getElem hk]
  simp only [List.filter_cons, List.filter_nil, Option.getD_some]
theorem cur_end {A : List (List UInt8)} {i k : Nat} (h : (wd A i).length ≤ k ∨ k = 15) (hk : k ≤ 15) : cur A i 15 = cur A i k := by
  unfold cur
  rcases h with h | h
  · rw [List.take_of_length_le h, List.take_of_length_le (by omega)]
  · rw [h]
def vs (A : List (List UInt8)) (G : List Int) (i : Nat) : List UInt8 × List (List UInt8) := if (acc A G i).2 = [] then ([32, 97], [[97]]) else acc A G i
theorem vs_ok (A : List (List UInt8)) (G : List Int) {i : Nat} (hi : i ≤ 40) : AccOk (vs A G i).1 (vs A G i).2 40 ∧ (vs A G i).2 ≠ [] ∧ (vs A G i).1 ≠ [] := by
  unfold vs
  split
  · refine ⟨⟨fun c h => ?_, by simp, by simp, fun h => by simp at h, fun _ => ⟨by simp, [], [97], rfl, by simp, by decide⟩⟩, by simp, by simp⟩
    simp at h
    rcases h with rfl | rfl
    · right; left; rfl
    · left; rfl
  · rename_i h
    have := acc_ok A G i
    exact ⟨⟨this.bytes, by have := this.len; omega, by have := this.wlen; omega, this.nil, this.last⟩, h, (this.last h).1⟩
end Go.Sx
