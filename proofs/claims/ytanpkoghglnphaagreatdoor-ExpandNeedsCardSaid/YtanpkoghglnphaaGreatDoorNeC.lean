import Derived.Test.YtanpkoghglnphaaGreatDoorNeA
import Derived.Test.YtanpkoghglnphaaGreatDoorNeB
namespace Go.Sx
open Go.Proofs
set_option maxRecDepth 1000000

noncomputable def pqC : Ctx := ctxOf Tryz.prog lies18 exts18 [] []
noncomputable def pqtg : List AM := [st pqC 66 [.str [.lit [34], .var 7, .lit [34]], .bool (.lit false)] (hpOf [] 64) [],
    st pqC 66 [.str [.lit [34, 36, 40, 100, 111, 32], .chr (.sbyte 54 (.lit 0)), .lit [41, 46], .var 71, .lit [34]], .bool (.lit false)] (hpOf [] 64) [(.cmp .leq (.slen 71) (.lit 400), true), (.cmp .geq (.sbyte 54 (.lit 0)) (.lit 48), true), (.cmp .leq (.sbyte 54 (.lit 0)) (.lit 57), true)],
    ndAt (leafAt (execS pqC (stopAny [(106, 2, 3)]) 3000 (st pqC 66 [.str [.lit [34, 36, 40, 100, 111, 32], .chr (.sbyte 54 (.lit 0)), .lit [41, 46], .var 71, .lit [34]], .bool (.lit false)] (hpOf [] 64) [(.cmp .leq (.slen 71) (.lit 400), true), (.cmp .geq (.sbyte 54 (.lit 0)) (.lit 48), true), (.cmp .leq (.sbyte 54 (.lit 0)) (.lit 57), true)])) []) [] [(0, .ptr 66 0), (1, .int .i64 (.add (.lit 1) (.slen 70))), (2, .int .u8 (.lit 34)), (3, .str [.lit [39]]), (4, .bool (.lit true)), (10, .int .i64 (.lit 0)), (11, .int .i64 (.lit 0)), (13, .ptr 66 0), (14, .ptr 66 0), (15, .ptr 66 1)] [[], [4, 5]] [64, 65] []
      [(66, .cells false none [.str [.lit [34], .var 70, .lit [36, 40, 100, 111, 32], .chr (.sbyte 54 (.lit 0)), .lit [41, 46], .var 71, .lit [34]], .int .i64 (.lit 1)] 150)] 67
      [(.cmp .leq (.slen 70) (.lit 400), true), (.cmp .leq (.slen 71) (.lit 400), true), (.cmp .geq (.sbyte 54 (.lit 0)) (.lit 48), true), (.cmp .leq (.sbyte 54 (.lit 0)) (.lit 57), true)],
    ndAt (leafAt (execS pqC (stopAny [(106, 2, 3)]) 3000 (st pqC 66 [.str [.lit [34, 36, 40, 100, 111, 32], .chr (.sbyte 54 (.lit 0)), .lit [41, 46], .var 71, .lit [34]], .bool (.lit false)] (hpOf [] 64) [(.cmp .leq (.slen 71) (.lit 400), true), (.cmp .geq (.sbyte 54 (.lit 0)) (.lit 48), true), (.cmp .leq (.sbyte 54 (.lit 0)) (.lit 57), true)])) []) [] [(0, .ptr 66 0), (1, .int .i64 (.add (.lit 1) (.slen 70))), (2, .int .u8 (.lit 34)), (3, .str [.lit [39]]), (4, .bool (.lit true)), (10, .int .i64 (.lit 0)), (11, .int .i64 (.lit 0)), (13, .ptr 66 0), (14, .ptr 66 0), (15, .ptr 66 1)] [[], [4, 5]] [64, 65] []
      [(66, .cells false none [.str [.lit [34], .var 70, .lit [36, 40, 100, 111, 32], .chr (.sbyte 54 (.lit 0)), .chr (.sbyte 54 (.lit 1)), .lit [41, 46], .var 71, .lit [34]], .int .i64 (.lit 1)] 150)] 67
      [(.cmp .leq (.slen 70) (.lit 400), true), (.cmp .leq (.slen 71) (.lit 400), true), (.cmp .geq (.sbyte 54 (.lit 0)) (.lit 48), true), (.cmp .leq (.sbyte 54 (.lit 0)) (.lit 57), true), (.cmp .geq (.sbyte 54 (.lit 1)) (.lit 48), true), (.cmp .leq (.sbyte 54 (.lit 1)) (.lit 57), true), (.cmp .geq (.slen 54) (.lit 2), true)],
    ndAt (leafAt (execS pqC (stopAny [(106, 2, 3)]) 3000 (st pqC 66 [.str [.lit [34, 36, 40, 100, 111, 32], .chr (.sbyte 54 (.lit 0)), .lit [41, 46], .var 71, .lit [34]], .bool (.lit false)] (hpOf [] 64) [(.cmp .leq (.slen 71) (.lit 400), true), (.cmp .geq (.sbyte 54 (.lit 0)) (.lit 48), true), (.cmp .leq (.sbyte 54 (.lit 0)) (.lit 57), true)])) []) [] [(0, .ptr 66 0), (1, .int .i64 (.add (.lit 1) (.slen 70))), (2, .int .u8 (.lit 34)), (3, .str [.lit [39]]), (4, .bool (.lit true)), (10, .int .i64 (.lit 0)), (11, .int .i64 (.lit 0)), (13, .ptr 66 0), (14, .ptr 66 0), (15, .ptr 66 1)] [[], [4, 5]] [64, 65] []
      [(66, .cells false none [.str [.lit [34], .var 70, .lit [46, 34]], .int .i64 (.lit 1)] 150)] 67
      [(.cmp .leq (.slen 70) (.lit 400), true)],
    ndAt (leafAt (execS pqC (stopAny [(106, 2, 3)]) 3000 (st pqC 66 [.str [.lit [34, 36, 40, 100, 111, 32], .chr (.sbyte 54 (.lit 0)), .lit [41, 46], .var 71, .lit [34]], .bool (.lit false)] (hpOf [] 64) [(.cmp .leq (.slen 71) (.lit 400), true), (.cmp .geq (.sbyte 54 (.lit 0)) (.lit 48), true), (.cmp .leq (.sbyte 54 (.lit 0)) (.lit 57), true)])) []) [] [(0, .ptr 66 0), (1, .int .i64 (.add (.lit 1) (.slen 70))), (2, .int .u8 (.lit 34)), (3, .str [.lit [39]]), (4, .bool (.lit true)), (10, .int .i64 (.lit 0)), (11, .int .i64 (.lit 0)), (13, .ptr 66 0), (14, .ptr 66 0), (15, .ptr 66 1)] [[], [4, 5]] [64, 65] []
      [(66, .cells false none [.str [.lit [34], .var 70, .lit [46], .var 71, .lit [34]], .int .i64 (.lit 1)] 150)] 67
      [(.cmp .leq (.slen 70) (.lit 400), true), (.cmp .leq (.slen 71) (.lit 400), true), (.cmp .geq (.slen 71) (.lit 1), true)],
    ndAt (leafAt (execS pqC (stopAny [(106, 2, 3)]) 3000 (st pqC 66 [.str [.lit [34, 36, 40, 100, 111, 32], .chr (.sbyte 54 (.lit 0)), .lit [41, 46], .var 71, .lit [34]], .bool (.lit false)] (hpOf [] 64) [(.cmp .leq (.slen 71) (.lit 400), true), (.cmp .geq (.sbyte 54 (.lit 0)) (.lit 48), true), (.cmp .leq (.sbyte 54 (.lit 0)) (.lit 57), true)])) []) [] [(0, .ptr 66 0), (1, .int .i64 (.add (.lit 1) (.slen 70))), (2, .int .u8 (.lit 34)), (3, .str [.lit [39]]), (4, .bool (.lit true)), (10, .int .i64 (.lit 0)), (11, .int .i64 (.lit 0)), (13, .ptr 66 0), (14, .ptr 66 0), (15, .ptr 66 1)] [[], [4, 5]] [64, 65] []
      [(66, .cells false none [.str [.lit [34], .var 70, .lit [34]], .int .i64 (.lit 1)] 150)] 67
      [(.cmp .leq (.slen 70) (.lit 400), true)]]
noncomputable def pqo0 : OT := (.to 1 ⟨64, 64, []⟩ [.str [.lit [34, 36, 40, 100, 111, 32], .chr (.sbyte 54 (.lit 0)), .lit [41, 46], .var 71, .lit [34]] [.lit [34], .var 7, .lit [34]]])
noncomputable def pqo1 : OT := (.alt (.to 4 ⟨64, 67, [(64, 64), (65, 65), (66, 66)]⟩ [.int (.add (.lit 1) (.slen 70)) (.lit 8), .str [.lit [34], .var 70, .lit [46, 34]] [.lit [34, 36, 40, 100, 111, 32], .chr (.sbyte 54 (.lit 0)), .lit [41, 46], .var 71, .lit [34]]]) (.to 5 ⟨64, 67, [(64, 64), (65, 65), (66, 66)]⟩ [.int (.add (.lit 1) (.slen 70)) (.lit 8), .str [.lit [34], .var 70, .lit [46], .var 71, .lit [34]] [.lit [34, 36, 40, 100, 111, 32], .chr (.sbyte 54 (.lit 0)), .lit [41, 46], .var 71, .lit [34]]]))
noncomputable def pqo2 : OT := (.alt (.to 4 ⟨64, 67, [(64, 64), (65, 65), (66, 66)]⟩ [.int (.add (.lit 1) (.slen 70)) (.add (.add (.add (.add (.add (.add (.add (.lit 1) (.slen 70)) (.lit 2)) (.lit 1)) (.lit 1)) (.lit 1)) (.lit 1)) (.lit 1)), .str [.lit [34], .var 70, .lit [46, 34]] [.lit [34], .var 70, .lit [36, 40, 100, 111, 32], .chr (.sbyte 54 (.lit 0)), .lit [41, 46], .var 71, .lit [34]]]) (.to 5 ⟨64, 67, [(64, 64), (65, 65), (66, 66)]⟩ [.int (.add (.lit 1) (.slen 70)) (.add (.add (.add (.add (.add (.add (.add (.lit 1) (.slen 70)) (.lit 2)) (.lit 1)) (.lit 1)) (.lit 1)) (.lit 1)) (.lit 1)), .str [.lit [34], .var 70, .lit [46], .var 71, .lit [34]] [.lit [34], .var 70, .lit [36, 40, 100, 111, 32], .chr (.sbyte 54 (.lit 0)), .lit [41, 46], .var 71, .lit [34]]]))
noncomputable def pqo3 : OT := (.alt (.to 4 ⟨64, 67, [(64, 64), (65, 65), (66, 66)]⟩ [.int (.add (.lit 1) (.slen 70)) (.add (.add (.add (.add (.add (.add (.add (.add (.lit 1) (.slen 70)) (.lit 2)) (.lit 1)) (.lit 1)) (.lit 1)) (.lit 1)) (.lit 1)) (.lit 1)), .str [.lit [34], .var 70, .lit [46, 34]] [.lit [34], .var 70, .lit [36, 40, 100, 111, 32], .chr (.sbyte 54 (.lit 0)), .chr (.sbyte 54 (.lit 1)), .lit [41, 46], .var 71, .lit [34]]]) (.to 5 ⟨64, 67, [(64, 64), (65, 65), (66, 66)]⟩ [.int (.add (.lit 1) (.slen 70)) (.add (.add (.add (.add (.add (.add (.add (.add (.lit 1) (.slen 70)) (.lit 2)) (.lit 1)) (.lit 1)) (.lit 1)) (.lit 1)) (.lit 1)) (.lit 1)), .str [.lit [34], .var 70, .lit [46], .var 71, .lit [34]] [.lit [34], .var 70, .lit [36, 40, 100, 111, 32], .chr (.sbyte 54 (.lit 0)), .chr (.sbyte 54 (.lit 1)), .lit [41, 46], .var 71, .lit [34]]]))
noncomputable def pqo4 : OT := (.to 6 ⟨64, 67, [(64, 64), (65, 65), (66, 66)]⟩ [.int (.add (.lit 1) (.slen 70)) (.add (.add (.lit 1) (.slen 70)) (.lit 1)), .str [.lit [34], .var 70, .lit [34]] [.lit [34], .var 70, .lit [46, 34]]])
noncomputable def pqo5 : OT := (.alt (.to 2 ⟨64, 67, [(64, 64), (65, 65), (66, 66)]⟩ [.int (.add (.lit 1) (.slen 70)) (.add (.add (.lit 1) (.slen 70)) (.lit 1)), .str [.lit [34], .var 70, .lit [36, 40, 100, 111, 32], .chr (.sbyte 54 (.lit 0)), .lit [41, 46], .var 71, .lit [34]] [.lit [34], .var 70, .lit [46], .var 71, .lit [34]]]) (.to 3 ⟨64, 67, [(64, 64), (65, 65), (66, 66)]⟩ [.int (.add (.lit 1) (.slen 70)) (.add (.add (.lit 1) (.slen 70)) (.lit 1)), .str [.lit [34], .var 70, .lit [36, 40, 100, 111, 32], .chr (.sbyte 54 (.lit 0)), .chr (.sbyte 54 (.lit 1)), .lit [41, 46], .var 71, .lit [34]] [.lit [34], .var 70, .lit [46], .var 71, .lit [34]]]))
noncomputable def pqo6 : OT := (.fin ⟨64, 64, []⟩ [.int (.add (.slen 7) (.lit 2)) (.add (.add (.lit 1) (.slen 70)) (.lit 1))])
noncomputable def pqG : Graph := { tg := pick pqtg, stop := (stopAny [(106, (2, 3))]), n := (fun k => [0, 3000, 3000, 3000, 3000, 3000, 3000].getD k 0), pl := fun k => ([pqo0, pqo1, pqo2, pqo3, pqo4, pqo5, pqo6].getD k .no).plan, o := fun k => [pqo0, pqo1, pqo2, pqo3, pqo4, pqo5, pqo6].getD k .no, v := .int .i64 (.add (.slen 7) (.lit 2)), h := (hpOf [] 64), f := 66, N := 64 }
theorem pqat0 : pqG.At pqC 0 := ⟨by kernel_rfl, by kernel_rfl, by kernel_rfl⟩
theorem pqat1 : pqG.At pqC 1 := ⟨by kernel_rfl, by kernel_rfl, by kernel_rfl⟩
theorem pqat2 : pqG.At pqC 2 := ⟨by kernel_rfl, by kernel_rfl, by kernel_rfl⟩
theorem pqat3 : pqG.At pqC 3 := ⟨by kernel_rfl, by kernel_rfl, by kernel_rfl⟩
theorem pqat4 : pqG.At pqC 4 := ⟨by kernel_rfl, by kernel_rfl, by kernel_rfl⟩
theorem pqat5 : pqG.At pqC 5 := ⟨by kernel_rfl, by kernel_rfl, by kernel_rfl⟩
theorem pqat6 : pqG.At pqC 6 := ⟨by kernel_rfl, by kernel_rfl, by kernel_rfl⟩
theorem pqf0 : (pqG.tg 0).facts = [] := by kernel_rfl
theorem pqf1 : (pqG.tg 1).facts = [(.cmp .leq (.slen 71) (.lit 400), true), (.cmp .geq (.sbyte 54 (.lit 0)) (.lit 48), true), (.cmp .leq (.sbyte 54 (.lit 0)) (.lit 57), true)] := by kernel_rfl
theorem pqf2 : (pqG.tg 2).facts = [(.cmp .leq (.slen 70) (.lit 400), true), (.cmp .leq (.slen 71) (.lit 400), true), (.cmp .geq (.sbyte 54 (.lit 0)) (.lit 48), true), (.cmp .leq (.sbyte 54 (.lit 0)) (.lit 57), true)] := by kernel_rfl
theorem pqf3 : (pqG.tg 3).facts = [(.cmp .leq (.slen 70) (.lit 400), true), (.cmp .leq (.slen 71) (.lit 400), true), (.cmp .geq (.sbyte 54 (.lit 0)) (.lit 48), true), (.cmp .leq (.sbyte 54 (.lit 0)) (.lit 57), true), (.cmp .geq (.sbyte 54 (.lit 1)) (.lit 48), true), (.cmp .leq (.sbyte 54 (.lit 1)) (.lit 57), true), (.cmp .geq (.slen 54) (.lit 2), true)] := by kernel_rfl
theorem pqf4 : (pqG.tg 4).facts = [(.cmp .leq (.slen 70) (.lit 400), true)] := by kernel_rfl
theorem pqf5 : (pqG.tg 5).facts = [(.cmp .leq (.slen 70) (.lit 400), true), (.cmp .leq (.slen 71) (.lit 400), true), (.cmp .geq (.slen 71) (.lit 1), true)] := by kernel_rfl
theorem pqf6 : (pqG.tg 6).facts = [(.cmp .leq (.slen 70) (.lit 400), true)] := by kernel_rfl
theorem pqst : startF pqC [] 66 [.str [.lit [34], .var 7, .lit [34]], .bool (.lit false)] (hpOf [] 64) = some (pqG.tg 0) := by kernel_rfl
end Go.Sx
namespace Go.Sx
open Go.Proofs
set_option maxRecDepth 100000
def pqE (a d c : List UInt8) (ρ : Env) : Env := ((ρ.setS 70 a).setS 54 d).setS 71 c
def pqI (N : Nat) (ρ0 : Env) : Nat → Env → Prop
  | 0, ρ => ρ = ρ0
  | 1, ρ => ρ = pqE [] (Lib.decDigits 0) (wsuf 1 (N - 1)) ρ0
  | 2, ρ => ∃ j, j < 10 ∧ j < N ∧ ρ = pqE (wsuf 0 j) (Lib.decDigits j) (wsuf (j + 1) (N - j - 1)) ρ0
  | 3, ρ => ∃ j, ¬ j < 10 ∧ j < N ∧ ρ = pqE (wsuf 0 j) (Lib.decDigits j) (wsuf (j + 1) (N - j - 1)) ρ0
  | 4, ρ => ∃ j, j + 1 = N ∧ ρ = pqE (wsuf 0 j ++ pt' j) [] [] ρ0
  | 5, ρ => ∃ j, j + 1 < N ∧ ρ = pqE (wsuf 0 j ++ pt' j) [] (wsuf (j + 1) (N - j - 1)) ρ0
  | 6, ρ => ρ = pqE (wsuf 0 N) [] [] ρ0
  | _, _ => False
def pqμ (N : Nat) : Nat → Env → Nat
  | 0, _ => 400
  | 1, _ => 399
  | 6, _ => 0
  | 4, _ => 1
  | _, ρ => 300 - (ρ.str 70).length
theorem pq_calls {N : Nat} (h1 : 1 ≤ N) (h2 : N ≤ 20) (W : World) :
    Calls Tryz.prog 66 #[.string ⟨⟨34 :: (wsuf 0 N ++ [34])⟩⟩, .bool false] W fun e W' => e = .returned (.int .i64 ((wsuf 0 N).length + 2)) ∧ Kept W W' := by
  have l0 := wsuf_len N 0 (by omega)
  have hd0 : Lib.decDigits 0 = [48] := by decide +kernel
  have wl : ∀ j n, j + n ≤ 20 → (wsuf j n).length ≤ 180 := fun j n h => by have := wsuf_len n j h; omega
  have := Graph.calls (G := pqG) (C := pqC) (P := Tryz.prog) (I := pqI N (Env.setS (env [] []) 7 (wsuf 0 N))) (μ := pqμ N) (J := fun ρ => ρ.str 7 = wsuf 0 N) (fun _ _ _ => ctx18 orcs_nil pors_nil) ?_ ?_ ?_ (ρ := Env.setS (env [] []) 7 (wsuf 0 N)) rfl (F := []) (args := [.str [.lit [34], .var 7, .lit [34]], .bool (.lit false)]) (h := hpOf [] 64) pqst
    (φ := pl0) (w := W) (xs := [.string ⟨⟨34 :: (wsuf 0 N ++ [34])⟩⟩, .bool false]) (wr0 _ W) glob0 (VRs.cons (by simp only [VR, SS.den, SP.den, List.append_nil]; rfl) (VRs.cons (by simp only [VR, SB.den]) VRs.nil))
  · exact this.mono fun e W' h => kept_of h (fun ρ' ψ z hJ hz => by
      have hz : VR ρ' ψ (.int .i64 (.add (.slen 7) (.lit 2))) z := hz
      simp only [VR, SI.den] at hz; rw [hz, hJ]) rfl
  · intro k ρ hi
    match k, hi with
    | 0, hi => rw [pqf0]; intro p hp; cases hp
    | 1, hi =>
      replace hi : ρ = _ := hi
      subst hi
      have e1 := wl 1 (N - 1) (by omega)
      rw [pqf1]; intro p hp
      simp only [List.mem_cons, List.not_mem_nil, or_false] at hp
      rcases hp with rfl | rfl | rfl <;> simp [SB.den, SI.den, intCmp, ltInt_iff, pqE, setS_str, hd0]; omega
    | 2, hi =>
      obtain ⟨j, g1, g2, rfl⟩ := hi
      obtain ⟨d, e0, e1, e2⟩ := dd_1 g1
      have e3 := wl (j + 1) (N - j - 1) (by omega)
      have e4 := wl 0 j (by omega)
      rw [pqf2]; intro p hp
      simp only [List.mem_cons, List.not_mem_nil, or_false] at hp
      rcases hp with rfl | rfl | rfl | rfl <;> simp [SB.den, SI.den, intCmp, ltInt_iff, pqE, setS_str, e0] <;> omega
    | 3, hi =>
      obtain ⟨j, g1, g2, rfl⟩ := hi
      obtain ⟨d, f, e0, e1, e2, e5, e6⟩ := dd_2 g1 (by omega)
      have e3 := wl (j + 1) (N - j - 1) (by omega)
      have e4 := wl 0 j (by omega)
      rw [pqf3]; intro p hp
      simp only [List.mem_cons, List.not_mem_nil, or_false] at hp
      rcases hp with rfl | rfl | rfl | rfl | rfl | rfl | rfl <;> simp [SB.den, SI.den, intCmp, ltInt_iff, pqE, setS_str, e0] <;> omega
    | 4, hi =>
      obtain ⟨j, g1, rfl⟩ := hi
      have e4 := wl 0 j (by omega)
      have e5 := pt'_len j
      have e6 := dd_lt (j := j) (by omega)
      rw [pqf4]; intro p hp
      simp only [List.mem_cons, List.not_mem_nil, or_false] at hp
      rcases hp with rfl <;> simp [SB.den, SI.den, intCmp, ltInt_iff, pqE, setS_str] <;> omega
    | 5, hi =>
      obtain ⟨j, g1, rfl⟩ := hi
      have e4 := wl 0 j (by omega)
      have e3 := wl (j + 1) (N - j - 1) (by omega)
      have e7 := wsuf_len (N - j - 1) (j + 1) (by omega)
      have e5 := pt'_len j
      have e6 := dd_lt (j := j) (by omega)
      rw [pqf5]; intro p hp
      simp only [List.mem_cons, List.not_mem_nil, or_false] at hp
      rcases hp with rfl | rfl | rfl <;> simp [SB.den, SI.den, intCmp, ltInt_iff, pqE, setS_str] <;> omega
    | 6, hi =>
      replace hi : ρ = _ := hi
      subst hi
      rw [pqf6]; intro p hp
      simp only [List.mem_cons, List.not_mem_nil, or_false] at hp
      rcases hp with rfl <;> simp [SB.den, SI.den, intCmp, ltInt_iff, pqE, setS_str]; omega
  · intro k ρ hi
    match k, hi with
    | 0, _ => exact pqat0
    | 1, _ => exact pqat1
    | 2, _ => exact pqat2
    | 3, _ => exact pqat3
    | 4, _ => exact pqat4
    | 5, _ => exact pqat5
    | 6, _ => exact pqat6
  · intro k ρ hi
    have w7 : ∀ ρ0 a d c, (pqE a d c (Env.setS ρ0 7 (wsuf 0 N))).str 7 = wsuf 0 N := fun _ _ _ _ => rfl
    match k, hi with
    | 0, hi =>
      replace hi : ρ = _ := hi
      subst hi
      show OTok _ _ _ 0 _ pqo0
      simp only [pqo0, OTok]
      refine ⟨_, ?_, rfl, by simp [pqμ]⟩
      have hw := wsuf_at (j := 0) (N := N) (by omega)
      simp only [wsuf, List.nil_append, Nat.zero_add, Nat.sub_zero, pt', hd0] at hw
      simp [Eqns, Eqn.ok, SI.den, SS.den, SP.den, pqE, setS_str, hw, hd0]
    | 1, hi =>
      replace hi : ρ = _ := hi
      subst hi
      show OTok _ _ _ 1 _ pqo1
      simp only [pqo1, OTok]
      by_cases hN : 0 + 1 = N
      · refine .inl ⟨_, ?_, ⟨0, hN, rfl⟩, by simp [pqμ]⟩
        subst hN
        simp [Eqns, Eqn.ok, SI.den, SS.den, SP.den, pqE, setS_str, hd0, pt', wsuf]
      · refine .inr ⟨_, ?_, ⟨0, by omega, rfl⟩, by simp [pqμ, pqE, setS_str]; omega⟩
        simp [Eqns, Eqn.ok, SI.den, SS.den, SP.den, pqE, setS_str, hd0, pt', wsuf]
    | 2, hi =>
      obtain ⟨j, g1, g2, rfl⟩ := hi
      obtain ⟨d, e0, e1, e2⟩ := dd_1 g1
      have e4 := wl 0 j (by omega)
      show OTok _ _ _ 2 _ pqo2
      simp only [pqo2, OTok]
      by_cases hN : j + 1 = N
      · refine .inl ⟨_, ?_, ⟨j, hN, rfl⟩, by simp [pqμ, pqE, setS_str]; omega⟩
        have hz : wsuf (j + 1) (N - j - 1) = [] := by rw [show N - j - 1 = 0 by omega]; rfl
        simp [Eqns, Eqn.ok, SI.den, SS.den, SP.den, pqE, setS_str, e0, hz, pt']
        omega
      · refine .inr ⟨_, ?_, ⟨j, by omega, rfl⟩, by simp [pqμ, pqE, setS_str, pt']; omega⟩
        simp [Eqns, Eqn.ok, SI.den, SS.den, SP.den, pqE, setS_str, e0, pt']
        omega
    | 3, hi =>
      obtain ⟨j, g1, g2, rfl⟩ := hi
      obtain ⟨d, f, e0, e1, e2, e5, e6⟩ := dd_2 g1 (by omega)
      have e4 := wl 0 j (by omega)
      show OTok _ _ _ 3 _ pqo3
      simp only [pqo3, OTok]
      by_cases hN : j + 1 = N
      · refine .inl ⟨_, ?_, ⟨j, hN, rfl⟩, by simp [pqμ, pqE, setS_str]; omega⟩
        have hz : wsuf (j + 1) (N - j - 1) = [] := by rw [show N - j - 1 = 0 by omega]; rfl
        simp [Eqns, Eqn.ok, SI.den, SS.den, SP.den, pqE, setS_str, e0, hz, pt']
        omega
      · refine .inr ⟨_, ?_, ⟨j, by omega, rfl⟩, by simp [pqμ, pqE, setS_str, pt']; omega⟩
        simp [Eqns, Eqn.ok, SI.den, SS.den, SP.den, pqE, setS_str, e0, pt']
        omega
    | 4, hi =>
      obtain ⟨j, g1, rfl⟩ := hi
      show OTok _ _ _ 4 _ pqo4
      simp only [pqo4, OTok]
      refine ⟨_, ?_, rfl, by simp [pqμ]⟩
      have hw := wsuf_at (j := j) (N := N) (by omega)
      rw [show N - j - 1 = 0 by omega, show wsuf (j + 1) 0 = [] from rfl] at hw
      simp [Eqns, Eqn.ok, SI.den, SS.den, SP.den, pqE, setS_str, hw]
      omega
    | 5, hi =>
      obtain ⟨j, g1, rfl⟩ := hi
      have e4 := wl 0 j (by omega)
      have e5 := pt'_len j
      have e6 := dd_lt (j := j) (by omega)
      have hs : wsuf 0 (j + 1) = wsuf 0 j ++ (pt' j ++ [46]) := by rw [wsuf_snoc]; simp [pt]
      have hf := wsuf_from (j := j + 1) (N := N) (by omega)
      rw [show N - (j + 1) = N - j - 1 by omega] at hf
      show OTok _ _ _ 5 _ pqo5
      simp only [pqo5, OTok]
      by_cases g : j + 1 < 10
      · obtain ⟨d, e0, _, _⟩ := dd_1 g
        refine .inl ⟨_, ?_, ⟨j + 1, g, by omega, rfl⟩, by simp [pqμ, pqE, setS_str, hs]; omega⟩
        simp [Eqns, Eqn.ok, SI.den, SS.den, SP.den, pqE, setS_str, hs, hf, e0]
        simp [pt', e0, show N - (j + 1) - 1 = N - j - 1 - 1 by omega]
        omega
      · obtain ⟨d, f, e0, _⟩ := dd_2 g (by omega)
        refine .inr ⟨_, ?_, ⟨j + 1, g, by omega, rfl⟩, by simp [pqμ, pqE, setS_str, hs]; omega⟩
        simp [Eqns, Eqn.ok, SI.den, SS.den, SP.den, pqE, setS_str, hs, hf, e0]
        simp [pt', e0, show N - (j + 1) - 1 = N - j - 1 - 1 by omega]
        omega
    | 6, hi =>
      replace hi : ρ = _ := hi
      subst hi
      show OTok _ _ _ 6 _ pqo6
      simp only [pqo6, OTok]
      refine ⟨_, ?_, w7 (env [] []) (wsuf 0 N) [] []⟩
      simp [Eqns, Eqn.ok, SI.den, pqE, setS_str]
      omega
noncomputable def p_pa : POrc := { facts := [], f := 66, args := [.str [.lit [34], .var 7, .lit [34]], .bool (.lit false)], pre := [], v := .int .i64 (.add (.slen 7) (.lit 2)) }
theorem pa_ok {N : Nat} {ρ : Env} (h1 : 1 ≤ N) (h2 : N ≤ 20) (h : ρ.str 7 = wsuf 0 N) : POrcOK Tryz.prog ρ p_pa := by
  intro φ w xs n _ _ _ ha
  obtain ⟨x, ys, rfl, h3, h4⟩ := VRs.cons_left ha
  obtain ⟨y, zs, rfl, h5, h6⟩ := VRs.cons_left h4
  have := VRs.nil_left h6; subst this
  simp only [VR, SS.den, SP.den, List.append_nil, SB.den] at h3 h5
  subst h3
  subst h5
  rw [h]
  refine (pq_calls h1 h2 w).mono fun e w' ⟨he, hk⟩ => ⟨_, he, ?_, hk⟩
  show VR ρ φ (.int .i64 (.add (.slen 7) (.lit 2))) _
  simp only [VR, SI.den, h]
end Go.Sx
namespace Go.Sx
open Go.Proofs
set_option maxRecDepth 100000
/-- the runs of the first parts; the text that they are -/
def rn (K P : Int) (A : List (List UInt8)) : Nat → List (Int × List UInt8)
  | 0 => []
  | j + 1 => rn K P A j ++ [(K, trimR (A.getD j [])), (P, [46])]
def wantL (A : List (List UInt8)) : Nat → List UInt8
  | 0 => []
  | j + 1 => wantL A j ++ (trimR (A.getD j []) ++ [46])
theorem ntx_rn (K P : Int) (A : List (List UInt8)) : ∀ n, ntx (rn K P A n) = wantL A n
  | 0 => rfl
  | n + 1 => by rw [rn, ntx_app, ntx_rn K P A n, wantL]; simp [ntx]
theorem rn_len (K P : Int) (A : List (List UInt8)) : ∀ n, (rn K P A n).length = 2 * n
  | 0 => rfl
  | n + 1 => by rw [rn, List.length_append, rn_len K P A n]; simp; omega
theorem rn_k {K P : Int} (hK : K ≠ 3) (hP : P ≠ 3) (A : List (List UInt8)) : ∀ n, ∀ p ∈ rn K P A n, p.1 ≠ 3
  | 0, p, h => by cases h
  | n + 1, p, h => by
    rw [rn] at h
    rcases List.mem_append.1 h with h | h
    · exact rn_k hK hP A n p h
    · simp at h; rcases h with rfl | rfl
      · exact hK
      · exact hP
theorem want_len {A : List (List UInt8)} : ∀ {n}, (∀ i, i < n → (A.getD i []).length ≤ 150) → (wantL A n).length ≤ 151 * n
  | 0, _ => by simp [wantL]
  | n + 1, h => by
    have h1 := want_len (A := A) (n := n) (fun i hi => h i (by omega))
    have h2 := trimR_len (A.getD n [])
    have h3 := h n (by omega)
    simp only [wantL, List.length_append, List.length_cons, List.length_nil]; omega
/-- what the law's letters stand for -/
structure NL (A : List (List UInt8)) (N i : Nat) (K P : Int) (ρ : Env) : Prop where
  n1 : 1 ≤ N
  n2 : N ≤ 20
  nA : N ≤ A.length
  ii : i ≤ N
  each : ∀ k, k < N → (A.getD k []).length ≤ 150
  rows : ρ.rows 10 = rows1 A
  first : ρ.str 40 = A.getD 0 []
  word : ρ.str 7 = wsuf 0 N
  nn : ρ.int 62 = N
  runs : ρ.rows 22 = (rn K P A N).map nrow
  want : ρ.str 75 = wantL A N
  k1 : ρ.str 76 = (ng (rn K P A N) 0).2
  k2 : ρ.int 77 = (ng (rn K P A N) 0).1
  int0 : ρ.int 0 = i
  dig : ρ.str 74 = Lib.decDigits i
  s50 : ρ.str 50 = []
  s51 : ρ.str 51 = []
def ttS (A : List (List UInt8)) (N : Nat) (ρ : Env) : Env := (((ρ.setS 54 (Lib.decDigits 0)).setS 71 (wsuf 1 (N - 1))).setS 50 (A.getD 0 [])).setS 51 (trimR (A.getD 0 []))
def ttU (K P : Int) (A : List (List UInt8)) (N : Nat) (ρ : Env) (j : Nat) : Env :=
  ((((((ρ.setI 60 j).setI 1 ((wantL A j).length)).setR 21 ((rn K P A j).map nrow)).setS 54 (Lib.decDigits j)).setS 71 (wsuf (j + 1) (N - j - 1))).setS 50 (A.getD j [])).setS 51 (trimR (A.getD j []))
def ttD (K P : Int) (A : List (List UInt8)) (N : Nat) (ρ : Env) (j : Nat) : Env :=
  (((ρ.setI 60 ((j + 1 : Nat) : Int)).setI 1 (((wantL A j).length + (trimR (A.getD j [])).length : Nat) : Int)).setR 21 ((rn K P A j ++ [(K, trimR (A.getD j []))]).map nrow)).setS 71 (wsuf (j + 1) (N - j - 1))
def ttZ (A : List (List UInt8)) (N : Nat) (ρ : Env) : Env := ((ρ.setI 60 N).setI 1 ((wantL A N).length)).setS 71 []
def ttI (K P : Int) (A : List (List UInt8)) (N M : Nat) (ends : Prop) (ρ0 : Env) : Nat → Env → Prop
  | 0, ρ => ρ = ρ0
  | 1, ρ => ρ = ttS A N ρ0
  | 2, ρ => ∃ j, j < M ∧ j < N ∧ ρ = ttD K P A N ρ0 j
  | 3, ρ => ∃ j, 1 ≤ j ∧ j < 10 ∧ j ≤ M ∧ j < N ∧ ρ = ttU K P A N ρ0 j
  | 4, ρ => ∃ j, ¬ j < 10 ∧ j ≤ M ∧ j < N ∧ ρ = ttU K P A N ρ0 j
  | 5, ρ => ends ∧ ρ = ttZ A N ρ0
  | _, _ => False
def ttμ (N : Nat) : Nat → Env → Nat
  | 0, _ => 100
  | 1, _ => 99
  | 2, ρ => 2 * N + 4 - 2 * (ρ.int 60).toNat
  | 3, ρ => 2 * N + 3 - 2 * (ρ.int 60).toNat
  | 4, ρ => 2 * N + 3 - 2 * (ρ.int 60).toNat
  | _, _ => 0
theorem npk3 {A : List (List UInt8)} {i : Nat} : ∀ (xs : List Value), (rows1 A)[i]? = some xs → xs = [Value.string ⟨⟨A.getD i []⟩⟩] := fun xs h => rows1_get h
theorem npk3' {A : List (List UInt8)} {i : Nat} : ∀ (xs : List Value), (rows1 A)[i]? = some xs → xs = [Value.string ⟨⟨A[i]?.getD []⟩⟩] := fun xs h => by simpa [List.getD] using npk3 xs h
theorem orc_facts {P : Program} {ρ : Env} {o : Orc} (hn : incr o.post = true) (h : o.facts.ok ρ → OrcOK P ρ o) : OrcOK P ρ o := ⟨fun φ w xs a b c d => (h c).calls φ w xs a b c d, incr_get hn⟩
theorem nrows_ok (L : List (Int × List UInt8)) : ∀ q ∈ L.map nrow, q.length = 2 ∧ ∀ v ∈ q, v.oneCell' = true := nrow_ok L
theorem nmap_app (a b : List (Int × List UInt8)) : (a ++ b).map nrow = a.map nrow ++ b.map nrow := List.map_append ..
end Go.Sx
