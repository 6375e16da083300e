import Derived.Test.YtanpkoghglnphaaGreatDoorSxA
namespace Go.Sx

theorem nbeq_iff (a b : Nat) : a.beq b = decide (a = b) := by
  rw [Bool.eq_iff_iff, Nat.beq_eq]; simp
theorem nbeq_false {a b : Nat} (h : a ≠ b) : a.beq b = false := by rw [nbeq_iff]; simpa using h
theorem nbeq_true {a b : Nat} (h : a = b) : a.beq b = true := by rw [nbeq_iff]; simpa using h
/-! tries -/
namespace PT
theorem get_nil {α : Type} (n : Nat) : (PT.nil : PT α).get n = none := rfl
theorem get_node {α : Type} (l r : PT α) (v : Option α) (n : Nat) :
    (PT.node l v r).get n = if n = 0 then v else if n % 2 = 1 then l.get ((n - 1) / 2) else r.get ((n - 1) / 2) := by
  show @Bool.rec (fun _ => Option α) (@Bool.rec (fun _ => Option α) (r.get ((n - 1) / 2)) (l.get ((n - 1) / 2)) ((n % 2).beq 1)) v (n.beq 0) = _
  by_cases h0 : n = 0
  · subst h0; rfl
  · have e0 : n.beq 0 = false := nbeq_false h0
    rw [e0, if_neg h0]
    by_cases h1 : n % 2 = 1
    · have e1 : (n % 2).beq 1 = true := nbeq_true h1
      rw [e1, if_pos h1]
    · have e1 : (n % 2).beq 1 = false := nbeq_false h1
      rw [e1, if_neg h1]
theorem setF_nil {α : Type} (f : Nat) (n : Nat) (a : Option α) :
    setF (f + 1) .nil n a = if n = 0 then .node .nil a .nil else if n % 2 = 1 then .node (setF f .nil ((n - 1) / 2) a) none .nil else .node .nil none (setF f .nil ((n - 1) / 2) a) := by
  show @Bool.rec (fun _ => PT α) (@Bool.rec (fun _ => PT α) (.node .nil none (setF f .nil ((n - 1) / 2) a)) (.node (setF f .nil ((n - 1) / 2) a) none .nil) ((n % 2).beq 1)) (.node .nil a .nil) (n.beq 0) = _
  by_cases h0 : n = 0
  · subst h0; rfl
  · have e0 : n.beq 0 = false := nbeq_false h0
    rw [e0, if_neg h0]
    by_cases h1 : n % 2 = 1
    · have e1 : (n % 2).beq 1 = true := nbeq_true h1
      rw [e1, if_pos h1]
    · have e1 : (n % 2).beq 1 = false := nbeq_false h1
      rw [e1, if_neg h1]
theorem setF_node {α : Type} (f : Nat) (l r : PT α) (v : Option α) (n : Nat) (a : Option α) :
    setF (f + 1) (.node l v r) n a = if n = 0 then .node l a r else if n % 2 = 1 then .node (setF f l ((n - 1) / 2) a) v r else .node l v (setF f r ((n - 1) / 2) a) := by
  show @Bool.rec (fun _ => PT α) (@Bool.rec (fun _ => PT α) (.node l v (setF f r ((n - 1) / 2) a)) (.node (setF f l ((n - 1) / 2) a) v r) ((n % 2).beq 1)) (.node l a r) (n.beq 0) = _
  by_cases h0 : n = 0
  · subst h0; rfl
  · have e0 : n.beq 0 = false := nbeq_false h0
    rw [e0, if_neg h0]
    by_cases h1 : n % 2 = 1
    · have e1 : (n % 2).beq 1 = true := nbeq_true h1
      rw [e1, if_pos h1]
    · have e1 : (n % 2).beq 1 = false := nbeq_false h1
      rw [e1, if_neg h1]
theorem get_setF {α : Type} (f : Nat) : ∀ (t : PT α) (n : Nat) (a : Option α) (m : Nat), n < f → (setF f t n a).get m = if m = n then a else t.get m := by
  induction f with
  | zero => intro t n a m h; omega
  | succ f ih =>
    intro t n a m h
    have par : ∀ x y : Nat, x ≠ 0 → y ≠ 0 → x % 2 = y % 2 → ((x - 1) / 2 = (y - 1) / 2 ↔ x = y) := by intro x y; omega
    cases t with
    | nil =>
      rw [setF_nil]
      by_cases h0 : n = 0
      · subst h0
        rw [if_pos rfl, get_node]
        by_cases hm : m = 0
        · rw [if_pos hm, if_pos hm]
        · rw [if_neg hm, if_neg hm]; split <;> rfl
      · rw [if_neg h0]
        have hf : (n - 1) / 2 < f := by omega
        by_cases h1 : n % 2 = 1
        · rw [if_pos h1, get_node, ih _ _ _ _ hf]
          by_cases hm : m = 0
          · rw [if_pos hm, if_neg (by omega)]; rfl
          · rw [if_neg hm]
            by_cases hm1 : m % 2 = 1
            · rw [if_pos hm1]
              by_cases e : m = n
              · rw [if_pos e, if_pos (by rw [e])]
              · rw [if_neg e, if_neg (fun c => e ((par m n hm h0 (by omega)).1 c))]; rfl
            · rw [if_neg hm1, if_neg (by omega)]; rfl
        · rw [if_neg h1, get_node, ih _ _ _ _ hf]
          by_cases hm : m = 0
          · rw [if_pos hm, if_neg (by omega)]; rfl
          · rw [if_neg hm]
            by_cases hm1 : m % 2 = 1
            · rw [if_pos hm1, if_neg (by omega)]; rfl
            · rw [if_neg hm1]
              by_cases e : m = n
              · rw [if_pos e, if_pos (by rw [e])]
              · rw [if_neg e, if_neg (fun c => e ((par m n hm h0 (by omega)).1 c))]; rfl
    | node l v r =>
      rw [setF_node]
      by_cases h0 : n = 0
      · subst h0
        rw [if_pos rfl, get_node, get_node]
        by_cases hm : m = 0
        · rw [if_pos hm, if_pos hm]
        · rw [if_neg hm, if_neg hm, if_neg hm]
      · rw [if_neg h0]
        have hf : (n - 1) / 2 < f := by omega
        by_cases h1 : n % 2 = 1
        · rw [if_pos h1, get_node, get_node, ih _ _ _ _ hf]
          by_cases hm : m = 0
          · rw [if_pos hm, if_pos hm, if_neg (by omega)]
          · rw [if_neg hm, if_neg hm]
            by_cases hm1 : m % 2 = 1
            · rw [if_pos hm1, if_pos hm1]
              by_cases e : m = n
              · rw [if_pos e, if_pos (by rw [e])]
              · rw [if_neg e, if_neg (fun c => e ((par m n hm h0 (by omega)).1 c))]
            · rw [if_neg hm1, if_neg hm1, if_neg (by omega)]
        · rw [if_neg h1, get_node, get_node, ih _ _ _ _ hf]
          by_cases hm : m = 0
          · rw [if_pos hm, if_pos hm, if_neg (by omega)]
          · rw [if_neg hm, if_neg hm]
            by_cases hm1 : m % 2 = 1
            · rw [if_pos hm1, if_pos hm1, if_neg (by omega)]
            · rw [if_neg hm1, if_neg hm1]
              by_cases e : m = n
              · rw [if_pos e, if_pos (by rw [e])]
              · rw [if_neg e, if_neg (fun c => e ((par m n hm h0 (by omega)).1 c))]
theorem get_set {α : Type} (t : PT α) (n : Nat) (a : α) (m : Nat) : (t.set n a).get m = if m = n then some a else t.get m := get_setF _ _ _ _ _ (Nat.lt_succ_self n)
theorem get_set_same {α : Type} (t : PT α) (n : Nat) (a : α) : (t.set n a).get n = some a := by rw [get_set, if_pos rfl]
theorem get_set_ne {α : Type} (t : PT α) {n m : Nat} (a : α) (h : m ≠ n) : (t.set n a).get m = t.get m := by rw [get_set, if_neg h]
theorem get_del {α : Type} (t : PT α) (n : Nat) (m : Nat) : (t.del n).get m = if m = n then none else t.get m := get_setF _ _ _ _ _ (Nat.lt_succ_self n)
theorem get_ofList {α : Type} (l : List α) : ∀ (i : Nat) (t : PT α) (m : Nat), (ofList l i t).get m = if i ≤ m ∧ m < i + l.length then l[m - i]? else t.get m := by
  induction l with
  | nil => intro i t m; rw [if_neg (by simp)]; rfl
  | cons a l ih =>
    intro i t m
    show (ofList l (i + 1) (t.set i a)).get m = _
    rw [ih, get_set]
    by_cases h : m = i
    · subst h
      rw [if_neg (by omega), if_pos rfl, if_pos (by simp)]; simp
    · by_cases h2 : i + 1 ≤ m ∧ m < i + 1 + l.length
      · rw [if_pos h2, if_pos (by simp; omega), show m - i = (m - (i + 1)) + 1 by omega]; simp
      · rw [if_neg h2, if_neg h, if_neg (by simp; omega)]
end PT

/-! equality tests -/
theorem beq_nat {a b : Nat} (h : a.beq b = true) : a = b := Nat.eq_of_beq_eq_true h
theorem cond_true {α : Type} {c : Bool} {a b r : α} (h : (bif c then a else b) = r) (hb : b ≠ r) : c = true ∧ a = r := by
  cases c
  · exact absurd h hb
  · exact ⟨rfl, h⟩
theorem and_cond {a b : Bool} (h : (bif a then b else false) = true) : a = true ∧ b = true := by
  cases a
  · cases h
  · exact ⟨rfl, h⟩
theorem eqInt_eq {a b : Int} (h : eqInt a b = true) : a = b := by
  cases a <;> cases b <;> simp [eqInt] at h <;> simp [h]
theorem eqInt_iff (a b : Int) : eqInt a b = decide (a = b) := by
  cases a <;> cases b <;> simp only [eqInt, nbeq_iff, Int.ofNat_inj, Int.negSucc_inj, Int.ofNat_eq_natCast, reduceCtorEq, decide_false]
theorem ltInt_iff (a b : Int) : ltInt a b = decide (a < b) := by
  cases a with
  | ofNat a => cases b with
    | ofNat b => rw [Bool.eq_iff_iff]; simp [ltInt, Nat.blt_eq]
    | negSucc b => rw [Bool.eq_iff_iff]; simp [ltInt]; omega
  | negSucc a => cases b with
    | ofNat b => rw [Bool.eq_iff_iff]; simp [ltInt]; omega
    | negSucc b => rw [Bool.eq_iff_iff]; simp [ltInt, Nat.blt_eq]; omega
theorem eqKind_eq {a b : IntKind} (h : eqKind a b = true) : a = b := by
  revert h; cases a <;> cases b <;> decide
theorem eqOp_eq {a b : BinOp} (h : eqOp a b = true) : a = b := by
  revert h; cases a <;> cases b <;> decide
theorem eqByte_eq {a b : UInt8} (h : eqByte a b = true) : a = b := UInt8.toNat_inj.1 (beq_nat h)
theorem eqByte_iff (a b : UInt8) : eqByte a b = decide (a = b) := by
  rw [Bool.eq_iff_iff]; simp [eqByte, ← UInt8.toNat_inj]
theorem eqBool_eq {a b : Bool} (h : eqBool a b = true) : a = b := by
  revert h; cases a <;> cases b <;> decide
theorem eqBool_iff (a b : Bool) : eqBool a b = (a == b) := by cases a <;> cases b <;> rfl
theorem eqBytes_iff : ∀ (a b : List UInt8), eqBytes a b = decide (a = b)
  | [], [] => by simp [eqBytes]
  | [], _ :: _ => by simp [eqBytes]
  | _ :: _, [] => by simp [eqBytes]
  | a :: x, b :: y => by
    rw [eqBytes, eqBytes_iff x y, eqByte_iff]
    by_cases h : a = b <;> simp [h]
theorem eqBytes_eq {a b : List UInt8} (h : eqBytes a b = true) : a = b := by rw [eqBytes_iff] at h; simpa using h
theorem SI.beq_eq : ∀ {a b : SI}, SI.beq a b = true → a = b := by
  intro a
  induction a with
  | lit n => intro b h; cases b <;> simp [SI.beq] at h; rw [eqInt_eq h]
  | var i => intro b h; cases b <;> simp [SI.beq] at h; rw [h]
  | add x y ihx ihy => intro b h; cases b <;> simp [SI.beq] at h; rw [ihx h.1, ihy h.2]
  | sub x y ihx ihy => intro b h; cases b <;> simp [SI.beq] at h; rw [ihx h.1, ihy h.2]
  | bin o k x y ihx ihy => intro b h; cases b <;> simp [SI.beq] at h; rw [eqOp_eq h.1.1, eqKind_eq h.1.2, ihx h.2.1, ihy h.2.2]
  | wrap k x ih => intro b h; cases b <;> simp [SI.beq] at h; rw [eqKind_eq h.1, ih h.2]
  | slen i => intro b h; cases b <;> simp [SI.beq] at h; rw [h]
  | sbyte i x ih => intro b h; cases b <;> simp [SI.beq] at h; rw [h.1, ih h.2]
  | rlen i => intro b h; cases b <;> simp [SI.beq] at h; rw [h]
theorem SP.beq_eq {a b : SP} (h : SP.beq a b = true) : a = b := by
  cases a <;> cases b <;> simp [SP.beq] at h
  · rw [eqBytes_eq h]
  · rw [h]
  · rw [SI.beq_eq h]
theorem SS.beq_eq : ∀ {a b : SS}, SS.beq a b = true → a = b
  | [], [], _ => rfl
  | [], _ :: _, h => by simp [SS.beq] at h
  | _ :: _, [], h => by simp [SS.beq] at h
  | a :: x, b :: y, h => by
    simp [SS.beq] at h
    rw [SP.beq_eq h.1, SS.beq_eq h.2]
theorem SB.beq_eq : ∀ {a b : SB}, SB.beq a b = true → a = b := by
  intro a
  induction a with
  | lit x => intro b h; cases b <;> simp [SB.beq] at h; rw [eqBool_eq h]
  | var i => intro b h; cases b <;> simp [SB.beq] at h; rw [h]
  | cmp o x y => intro b h; cases b <;> simp [SB.beq] at h; rw [eqOp_eq h.1, SI.beq_eq h.2.1, SI.beq_eq h.2.2]
  | seq x y => intro b h; cases b <;> simp [SB.beq] at h; rw [SS.beq_eq h.1, SS.beq_eq h.2]
  | not x ih => intro b h; cases b <;> simp [SB.beq] at h; rw [ih h]
theorem Cap.beq_eq {a b : Cap} (h : Cap.beq a b = true) : a = b := by
  cases a <;> cases b <;> simp [Cap.beq] at h <;> simp [h]
theorem eqFn_eq {a b : Fn} (h : eqFn a b = true) : a = b := by
  unfold eqFn at h
  split at h
  · rw [beq_nat h]
  · rw [beq_nat h]
  · simpa using h
mutual
theorem AV.beq_eq : ∀ {a b : AV}, AV.beq a b = true → a = b
  | .bool x, b, h => by cases b <;> simp [AV.beq] at h; rw [SB.beq_eq h]
  | .int k x, b, h => by cases b <;> simp [AV.beq] at h; rw [eqKind_eq h.1, SI.beq_eq h.2]
  | .str x, b, h => by cases b <;> simp [AV.beq] at h; rw [SS.beq_eq h]
  | .ptr i o, b, h => by cases b <;> simp [AV.beq] at h; rw [h.1, h.2]
  | .nilPtr, b, h => by cases b <;> simp [AV.beq] at h; rfl
  | .slice i o l c, b, h => by cases b <;> simp [AV.beq] at h; rw [h.1.1, h.1.2, SI.beq_eq h.2.1, Cap.beq_eq h.2.2]
  | .eslice i o, b, h => by cases b <;> simp [AV.beq] at h; rw [h.1, h.2]
  | .nilSlice, b, h => by cases b <;> simp [AV.beq] at h; rfl
  | .func f x y, b, h => by cases b <;> simp [AV.beq] at h; rw [eqFn_eq h.1, AV.beqs_eq h.2.1, AV.beqs_eq h.2.2]
  | .nilFunc, b, h => by cases b <;> simp [AV.beq] at h; rfl
  | .iface t v, b, h => by cases b <;> simp [AV.beq] at h; rw [h.1, AV.beq_eq h.2]
  | .nilIface, b, h => by cases b <;> simp [AV.beq] at h; rfl
  | .agg x, b, h => by cases b <;> simp [AV.beq] at h; rw [AV.beqs_eq h]
  | .tup x, b, h => by cases b <;> simp [AV.beq] at h; rw [AV.beqs_eq h]
  | .nilMap, b, h => by cases b <;> simp [AV.beq] at h; rfl
  | .iptr i z x o, b, h => by cases b <;> simp [AV.beq] at h; rw [h.1.1, h.1.2, SI.beq_eq h.2.1, h.2.2]
theorem AV.beqs_eq : ∀ {a b : List AV}, AV.beqs a b = true → a = b
  | [], [], _ => rfl
  | [], _ :: _, h => by simp [AV.beqs] at h
  | _ :: _, [], h => by simp [AV.beqs] at h
  | a :: x, b :: y, h => by
    simp [AV.beqs] at h
    rw [AV.beq_eq h.1, AV.beqs_eq h.2]
end
theorem RX.beq_eq : ∀ {a b : RX}, RX.beq a b = true → a = b
  | .v r, b, h => by cases b <;> simp [RX.beq] at h; rw [h]
  | .cs l b, c, h => by cases c <;> simp [RX.beq] at h; rw [AV.beqs_eq h.1, RX.beq_eq h.2]
end Go.Sx
namespace Go.Sx

/-- what the letters stand for -/
structure Env where
  int : Nat → Int
  str : Nat → List UInt8
  boo : Nat → Bool
  rows : Nat → List (List Value)

def SI.den (ρ : Env) : SI → Int
  | .lit n => n
  | .var i => ρ.int i
  | .add a b => a.den ρ + b.den ρ
  | .sub a b => a.den ρ - b.den ρ
  | .bin o k a b => (intBin o k (a.den ρ) (b.den ρ)).getD 0
  | .wrap k a => k.wrap (a.den ρ)
  | .slen i => (ρ.str i).length
  | .sbyte i x => (((ρ.str i)[(x.den ρ).toNat]?).getD 0).toNat
  | .rlen i => (ρ.rows i).length
def SP.den (ρ : Env) : SP → List UInt8
  | .lit bs => bs
  | .var i => ρ.str i
  | .chr n => [UInt8.ofNat (n.den ρ).toNat]
def SS.den (ρ : Env) : SS → List UInt8
  | [] => []
  | p :: r => p.den ρ ++ SS.den ρ r
def SB.den (ρ : Env) : SB → Bool
  | .lit b => b
  | .var i => ρ.boo i
  | .cmp o a b => (intCmp o (a.den ρ) (b.den ρ)).getD false
  | .seq a b => decide (SS.den ρ a = SS.den ρ b)
  | .not b => !(b.den ρ)

def Facts.ok (ρ : Env) (F : Facts) : Prop := ∀ f ∈ F, f.1.den ρ = f.2

/-! linear forms -/
def Lin.sum (ρ : Env) : List (SI × Int) → Int
  | [] => 0
  | (t, k) :: l => k * t.den ρ + Lin.sum ρ l
def Lin.den (ρ : Env) (L : Lin) : Int := L.c + Lin.sum ρ L.l

theorem Lin.sum_ins (ρ : Env) : ∀ (l : List (SI × Int)) (t : SI) (k : Int), Lin.sum ρ (Lin.ins l t k) = Lin.sum ρ l + k * t.den ρ
  | [], t, k => by simp [Lin.ins, Lin.sum]
  | (u, j) :: l, t, k => by
    unfold Lin.ins
    cases h : SI.beq u t
    · simp only [cond_false, Lin.sum, Lin.sum_ins ρ l t k]; omega
    · have e := SI.beq_eq h
      subst e
      simp only [_root_.cond_true, Lin.sum, Int.add_mul]; omega
theorem SI.lin_den (ρ : Env) : ∀ (t : SI) (m : Int) (L : Lin), (SI.lin t m L).den ρ = L.den ρ + m * t.den ρ := by
  intro t
  induction t with
  | lit n => intro m L; simp [SI.lin, Lin.den, SI.den]; omega
  | add a b iha ihb => intro m L; simp only [SI.lin, ihb, iha, SI.den, Int.mul_add]; omega
  | sub a b iha ihb => intro m L; simp only [SI.lin, ihb, iha, SI.den, Int.mul_sub, Int.neg_mul]; omega
  | var i => intro m L; simp only [SI.lin, Lin.den, Lin.sum_ins]; omega
  | bin o k a b _ _ => intro m L; simp only [SI.lin, Lin.den, Lin.sum_ins]; omega
  | wrap k a _ => intro m L; simp only [SI.lin, Lin.den, Lin.sum_ins]; omega
  | slen i => intro m L; simp only [SI.lin, Lin.den, Lin.sum_ins]; omega
  | sbyte i x _ => intro m L; simp only [SI.lin, Lin.den, Lin.sum_ins]; omega
  | rlen i => intro m L; simp only [SI.lin, Lin.den, Lin.sum_ins]; omega
theorem Lin.sum_addAll (ρ : Env) (k : Int) : ∀ (l acc : List (SI × Int)), Lin.sum ρ (Lin.addAll k l acc) = Lin.sum ρ acc + k * Lin.sum ρ l
  | [], acc => by simp [Lin.addAll, Lin.sum]
  | (t, j) :: l, acc => by
    simp only [Lin.addAll, Lin.sum_addAll ρ k l, Lin.sum_ins, Lin.sum, Int.mul_add, Int.mul_assoc]; omega
theorem Lin.sub_den (ρ : Env) (L M : Lin) : (L.sub M).den ρ = L.den ρ - M.den ρ := by
  simp only [Lin.sub, Lin.den, Lin.sum_addAll]; omega
theorem diff_den (ρ : Env) (a b : SI) (d : Int) : (diff a b d).den ρ = a.den ρ - b.den ρ + d := by
  rw [diff, SI.lin_den, SI.lin_den]; simp only [Lin.den, Lin.sum]; omega

theorem IntKind.wrap_range (k : IntKind) (n : Int) : k.min ≤ k.wrap n ∧ k.wrap n ≤ k.max := by
  cases k <;> simp [IntKind.wrap, IntKind.min, IntKind.max, IntKind.signed, IntKind.bits] <;> (try split) <;> omega
theorem IntKind.wrap_of (k : IntKind) (n : Int) (h1 : k.min ≤ n) (h2 : n ≤ k.max) : k.wrap n = n := by
  revert h1 h2
  cases k <;> simp [IntKind.wrap, IntKind.min, IntKind.max, IntKind.signed, IntKind.bits] <;> intros <;> (try split) <;> omega

theorem intCmp_some {o : BinOp} (h : isCmp o = true) (a b : Int) : ∃ r, intCmp o a b = some r := by
  cases o <;> simp [isCmp] at h <;> exact ⟨_, rfl⟩

theorem few_ok (k : IntKind) (x : Int) (m : Nat) (h : m ≤ 63) : 0 ≤ (intBin .and k x (.ofNat m)).getD 0 ∧ (intBin .and k x (.ofNat m)).getD 0 ≤ m := by
  have h1 : (BitVec.ofInt k.bits x &&& BitVec.ofInt k.bits (.ofNat m)).toNat ≤ m := by
    rw [BitVec.toNat_and]
    refine Nat.le_trans Nat.and_le_right ?_
    have : (BitVec.ofInt k.bits (.ofNat m)).toNat = m % 2 ^ k.bits := by
      rw [BitVec.toNat_ofInt]
      show ((m : Int) % ((2 ^ k.bits : Nat) : Int)).toNat = _
      rw [← Int.natCast_emod]; rfl
    rw [this]; exact Nat.mod_le _ _
  simp only [intBin, Option.getD_some]
  generalize (BitVec.ofInt k.bits x &&& BitVec.ofInt k.bits (.ofNat m)).toNat = y at h1
  rw [IntKind.wrap_of k (y : Int) (by cases k <;> simp [IntKind.min, IntKind.signed, IntKind.bits] <;> omega) (by cases k <;> simp [IntKind.max, IntKind.signed, IntKind.bits] <;> omega)]
  omega
theorem eqOp_shr {o : BinOp} (h : eqOp o .shr = true) : o = .shr := by cases o <;> first | rfl | (exact absurd h (by decide))
theorem shr_ok (k : IntKind) (ρ : Env) {a : SI} (h : isSByte a = true) : 0 ≤ (intBin .shr k (a.den ρ) (.ofNat 6)).getD 0 ∧ (intBin .shr k (a.den ρ) (.ofNat 6)).getD 0 ≤ 3 := by
  cases a <;> simp only [isSByte] at h <;> (try (cases h; done))
  rename_i i t
  have hb := UInt8.toNat_lt (((ρ.str i)[(SI.den ρ t).toNat]?).getD 0)
  have e : (intBin .shr k (SI.den ρ (.sbyte i t)) (.ofNat 6)).getD 0 = (SI.den ρ (.sbyte i t)).fdiv 64 := by
    cases k <;> rfl
  rw [e]
  simp only [SI.den]
  generalize (((ρ.str i)[(SI.den ρ t).toNat]?).getD 0).toNat = y at hb
  rw [Int.fdiv_eq_ediv_of_nonneg _ (by omega)]
  omega
theorem eqOp_and {o : BinOp} (h : eqOp o .and = true) : o = .and := by cases o <;> first | rfl | (exact absurd h (by decide))
theorem kindLo_ok (ρ : Env) {t : SI} {x : Int} (h : kindLo t = some x) : x ≤ t.den ρ := by
  unfold kindLo at h
  split at h
  · cases h; simp only [SI.den]; exact Int.natCast_nonneg _
  · cases h; simp only [SI.den]; exact Int.natCast_nonneg _
  · cases h; simp only [SI.den]; exact Int.natCast_nonneg _
  · cases h; exact (IntKind.wrap_range _ _).1
  · rename_i o k a m
    cases hb : eqOp o .and && Nat.ble m 63
    · rw [hb] at h
      simp only [_root_.cond_false] at h
      cases hc : eqOp o .shr && m.beq 6 && isSByte a
      · rw [hc] at h; cases h
      · rw [hc] at h; cases h
        simp only [Bool.and_eq_true] at hc
        have := eqOp_shr hc.1.1; subst this
        have := Nat.eq_of_beq_eq_true hc.1.2; subst this
        exact (shr_ok k ρ hc.2).1
    · rw [hb] at h; cases h
      simp only [Bool.and_eq_true] at hb
      have := eqOp_and hb.1; subst this
      exact (few_ok k (a.den ρ) m (Nat.le_of_ble_eq_true hb.2)).1
  · cases h
theorem nzLe_ok {ρ : Env} {a b : SI} (h : ¬ a.den ρ = b.den ρ) {L : Lin} (hL : L ∈ nzLe a b) : L.den ρ ≤ 0 := by
  unfold nzLe at hL
  split at hL
  · split at hL
    · rename_i h0
      have := kindLo_ok ρ h0
      rcases List.mem_singleton.1 hL with rfl
      rw [diff_den]
      simp only [SI.den] at h ⊢
      simp only [Int.ofNat_eq_natCast] at this h
      omega
    · cases hL
  · cases hL
theorem cmpLe_ok (ρ : Env) (o : BinOp) (t : Bool) (a b : SI) (h : (intCmp o (a.den ρ) (b.den ρ)).getD false = t) : ∀ L ∈ cmpLe o t a b, L.den ρ ≤ 0 := by
  intro L hL
  cases o <;> cases t <;> simp [cmpLe, intCmp, ltInt_iff, eqInt_iff] at h hL
  case eql.false => exact nzLe_ok h hL
  case neq.true => exact nzLe_ok h hL
  all_goals (rcases hL with rfl | rfl) <;> simp only [diff_den] <;> omega

theorem Facts.lins_ok {ρ : Env} : ∀ {F : Facts}, F.ok ρ → ∀ L ∈ F.lins, L.den ρ ≤ 0
  | [], _, L, hL => by simp [Facts.lins] at hL
  | (c, t) :: F, h, L, hL => by
    simp only [Facts.lins, List.mem_append] at hL
    rcases hL with hL | hL
    · have hc : c.den ρ = t := h (c, t) (by simp)
      cases c with
      | cmp o a b => exact cmpLe_ok ρ o t a b hc L hL
      | _ => simp [factLe] at hL
    · exact Facts.lins_ok (fun f hf => h f (by simp [hf])) L hL
theorem kindHi_ok (ρ : Env) {t : SI} {x : Int} (h : kindHi t = some x) : t.den ρ ≤ x := by
  unfold kindHi at h
  split at h
  · rename_i i t
    cases h; simp only [SI.den]
    have := UInt8.toNat_lt (((ρ.str i)[(SI.den ρ t).toNat]?).getD 0)
    omega
  · cases h; exact (IntKind.wrap_range _ _).2
  · rename_i o k a m
    cases hb : eqOp o .and && Nat.ble m 63
    · rw [hb] at h
      simp only [_root_.cond_false] at h
      cases hc : eqOp o .shr && m.beq 6 && isSByte a
      · rw [hc] at h; cases h
      · rw [hc] at h; cases h
        simp only [Bool.and_eq_true] at hc
        have := eqOp_shr hc.1.1; subst this
        have := Nat.eq_of_beq_eq_true hc.1.2; subst this
        exact (shr_ok k ρ hc.2).2
    · rw [hb] at h; cases h
      simp only [Bool.and_eq_true] at hb
      have := eqOp_and hb.1; subst this
      exact (few_ok k (a.den ρ) m (Nat.le_of_ble_eq_true hb.2)).2
  · cases h
theorem minO_ok {a b : Option Int} {n x : Int} (ha : ∀ y, a = some y → n ≤ y) (hb : ∀ y, b = some y → n ≤ y) (h : minO a b = some x) : n ≤ x := by
  cases a with
  | none => cases b with
    | none => simp [minO] at h
    | some y => simp [minO] at h; subst h; exact hb _ rfl
  | some z => cases b with
    | none => simp [minO] at h; subst h; exact ha _ rfl
    | some y =>
      simp only [minO, Option.some.injEq] at h
      have h1 := ha _ rfl; have h2 := hb _ rfl
      subst h
      cases ltInt z y <;> assumption
theorem factHi_ok (ρ : Env) (t : SI) (s : Int) : ∀ (F : List Lin) (x : Int), (∀ L ∈ F, L.den ρ ≤ 0) → factHi t s F = some x → s * t.den ρ ≤ x
  | [], x, _, h => by simp [factHi] at h
  | ⟨c, l⟩ :: F, x, hF, h => by
    have hr : ∀ y, factHi t s F = some y → s * t.den ρ ≤ y := fun y hy => factHi_ok ρ t s F y (fun L hL => hF L (by simp [hL])) hy
    have hd : (Lin.mk c l).den ρ ≤ 0 := hF _ (by simp)
    unfold factHi at h
    split at h
    · rename_i u k
      cases hb : SI.beq u t && eqInt k s
      · rw [hb] at h; exact hr _ h
      · rw [hb] at h
        simp only [Bool.and_eq_true] at hb
        have e1 := SI.beq_eq hb.1
        have e2 := eqInt_eq hb.2
        subst e1 e2
        simp only [Lin.den, Lin.sum] at hd
        exact minO_ok (a := some (-c)) (by intro y hy; cases hy; omega) hr h
    · exact hr _ h
theorem termUb_ok (ρ : Env) {F : List Lin} (hF : ∀ L ∈ F, L.den ρ ≤ 0) {t : SI} {k x : Int} (h : termUb F t k = some x) : k * t.den ρ ≤ x := by
  unfold termUb at h
  cases h0 : eqInt k 0
  · rw [h0] at h
    simp only [cond_false] at h
    cases h1 : ltInt 0 k
    · rw [h1] at h
      simp only [cond_false] at h
      rw [ltInt_iff] at h1
      have h1' : ¬ (0 < k) := by simpa using h1
      split at h
      · rename_i b hb
        cases h
        have hle : -1 * t.den ρ ≤ b := by
          refine minO_ok ?_ ?_ hb
          · intro y hy
            split at hy
            · rename_i z hz; cases hy; have := kindLo_ok ρ hz; omega
            · cases hy
          · intro y hy; exact factHi_ok ρ t (-1) F y hF hy
        have : k * t.den ρ = (-k) * (-1 * t.den ρ) := by rw [← Int.mul_assoc]; congr 1; omega
        rw [this]
        exact Int.mul_le_mul_of_nonneg_left hle (by omega)
      · cases h
    · rw [h1] at h
      simp only [_root_.cond_true] at h
      rw [ltInt_iff] at h1
      have h1' : 0 < k := by simpa using h1
      split at h
      · rename_i b hb
        cases h
        have hle : 1 * t.den ρ ≤ b := by
          refine minO_ok ?_ ?_ hb
          · intro y hy; have := kindHi_ok ρ hy; omega
          · intro y hy; exact factHi_ok ρ t 1 F y hF hy
        rw [Int.one_mul] at hle
        exact Int.mul_le_mul_of_nonneg_left hle (by omega)
      · cases h
  · rw [h0] at h
    have := eqInt_eq h0
    subst this
    simp at h
    subst h
    simp
theorem ubL_ok (ρ : Env) {F : List Lin} (hF : ∀ L ∈ F, L.den ρ ≤ 0) : ∀ (l : List (SI × Int)) (acc x : Int), ubL F l acc = some x → Lin.sum ρ l + acc ≤ x
  | [], acc, x, h => by simp [ubL] at h; subst h; simp [Lin.sum]
  | (t, k) :: l, acc, x, h => by
    unfold ubL at h
    split at h
    · rename_i u hu
      have h1 := termUb_ok ρ hF hu
      have h2 := ubL_ok ρ hF l _ _ h
      simp only [Lin.sum]; omega
    · cases h
theorem ubLe_ok (ρ : Env) {F : List Lin} (hF : ∀ L ∈ F, L.den ρ ≤ 0) {L : Lin} (h : ubLe F L = true) : L.den ρ ≤ 0 := by
  unfold ubLe at h
  split at h
  · rename_i u hu
    have h1 := ubL_ok ρ hF _ _ _ hu
    rw [ltInt_iff] at h
    have h2 : ¬ 0 < u := by simpa using h
    unfold Lin.den; omega
  · cases h
theorem leAny_ok (ρ : Env) {F : List Lin} (hF : ∀ L ∈ F, L.den ρ ≤ 0) {L : Lin} : ∀ (G : List Lin), (∀ M ∈ G, M.den ρ ≤ 0) → leAny F L G = true → L.den ρ ≤ 0
  | [], _, h => by simp [leAny] at h
  | M :: r, hG, h => by
    unfold leAny at h
    cases hb : ubLe F (L.sub M)
    · rw [hb] at h; exact leAny_ok ρ hF r (fun x hx => hG x (by simp [hx])) h
    · have h1 := ubLe_ok ρ hF hb
      rw [Lin.sub_den] at h1
      have := hG M (by simp)
      omega
theorem leAny2_ok (ρ : Env) {F : List Lin} (hF : ∀ L ∈ F, L.den ρ ≤ 0) {L : Lin} : ∀ (G : List Lin), (∀ M ∈ G, M.den ρ ≤ 0) → leAny2 F L G = true → L.den ρ ≤ 0
  | [], _, h => by simp [leAny2] at h
  | M :: r, hG, h => by
    unfold leAny2 at h
    cases hb : leAny F (L.sub M) F
    · rw [hb] at h; exact leAny2_ok ρ hF r (fun x hx => hG x (by simp [hx])) h
    · have h1 := leAny_ok ρ hF F hF hb
      rw [Lin.sub_den] at h1
      have := hG M (by simp)
      omega
theorem le0_ok (ρ : Env) {F : List Lin} (hF : ∀ L ∈ F, L.den ρ ≤ 0) {L : Lin} (h : le0 F L = true) : L.den ρ ≤ 0 := by
  unfold le0 at h
  cases h1 : ubLe F L
  · rw [h1] at h
    simp only [cond_false] at h
    cases h2 : leAny F L F
    · rw [h2] at h; exact leAny2_ok ρ hF F hF h
    · exact leAny_ok ρ hF F hF h2
  · exact ubLe_ok ρ hF h1
theorem leSI_ok {ρ : Env} {F : Facts} (hF : F.ok ρ) {a b : SI} {d : Int} (h : leSI F.lins a b d = true) : a.den ρ - b.den ρ + d ≤ 0 := by
  have := le0_ok ρ (Facts.lins_ok hF) h
  rwa [diff_den] at this
theorem decCmp_ok {ρ : Env} {F : Facts} (hF : F.ok ρ) {o : BinOp} {a b : SI} {r : Bool} (h : decCmp F.lins o a b = some r) : (intCmp o (a.den ρ) (b.den ρ)).getD false = r := by
  have L := fun {a b : SI} {d : Int} (h : leSI F.lins a b d = true) => leSI_ok hF h
  cases o <;> simp only [decCmp] at h
  case eql =>
    cases h1 : leSI F.lins a b 1
    · rw [h1] at h
      cases h2 : leSI F.lins b a 1
      · rw [h2] at h
        cases h3 : leSI F.lins a b 0 <;> cases h4 : leSI F.lins b a 0 <;> rw [h3, h4] at h <;> simp at h
        have := L h3; have := L h4
        subst h
        simp [intCmp, eqInt_iff]; omega
      · rw [h2] at h; simp at h; have := L h2; subst h; simp [intCmp, eqInt_iff]; omega
    · rw [h1] at h; simp at h; have := L h1; subst h; simp [intCmp, eqInt_iff]; omega
  case neq =>
    cases h1 : leSI F.lins a b 1
    · rw [h1] at h
      cases h2 : leSI F.lins b a 1
      · rw [h2] at h
        cases h3 : leSI F.lins a b 0 <;> cases h4 : leSI F.lins b a 0 <;> rw [h3, h4] at h <;> simp at h
        have := L h3; have := L h4
        subst h
        simp [intCmp, eqInt_iff]; omega
      · rw [h2] at h; simp at h; have := L h2; subst h; simp [intCmp, eqInt_iff]; omega
    · rw [h1] at h; simp at h; have := L h1; subst h; simp [intCmp, eqInt_iff]; omega
  case lss =>
    cases h1 : leSI F.lins a b 1
    · rw [h1] at h
      cases h2 : leSI F.lins b a 0 <;> rw [h2] at h <;> simp at h
      have := L h2; subst h; simp [intCmp, ltInt_iff]; omega
    · rw [h1] at h; simp at h; have := L h1; subst h; simp [intCmp, ltInt_iff]; omega
  case leq =>
    cases h1 : leSI F.lins a b 0
    · rw [h1] at h
      cases h2 : leSI F.lins b a 1 <;> rw [h2] at h <;> simp at h
      have := L h2; subst h; simp [intCmp, ltInt_iff]; omega
    · rw [h1] at h; simp at h; have := L h1; subst h; simp [intCmp, ltInt_iff]; omega
  case gtr =>
    cases h1 : leSI F.lins b a 1
    · rw [h1] at h
      cases h2 : leSI F.lins a b 0 <;> rw [h2] at h <;> simp at h
      have := L h2; subst h; simp [intCmp, ltInt_iff]; omega
    · rw [h1] at h; simp at h; have := L h1; subst h; simp [intCmp, ltInt_iff]; omega
  case geq =>
    cases h1 : leSI F.lins b a 0
    · rw [h1] at h
      cases h2 : leSI F.lins a b 1 <;> rw [h2] at h <;> simp at h
      have := L h2; subst h; simp [intCmp, ltInt_iff]; omega
    · rw [h1] at h; simp at h; have := L h1; subst h; simp [intCmp, ltInt_iff]; omega
  all_goals cases h
theorem Facts.find_ok {ρ : Env} : ∀ {F : Facts} {c : SB} {b : Bool}, F.ok ρ → F.find c = some b → c.den ρ = b
  | [], c, b, _, h => by simp [Facts.find] at h
  | (d, e) :: F, c, b, hF, h => by
    unfold Facts.find at h
    cases hb : SB.beq d c
    · rw [hb] at h; exact Facts.find_ok (fun f hf => hF f (by simp [hf])) h
    · rw [hb] at h
      have e1 := SB.beq_eq hb
      subst e1
      simp only [_root_.cond_true, Option.some.injEq] at h
      subst h
      exact hF (d, e) (by simp)
theorem Facts.dec_ok {ρ : Env} {F : Facts} (hF : F.ok ρ) : ∀ {c : SB} {b : Bool}, F.dec c = some b → c.den ρ = b := by
  intro c
  induction c with
  | lit x => intro b h; simp [Facts.dec] at h; exact h
  | var i => intro b h; exact Facts.find_ok hF h
  | cmp o x y =>
    intro b h
    simp only [Facts.dec] at h
    cases hf : F.find (.cmp o x y) with
    | some z => rw [hf] at h; cases h; exact Facts.find_ok hF hf
    | none => rw [hf] at h; exact decCmp_ok hF h
  | seq x y => intro b h; exact Facts.find_ok hF h
  | not x ih =>
    intro b h
    simp only [Facts.dec] at h
    split at h
    · rename_i z hz; cases h; simp [SB.den, ih hz]
    · cases h
theorem test0_ok {ρ : Env} {F : Facts} (hF : F.ok ρ) {c : SB} {b : Bool} (h : test0 F c = .ok b) : c.den ρ = b := by
  unfold test0 at h
  split at h
  · rename_i z hz; cases h; exact Facts.dec_ok hF hz
  · cases h
theorem test_ok {ρ : Env} {F : Facts} (hF : F.ok ρ) : ∀ {c : SB} {b : Bool}, test F c = .ok b → c.den ρ = b
  | .not c, b, h => by
    simp only [test] at h
    cases ht : test F c with
    | ok r =>
      rw [ht] at h; cases h
      simp only [SB.den, test_ok hF ht]
    | _ => rw [ht] at h; cases h
  | .lit _, b, h => test0_ok hF (by simpa only [test] using h)
  | .var _, b, h => test0_ok hF (by simpa only [test] using h)
  | .cmp _ _ _, b, h => test0_ok hF (by simpa only [test] using h)
  | .seq _ _, b, h => test0_ok hF (by simpa only [test] using h)

/-! ints -/
theorem SI.addS_den (ρ : Env) (a b : SI) : (SI.addS a b).den ρ = a.den ρ + b.den ρ := by
  unfold SI.addS
  split
  · simp [SI.den]
  · rename_i y _; cases h : eqInt y 0
    · simp [SI.den]
    · have := eqInt_eq h; subst this; simp [SI.den]
  · rename_i x _; cases h : eqInt x 0
    · simp [SI.den]
    · have := eqInt_eq h; subst this; simp [SI.den]
  · simp [SI.den]
theorem SI.subS_den (ρ : Env) (a b : SI) : (SI.subS a b).den ρ = a.den ρ - b.den ρ := by
  unfold SI.subS
  split
  · simp [SI.den]
  · rename_i y _; cases h : eqInt y 0
    · simp [SI.den]
    · have := eqInt_eq h; subst this; simp [SI.den]
  · simp [SI.den]
theorem fits_ok {ρ : Env} {F : Facts} (hF : F.ok ρ) {k : IntKind} {t : SI} (h : fits F k t = true) : k.min ≤ t.den ρ ∧ t.den ρ ≤ k.max := by
  unfold fits at h
  simp only [Bool.and_eq_true] at h
  have h1 := leSI_ok hF h.1
  have h2 := leSI_ok hF h.2
  simp only [SI.den] at h1 h2
  omega
theorem SI.wrapS_den {ρ : Env} {F : Facts} (hF : F.ok ρ) (k : IntKind) (t : SI) : (SI.wrapS F k t).den ρ = k.wrap (t.den ρ) := by
  unfold SI.wrapS
  split
  · rfl
  · cases h : fits F k t
    · rfl
    · have := fits_ok hF h
      exact (IntKind.wrap_of k _ this.1 this.2).symm
theorem nonNeg_ok (ρ : Env) {b : SI} (h : nonNeg b = true) : ltInt (b.den ρ) 0 = false := by
  have key : ∀ n : Int, ltInt n 0 = false ↔ 0 ≤ n := by
    intro n
    rw [ltInt_iff]; simp
  unfold nonNeg at h
  split at h
  · simpa [SI.den] using h
  · split at h
    · rename_i z hz
      have h1 := kindLo_ok ρ hz
      have h2 := (key z).1 (by simpa using h)
      exact (key _).2 (by omega)
    · cases h
theorem intOp_den {ρ : Env} {F : Facts} (hF : F.ok ρ) {o : BinOp} {k : IntKind} {a b r : SI} (h : intOp F o k a b = some r) :
    intBin o k (a.den ρ) (b.den ρ) = some (r.den ρ) := by
  unfold intOp at h
  split at h
  · split at h
    · rename_i z hz; cases h; exact hz
    · cases h
  · unfold symOp at h
    split at h
    · cases h; rw [SI.wrapS_den hF, SI.addS_den]; rfl
    · cases h; rw [SI.wrapS_den hF, SI.subS_den]; rfl
    · cases hs : opSafe o b
      · rw [hs] at h; cases h
      · rw [hs] at h
        cases h
        have : ∃ z, intBin o k (a.den ρ) (b.den ρ) = some z := by
          unfold opSafe at hs
          split at hs
          all_goals first | (have := nonNeg_ok ρ hs; simp [intBin, this]; done) | (simp at hs; simp [intBin, SI.den, hs]; done) | (simp at hs; done)
        obtain ⟨z, hz⟩ := this
        simp [SI.den, hz]
theorem SB.cmpS_den (ρ : Env) (o : BinOp) (a b : SI) : (SB.cmpS o a b).den ρ = (intCmp o (a.den ρ) (b.den ρ)).getD false := by
  unfold SB.cmpS
  split
  · split
    · rename_i r hr; simp [SB.den, SI.den, hr]
    · rfl
  · rfl
theorem SB.notS_den (ρ : Env) (b : SB) : (SB.notS b).den ρ = !(b.den ρ) := by
  unfold SB.notS
  split <;> simp [SB.den]

/-! strings -/
theorem SS.len_den (ρ : Env) : ∀ s : SS, (SS.len s).den ρ = (SS.den ρ s).length
  | [] => rfl
  | .lit bs :: r => by simp only [SS.len, SI.addS_den, SS.len_den ρ r, SI.den, SS.den, SP.den, List.length_append]; simp
  | .var i :: r => by simp only [SS.len, SI.addS_den, SS.len_den ρ r, SI.den, SS.den, SP.den, List.length_append]; simp
  | .chr n :: r => by simp only [SS.len, SI.addS_den, SS.len_den ρ r, SI.den, SS.den, SP.den, List.length_append]; simp
theorem SS.cons_den (ρ : Env) (p : SP) (r : SS) : SS.den ρ (SS.cons p r) = p.den ρ ++ SS.den ρ r := by
  unfold SS.cons
  split
  · simp [SP.den]
  · split
    · simp [SS.den, SP.den]
    · simp [SS.den, SP.den]
  · rfl
theorem SS.app_den (ρ : Env) : ∀ (a b : SS), SS.den ρ (SS.app a b) = SS.den ρ a ++ SS.den ρ b
  | [], b => by simp [SS.app, SS.den]
  | [p], b => by simp [SS.app, SS.cons_den, SS.den]
  | p :: q :: x, b => by
    have := SS.app_den ρ (q :: x) b
    simp only [SS.app, SS.den, List.append_assoc] at this ⊢
    rw [this]
theorem SS.ofBytes_den (ρ : Env) (bs : List UInt8) : SS.den ρ (SP.ofBytes bs) = bs := by
  cases bs <;> simp [SP.ofBytes, SS.den, SP.den]
theorem SS.nth_den {ρ : Env} {F : Facts} (hF : F.ok ρ) : ∀ (s : SS) (i : Nat) (x : SI), SS.nth F s i = some x → ∃ b : UInt8, (SS.den ρ s)[i]? = some b ∧ x.den ρ = b.toNat
  | [], i, x, h => by simp [SS.nth] at h
  | .lit bs :: r, i, x, h => by
    unfold SS.nth at h
    split at h
    · rename_i b hb
      cases h
      refine ⟨b, ?_, rfl⟩
      have hlt : i < bs.length := by
        rcases Nat.lt_or_ge i bs.length with h | h
        · exact h
        · rw [List.getElem?_eq_none h] at hb; cases hb
      simp only [SS.den, SP.den]
      rw [List.getElem?_append_left hlt]; exact hb
    · rename_i hn
      obtain ⟨b, h1, h2⟩ := SS.nth_den hF r _ _ h
      refine ⟨b, ?_, h2⟩
      have hge : bs.length ≤ i := by simpa using hn
      simp only [SS.den, SP.den]
      rw [List.getElem?_append_right hge]; exact h1
  | .chr n :: r, i, x, h => by
    unfold SS.nth at h
    cases h0 : i.beq 0
    · rw [h0] at h
      obtain ⟨b, h1, h2⟩ := SS.nth_den hF r _ _ h
      refine ⟨b, ?_, h2⟩
      have hne : i ≠ 0 := fun e => by rw [nbeq_true e] at h0; cases h0
      obtain ⟨j, rfl⟩ : ∃ j, i = j + 1 := ⟨i - 1, by omega⟩
      simpa [SS.den, SP.den] using h1
    · have := beq_nat h0
      subst this
      rw [h0] at h
      cases hf : fits F .u8 n
      · rw [hf] at h; cases h
      · rw [hf] at h
        cases h
        have := fits_ok hF hf
        simp [IntKind.min, IntKind.max, IntKind.signed, IntKind.bits] at this
        refine ⟨UInt8.ofNat (n.den ρ).toNat, by simp [SS.den, SP.den], ?_⟩
        rw [UInt8.toNat_ofNat']
        omega
  | .var v :: r, i, x, h => by
    simp only [SS.nth] at h
    cases hb : leSI F.lins (.lit (Int.ofNat (Nat.succ i))) (.slen v) 0
    · rw [hb] at h; cases h
    · rw [hb] at h; cases h
      have h1 := leSI_ok hF hb
      simp only [SI.den, Int.ofNat_eq_natCast] at h1
      have hlt : i < (ρ.str v).length := by omega
      refine ⟨(ρ.str v)[i], ?_, ?_⟩
      · simp only [SS.den, SP.den]
        rw [List.getElem?_append_left hlt, List.getElem?_eq_getElem hlt]
      · simp [SI.den, List.getElem?_eq_getElem hlt]
theorem SS.drop_den (ρ : Env) : ∀ (s : SS) (n : Nat) (t : SS), SS.drop s n = some t → SS.den ρ t = (SS.den ρ s).drop n ∧ n ≤ (SS.den ρ s).length
  | s, 0, t, h => by
    have : SS.drop s 0 = some s := by cases s <;> rfl
    rw [this] at h; cases h; simp
  | [], n + 1, t, h => by simp [SS.drop] at h
  | .lit bs :: r, n + 1, t, h => by
    unfold SS.drop at h
    cases hb : Nat.blt (n + 1) bs.length
    · rw [hb] at h
      obtain ⟨h1, h2⟩ := SS.drop_den ρ r _ _ h
      have hge : bs.length ≤ n + 1 := by
        have : ¬ (n + 1 < bs.length) := fun c => by rw [← Nat.blt_eq, hb] at c; cases c
        omega
      refine ⟨?_, ?_⟩
      · rw [h1]; simp only [SS.den, SP.den]; rw [List.drop_append, List.drop_of_length_le hge]; simp
      · simp only [SS.den, SP.den, List.length_append]; omega
    · rw [hb] at h
      cases h
      have hlt : n + 1 < bs.length := by rw [Nat.blt_eq] at hb; exact hb
      refine ⟨?_, ?_⟩
      · simp only [SS.den, SP.den]; rw [List.drop_append, show n + 1 - bs.length = 0 by omega]; simp
      · simp only [SS.den, SP.den, List.length_append]; omega
  | .chr c :: r, n + 1, t, h => by
    unfold SS.drop at h
    obtain ⟨h1, h2⟩ := SS.drop_den ρ r _ _ h
    refine ⟨?_, ?_⟩
    · rw [h1]; simp [SS.den, SP.den]
    · simp [SS.den, SP.den]; omega
  | .var _ :: _, n + 1, _, h => by simp [SS.drop] at h
theorem SS.take_den (ρ : Env) : ∀ (s : SS) (n : Nat) (t : SS), SS.take s n = some t → SS.den ρ t = (SS.den ρ s).take n ∧ n ≤ (SS.den ρ s).length
  | s, 0, t, h => by
    have : SS.take s 0 = some [] := by cases s <;> rfl
    rw [this] at h; cases h; simp [SS.den]
  | [], n + 1, t, h => by simp [SS.take] at h
  | .lit bs :: r, n + 1, t, h => by
    unfold SS.take at h
    cases hb : Nat.ble (n + 1) bs.length
    · rw [hb] at h
      simp only [cond_false] at h
      split at h
      · rename_i u hu
        cases h
        obtain ⟨h1, h2⟩ := SS.take_den ρ r _ _ hu
        have hge : bs.length ≤ n + 1 := by
          have : ¬ (n + 1 ≤ bs.length) := fun c => by rw [← Nat.ble_eq, hb] at c; cases c
          omega
        refine ⟨?_, ?_⟩
        · simp only [SS.den, SP.den]; rw [h1, List.take_append, List.take_of_length_le hge]
        · simp only [SS.den, SP.den, List.length_append]; omega
      · cases h
    · rw [hb] at h
      cases h
      have hle : n + 1 ≤ bs.length := by rw [Nat.ble_eq] at hb; exact hb
      refine ⟨?_, ?_⟩
      · simp only [SS.den, SP.den]; rw [List.take_append, show n + 1 - bs.length = 0 by omega]; simp
      · simp only [SS.den, SP.den, List.length_append]; omega
  | .chr c :: r, n + 1, t, h => by
    unfold SS.take at h
    split at h
    · rename_i u hu
      cases h
      obtain ⟨h1, h2⟩ := SS.take_den ρ r _ _ hu
      refine ⟨?_, ?_⟩
      · simp [SS.den, SP.den, h1]
      · simp [SS.den, SP.den]; omega
    · cases h
  | .var _ :: _, n + 1, _, h => by simp [SS.take] at h
theorem SS.toLit_den (ρ : Env) {s : SS} {bs : List UInt8} (h : SS.toLit s = some bs) : SS.den ρ s = bs := by
  unfold SS.toLit at h
  split at h
  · cases h; rfl
  · cases h; simp [SS.den, SP.den]
  · cases h
theorem SB.seqS_den (ρ : Env) (a b : SS) : (SB.seqS a b).den ρ = decide (SS.den ρ a = SS.den ρ b) := by
  unfold SB.seqS
  split
  · rename_i x y hx hy
    rw [SS.toLit_den ρ hx, SS.toLit_den ρ hy]
    simp [SB.den, eqBytes_iff]
  · rename_i hy _
    rw [SB.cmpS_den, SS.len_den, SS.toLit_den ρ hy]
    rw [Bool.eq_iff_iff]
    simp [intCmp, eqInt_iff, SI.den]
  · rename_i hx _
    rw [SB.cmpS_den, SS.len_den, SS.toLit_den ρ hx]
    rw [Bool.eq_iff_iff]
    simp [intCmp, eqInt_iff, SI.den]
  · cases h : SS.beq a b
    · simp [SB.den]
    · have := SS.beq_eq h; subst this; simp [SB.den]
/-! places that are forms -/
theorem Lin.zeros_den (ρ : Env) : ∀ {l : List (SI × Int)}, Lin.zeros l = true → Lin.sum ρ l = 0
  | [], _ => rfl
  | (t, k) :: l, h => by
    simp only [Lin.zeros] at h
    cases hk : eqInt k 0
    · rw [hk] at h; cases h
    · rw [hk] at h
      have := eqInt_eq hk
      subst this
      simp [Lin.sum, Lin.zeros_den ρ h]
theorem constOf_den (ρ : Env) {t : SI} {c : Int} (h : constOf t = some c) : t.den ρ = c := by
  unfold constOf at h
  have hl := SI.lin_den ρ t 1 ⟨0, []⟩
  split at h
  rename_i c' l he
  cases hz : Lin.zeros l
  · rw [hz] at h; cases h
  · rw [hz] at h; cases h
    rw [he] at hl
    simp only [Lin.den, Lin.zeros_den ρ hz, Lin.sum] at hl
    omega
theorem sameSI_den {ρ : Env} {a b : SI} (h : sameSI a b = true) : a.den ρ = b.den ρ := by
  unfold sameSI at h
  split at h
  · rename_i c hc
    have h1 := constOf_den ρ hc
    have h2 := eqInt_eq h
    simp only [SI.den] at h1
    omega
  · cases h
theorem SP.len_den (ρ : Env) (p : SP) : p.len.den ρ = (p.den ρ).length := by cases p <;> simp [SP.len, SP.den, SI.den]
theorem charsOf_den (ρ : Env) (i : Nat) : ∀ (n k : Nat), k + n ≤ (ρ.str i).length → SS.den ρ (charsOf i k n) = ((ρ.str i).drop k).take n
  | 0, k, _ => by simp [charsOf, SS.den]
  | n + 1, k, h => by
    have hlt : k < (ρ.str i).length := by omega
    have e : (ρ.str i).drop k = (ρ.str i)[k] :: (ρ.str i).drop (k + 1) := List.drop_eq_getElem_cons hlt
    rw [charsOf, SS.den, charsOf_den ρ i n (k + 1) (by omega), e, List.take_succ_cons]
    simp only [SP.den, SI.den, Int.ofNat_eq_natCast, Int.toNat_natCast, List.getElem?_eq_getElem hlt, Option.getD_some, List.cons_append, List.nil_append, UInt8.ofNat_toNat]
theorem SS.takeN_den {ρ : Env} {F : Facts} (hF : F.ok ρ) : ∀ (s : SS) (n : Nat) (t : SS), SS.takeN F s n = some t → SS.den ρ t = (SS.den ρ s).take n ∧ n ≤ (SS.den ρ s).length
  | s, 0, t, h => by
    have : SS.takeN F s 0 = some [] := by cases s <;> rfl
    rw [this] at h; cases h; simp [SS.den]
  | [], n + 1, t, h => by simp [SS.takeN] at h
  | .lit bs :: r, n + 1, t, h => by
    unfold SS.takeN at h
    cases hb : Nat.ble (n + 1) bs.length
    · rw [hb] at h
      simp only [cond_false] at h
      split at h
      · rename_i u hu
        cases h
        obtain ⟨h1, h2⟩ := SS.takeN_den hF r _ _ hu
        have hge : bs.length ≤ n + 1 := by
          have : ¬ (n + 1 ≤ bs.length) := fun c => by rw [← Nat.ble_eq, hb] at c; cases c
          omega
        refine ⟨?_, ?_⟩
        · simp only [SS.den, SP.den]; rw [h1, List.take_append, List.take_of_length_le hge]
        · simp only [SS.den, SP.den, List.length_append]; omega
      · cases h
    · rw [hb] at h
      cases h
      have hle : n + 1 ≤ bs.length := by rw [Nat.ble_eq] at hb; exact hb
      refine ⟨?_, ?_⟩
      · simp only [SS.den, SP.den]; rw [List.take_append, show n + 1 - bs.length = 0 by omega]; simp
      · simp only [SS.den, SP.den, List.length_append]; omega
  | .chr c :: r, n + 1, t, h => by
    unfold SS.takeN at h
    split at h
    · rename_i u hu
      cases h
      obtain ⟨h1, h2⟩ := SS.takeN_den hF r _ _ hu
      refine ⟨?_, ?_⟩
      · simp only [SS.den, SP.den, h1]; rfl
      · simp only [SS.den, SP.den, List.length_append, List.length_cons, List.length_nil]; omega
    · cases h
  | .var i :: r, n + 1, t, h => by
    unfold SS.takeN at h
    cases hb : Nat.ble n 8 && leSI F.lins (.lit (Int.ofNat (n + 1))) (.slen i) 0
    · rw [hb] at h; cases h
    · rw [hb] at h; cases h
      simp only [Bool.and_eq_true] at hb
      have h1 := leSI_ok hF hb.2
      simp only [SI.den, Int.ofNat_eq_natCast] at h1
      have hle : n + 1 ≤ (ρ.str i).length := by omega
      refine ⟨?_, ?_⟩
      · rw [charsOf_den ρ i _ _ (by omega)]
        simp only [SS.den, SP.den, List.drop_zero]
        rw [List.take_append, show n + 1 - (ρ.str i).length = 0 by omega]; simp
      · simp only [SS.den, SP.den, List.length_append]; omega
theorem SS.takeS_den {ρ : Env} {F : Facts} (hF : F.ok ρ) : ∀ (s : SS) (hh : SI) (t : SS), SS.takeS F s hh = some t → 0 ≤ hh.den ρ ∧ SS.den ρ t = (SS.den ρ s).take (hh.den ρ).toNat ∧ hh.den ρ ≤ (SS.den ρ s).length
  | [], hh, t, h => by
    simp only [SS.takeS] at h
    split at h
    · rename_i c hc
      have := constOf_den ρ hc
      obtain ⟨h1, h2⟩ := SS.takeN_den hF _ _ _ h
      rw [this]
      exact ⟨Int.natCast_nonneg _, by simpa using h1, by simpa using h2⟩
    · cases h
  | p :: r, hh, t, h => by
    simp only [SS.takeS] at h
    split at h
    · rename_i c hc
      have := constOf_den ρ hc
      obtain ⟨h1, h2⟩ := SS.takeN_den hF _ _ _ h
      rw [this]
      exact ⟨Int.natCast_nonneg _, by simpa using h1, by simp only [Int.ofNat_eq_natCast]; omega⟩
    · cases h
    · split at h
      · rename_i u hu
        cases h
        obtain ⟨h1, h2, h3⟩ := SS.takeS_den hF r _ _ hu
        simp only [SI.den, SP.len_den] at h1 h2 h3
        refine ⟨by omega, ?_, ?_⟩
        · have e1 : List.take (hh.den ρ).toNat (p.den ρ) = p.den ρ := List.take_of_length_le (by omega)
          simp only [SS.den, h2]
          rw [List.take_append, e1, show (hh.den ρ).toNat - (p.den ρ).length = (hh.den ρ - (p.den ρ).length).toNat by omega]
        · simp only [SS.den, List.length_append]; omega
      · cases h
theorem SS.dropS_den (ρ : Env) : ∀ (s : SS) (hh : SI) (t : SS), SS.dropS s hh = some t → 0 ≤ hh.den ρ ∧ SS.den ρ t = (SS.den ρ s).drop (hh.den ρ).toNat ∧ hh.den ρ ≤ (SS.den ρ s).length
  | [], hh, t, h => by
    simp only [SS.dropS] at h
    split at h
    · rename_i c hc
      have := constOf_den ρ hc
      obtain ⟨h1, h2⟩ := SS.drop_den ρ _ _ _ h
      rw [this]
      exact ⟨Int.natCast_nonneg _, by simpa using h1, by simpa using h2⟩
    · cases h
  | p :: r, hh, t, h => by
    simp only [SS.dropS] at h
    split at h
    · rename_i c hc
      have := constOf_den ρ hc
      obtain ⟨h1, h2⟩ := SS.drop_den ρ _ _ _ h
      rw [this]
      exact ⟨Int.natCast_nonneg _, by simpa using h1, by simp only [Int.ofNat_eq_natCast]; omega⟩
    · cases h
    · obtain ⟨h1, h2, h3⟩ := SS.dropS_den ρ r _ _ h
      simp only [SI.den, SP.len_den] at h1 h2 h3
      refine ⟨by omega, ?_, ?_⟩
      · have e1 : List.drop (hh.den ρ).toNat (p.den ρ) = [] := List.drop_of_length_le (by omega)
        rw [h2]
        simp only [SS.den]
        rw [List.drop_append, e1, show (hh.den ρ).toNat - (p.den ρ).length = (hh.den ρ - (p.den ρ).length).toNat by omega]
        rfl
      · simp only [SS.den, List.length_append]; omega
/-- what single bytes are -/
def bytesDen (ρ : Env) (l : List SI) : List UInt8 := l.map fun n => UInt8.ofNat (n.den ρ).toNat
def Bytes (ρ : Env) (l : List SI) : Prop := ∀ n ∈ l, 0 ≤ n.den ρ ∧ n.den ρ ≤ 255
theorem litBytes_den (ρ : Env) : ∀ (bs : List UInt8) (l : List SI), bytesDen ρ (litBytes bs l) = bs ++ bytesDen ρ l ∧ (Bytes ρ l → Bytes ρ (litBytes bs l))
  | [], l => ⟨rfl, id⟩
  | b :: bs, l => by
    obtain ⟨h1, h2⟩ := litBytes_den ρ bs l
    refine ⟨?_, fun h n hn => ?_⟩
    · simp only [litBytes, bytesDen, List.map_cons, List.cons_append] at h1 ⊢
      rw [h1]; simp [SI.den]
    · rcases List.mem_cons.1 hn with rfl | hn
      · have := UInt8.toNat_lt b
        simp [SI.den]; omega
      · exact h2 h n hn
theorem SS.flat_den {ρ : Env} {F : Facts} (hF : F.ok ρ) : ∀ (s : SS) (l : List SI), SS.flat F s = some l → SS.den ρ s = bytesDen ρ l ∧ Bytes ρ l
  | [], l, h => by simp only [SS.flat, Option.some.injEq] at h; subst h; exact ⟨rfl, fun n hn => by cases hn⟩
  | .lit bs :: r, l, h => by
    simp only [SS.flat] at h
    split at h
    · rename_i m hm
      cases h
      obtain ⟨h1, h2⟩ := SS.flat_den hF r m hm
      obtain ⟨h3, h4⟩ := litBytes_den ρ bs m
      exact ⟨by simp only [SS.den, SP.den, h1, h3], h4 h2⟩
    · cases h
  | .chr n :: r, l, h => by
    simp only [SS.flat] at h
    cases hf : fits F .u8 n
    · rw [hf] at h; cases h
    · rw [hf] at h
      simp only [_root_.cond_true] at h
      split at h
      · rename_i m hm
        cases h
        obtain ⟨h1, h2⟩ := SS.flat_den hF r m hm
        have hr := fits_ok hF hf
        simp [IntKind.min, IntKind.max, IntKind.signed, IntKind.bits] at hr
        refine ⟨by simp only [SS.den, SP.den, h1]; rfl, fun x hx => ?_⟩
        rcases List.mem_cons.1 hx with rfl | hx
        · omega
        · exact h2 x hx
      · cases h
  | .var _ :: _, l, h => by simp [SS.flat] at h
theorem u8_inj {a b : Int} (ha : 0 ≤ a ∧ a ≤ 255) (hb : 0 ≤ b ∧ b ≤ 255) : UInt8.ofNat a.toNat = UInt8.ofNat b.toNat ↔ a = b := by
  rw [← UInt8.toNat_inj]
  simp
  omega
theorem test_eql {ρ : Env} {F : Facts} (hF : F.ok ρ) {x y : SI} {t : Bool} (h : test F (SB.cmpS .eql x y) = .ok t) : t = decide (x.den ρ = y.den ρ) := by
  have := test_ok hF h
  rw [SB.cmpS_den] at this
  simp [intCmp, eqInt_iff] at this
  rw [← this]
theorem eqFlat_den {ρ : Env} {F : Facts} (hF : F.ok ρ) : ∀ (xs ys : List SI) (r : Bool), Bytes ρ xs → Bytes ρ ys → eqFlat F xs ys = .ok r → r = decide (bytesDen ρ xs = bytesDen ρ ys)
  | [], [], r, _, _, h => by simp only [eqFlat] at h; cases h; rfl
  | x :: xs, y :: ys, r, hx, hy, h => by
    simp only [eqFlat] at h
    cases ht : test F (SB.cmpS .eql x y) with
    | ok t =>
      rw [ht] at h
      have := test_eql hF ht
      have hu := u8_inj (hx x List.mem_cons_self) (hy y List.mem_cons_self)
      cases t with
      | true =>
        have ih := eqFlat_den hF xs ys r (fun n hn => hx n (List.mem_cons_of_mem _ hn)) (fun n hn => hy n (List.mem_cons_of_mem _ hn)) h
        have e : x.den ρ = y.den ρ := by simpa using this
        rw [ih]; exact decide_eq_decide.2 (by simp [bytesDen, e])
      | false =>
        have e : ¬ x.den ρ = y.den ρ := by simpa using this
        cases h
        have : ¬ UInt8.ofNat (x.den ρ).toNat = UInt8.ofNat (y.den ρ).toNat := fun c => e (hu.1 c)
        simp [bytesDen, this]
    | _ => rw [ht] at h; cases h
  | [], y :: ys, r, _, _, h => by simp only [eqFlat] at h; cases h; simp [bytesDen]
  | x :: xs, [], r, _, _, h => by simp only [eqFlat] at h; cases h; simp [bytesDen]
theorem headNe_den {ρ : Env} {F : Facts} (hF : F.ok ρ) {a b : SS} (h : headNe F a b = true) : SS.den ρ a ≠ SS.den ρ b := by
  unfold headNe at h
  split at h
  · rename_i x y hx hy
    obtain ⟨p, h1, h2⟩ := SS.nth_den hF _ _ _ hx
    obtain ⟨q, h3, h4⟩ := SS.nth_den hF _ _ _ hy
    split at h
    · rename_i hd
      have := decCmp_ok hF hd
      simp [intCmp, eqInt_iff] at this
      intro e
      rw [e] at h1
      rw [h1] at h3; cases h3
      exact this (by rw [h2, h4])
    · cases h
  · cases h
theorem strEq_den {ρ : Env} {F : Facts} (hF : F.ok ρ) {a b : SS} {r : SB} (h : strEq F a b = .ok r) : r.den ρ = decide (SS.den ρ a = SS.den ρ b) := by
  unfold strEq at h
  split at h
  · rename_i r' hr
    cases h
    rw [← hr, SB.seqS_den]
  · unfold strEq2 at h
    split at h
    · rename_i xs ys hx hy
      obtain ⟨h1, h2⟩ := SS.flat_den hF _ _ hx
      obtain ⟨h3, h4⟩ := SS.flat_den hF _ _ hy
      cases he : eqFlat F xs ys with
      | ok t =>
        rw [he] at h; cases h
        rw [h1, h3]; exact eqFlat_den hF xs ys t h2 h4 he
      | _ => rw [he] at h; cases h
    · cases hn : headNe F a b
      · rw [hn] at h; cases h; rw [SB.seqS_den]
      · rw [hn] at h; cases h
        simp [SB.den, headNe_den hF hn]
end Go.Sx
