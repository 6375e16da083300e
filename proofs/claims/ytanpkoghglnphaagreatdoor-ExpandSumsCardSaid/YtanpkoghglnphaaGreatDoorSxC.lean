import Derived.Test.YtanpkoghglnphaaGreatDoorSxB
import Derived.Calls
import Derived.Defers
import Derived.Recover
import Derived.Laws.Sem
import Derived.Laws.World
import Derived.Laws.Cells
import Derived.Laws.Append
import Derived.Laws.AppendOwn
import Derived.Laws.Slices
import Derived.Lib.FrozenHead
import Derived.Laws.Entries
namespace Go.Sx

/-- where an abstract block lies: the block, the cell where it begins, and how many cells there are from it on -/
structure Loc where
  blk : Nat
  base : Nat
  n : Nat
abbrev Pl := Nat → Option Loc

def fnRel (φ : Pl) : Fn → Fn → Prop
  | .yield l, g => ∃ L, φ l = some L ∧ g = .yield L.blk
  | f, g => g = f
def Cap.val (L : Loc) (off len : Nat) : Cap → Nat
  | .known n => n
  | .rest z => (L.n - off) / z
  | .full => len
mutual
def VR (ρ : Env) (φ : Pl) : AV → Value → Prop
  | .bool b, v => v = .bool (b.den ρ)
  | .int k n, v => v = .int k (n.den ρ)
  | .str s, v => v = .string ⟨⟨SS.den ρ s⟩⟩
  | .ptr id off, v => ∃ L, φ id = some L ∧ v = .pointer (some ⟨L.blk, L.base + off, none⟩)
  | .nilPtr, v => v = .pointer none
  | .slice id off len cap, v => ∃ L, φ id = some L ∧ 0 ≤ len.den ρ ∧ (len.den ρ).toNat ≤ cap.val L off (len.den ρ).toNat ∧
      v = .slice (some ⟨L.blk, L.base + off, none⟩) (len.den ρ).toNat (cap.val L off (len.den ρ).toNat)
  | .eslice id z, v => ∃ L o c, φ id = some L ∧ L.base ≤ o ∧ o + c * z ≤ L.base + L.n ∧ v = .slice (some ⟨L.blk, o, none⟩) 0 c
  | .nilSlice, v => v = .slice none 0 0
  | .func fn a b, v => ∃ g x y, v = .func g ⟨x⟩ ⟨y⟩ ∧ fnRel φ fn g ∧ VRs ρ φ a x ∧ VRs ρ φ b y
  | .nilFunc, v => v = .nilFunc
  | .iface t a, v => ∃ x, v = .iface t x ∧ VR ρ φ a x
  | .nilIface, v => v = .nilIface
  | .agg cs, v => ∃ x, v = .agg ⟨x⟩ ∧ VRs ρ φ cs x
  | .tup cs, v => ∃ x, v = .tuple ⟨x⟩ ∧ VRs ρ φ cs x
  | .nilMap, v => v = .map none
  | .iptr id z i off, v => ∃ L, φ id = some L ∧ 0 ≤ i.den ρ ∧ v = .pointer (some ⟨L.blk, L.base + (off + (i.den ρ).toNat * z), none⟩)
def VRs (ρ : Env) (φ : Pl) : List AV → List Value → Prop
  | [], [] => True
  | a :: as, v :: vs => VR ρ φ a v ∧ VRs ρ φ as vs
  | _, _ => False
end

/-- more places are known -/
def Pl.le (φ ψ : Pl) : Prop := ∀ i L, φ i = some L → ψ i = some L
theorem Pl.le_refl (φ : Pl) : φ.le φ := fun _ _ h => h
theorem Pl.le_trans {a b c : Pl} (h : a.le b) (h' : b.le c) : a.le c := fun i L x => h' i L (h i L x)
theorem fnRel.mono {φ ψ : Pl} (h : φ.le ψ) : ∀ {f g : Fn}, fnRel φ f g → fnRel ψ f g := by
  intro f g hr
  cases f with
  | yield l => obtain ⟨L, h1, h2⟩ := hr; exact ⟨L, h _ _ h1, h2⟩
  | _ => exact hr
mutual
theorem VR.mono {ρ : Env} {φ ψ : Pl} (h : φ.le ψ) : ∀ (a : AV) (v : Value), VR ρ φ a v → VR ρ ψ a v
  | .bool _, _, hv => by simpa only [VR] using hv
  | .int _ _, _, hv => by simpa only [VR] using hv
  | .str _, _, hv => by simpa only [VR] using hv
  | .nilPtr, _, hv => by simpa only [VR] using hv
  | .nilSlice, _, hv => by simpa only [VR] using hv
  | .nilFunc, _, hv => by simpa only [VR] using hv
  | .nilIface, _, hv => by simpa only [VR] using hv
  | .nilMap, _, hv => by simpa only [VR] using hv
  | .ptr id off, v, hv => by simp only [VR] at hv ⊢; obtain ⟨L, h1, h2⟩ := hv; exact ⟨L, h _ _ h1, h2⟩
  | .iptr id z i off, v, hv => by simp only [VR] at hv ⊢; obtain ⟨L, h1, h2⟩ := hv; exact ⟨L, h _ _ h1, h2⟩
  | .slice id off len cap, v, hv => by simp only [VR] at hv ⊢; obtain ⟨L, h1, h2⟩ := hv; exact ⟨L, h _ _ h1, h2⟩
  | .eslice id z, v, hv => by simp only [VR] at hv ⊢; obtain ⟨L, o, c, h1, h2⟩ := hv; exact ⟨L, o, c, h _ _ h1, h2⟩
  | .func fn a b, v, hv => by
    simp only [VR] at hv ⊢
    obtain ⟨g, x, y, h1, h2, h3, h4⟩ := hv
    exact ⟨g, x, y, h1, h2.mono h, VRs.mono h _ _ h3, VRs.mono h _ _ h4⟩
  | .iface t a, v, hv => by simp only [VR] at hv ⊢; obtain ⟨x, h1, h2⟩ := hv; exact ⟨x, h1, VR.mono h _ _ h2⟩
  | .agg cs, v, hv => by simp only [VR] at hv ⊢; obtain ⟨x, h1, h2⟩ := hv; exact ⟨x, h1, VRs.mono h _ _ h2⟩
  | .tup cs, v, hv => by simp only [VR] at hv ⊢; obtain ⟨x, h1, h2⟩ := hv; exact ⟨x, h1, VRs.mono h _ _ h2⟩
theorem VRs.mono {ρ : Env} {φ ψ : Pl} (h : φ.le ψ) : ∀ (a : List AV) (v : List Value), VRs ρ φ a v → VRs ρ ψ a v
  | [], [], _ => by simp only [VRs]
  | a :: as, v :: vs, hv => by simp only [VRs] at hv ⊢; exact ⟨VR.mono h _ _ hv.1, VRs.mono h _ _ hv.2⟩
  | [], _ :: _, hv => by simp only [VRs] at hv
  | _ :: _, [], hv => by simp only [VRs] at hv
end

section lists
variable {ρ : Env} {φ : Pl}
theorem VRs.nil : VRs ρ φ [] [] := by simp only [VRs]
theorem VRs.cons {a : AV} {v : Value} {as : List AV} {vs : List Value} (h : VR ρ φ a v) (h' : VRs ρ φ as vs) : VRs ρ φ (a :: as) (v :: vs) := by simp only [VRs]; exact ⟨h, h'⟩
theorem VRs.length : ∀ {a : List AV} {v : List Value}, VRs ρ φ a v → a.length = v.length
  | [], [], _ => rfl
  | a :: as, v :: vs, h => by simp only [VRs] at h; simp [VRs.length h.2]
  | [], _ :: _, h => by simp only [VRs] at h
  | _ :: _, [], h => by simp only [VRs] at h
theorem VRs.nil_left {v : List Value} (h : VRs ρ φ [] v) : v = [] := by
  cases v with
  | nil => rfl
  | cons _ _ => simp only [VRs] at h
theorem VRs.cons_left {a : AV} {as : List AV} {v : List Value} (h : VRs ρ φ (a :: as) v) : ∃ x xs, v = x :: xs ∧ VR ρ φ a x ∧ VRs ρ φ as xs := by
  cases v with
  | nil => simp only [VRs] at h
  | cons x xs => simp only [VRs] at h; exact ⟨x, xs, rfl, h.1, h.2⟩
theorem VRs.append : ∀ {a : List AV} {v : List Value} {b : List AV} {w : List Value}, VRs ρ φ a v → VRs ρ φ b w → VRs ρ φ (a ++ b) (v ++ w)
  | [], [], b, w, _, h' => by simpa using h'
  | a :: as, v :: vs, b, w, h, h' => by simp only [VRs] at h; simp only [List.cons_append]; exact VRs.cons h.1 (VRs.append h.2 h')
  | [], _ :: _, _, _, h, _ => by simp only [VRs] at h
  | _ :: _, [], _, _, h, _ => by simp only [VRs] at h
theorem VRs.drop : ∀ (n : Nat) {a : List AV} {v : List Value}, VRs ρ φ a v → VRs ρ φ (a.drop n) (v.drop n)
  | 0, a, v, h => by simpa using h
  | n + 1, [], v, h => by have := VRs.nil_left h; subst this; simpa using h
  | n + 1, a :: as, v, h => by obtain ⟨x, xs, rfl, _, h2⟩ := VRs.cons_left h; simpa using VRs.drop n h2
theorem VRs.take : ∀ (n : Nat) {a : List AV} {v : List Value}, VRs ρ φ a v → VRs ρ φ (a.take n) (v.take n)
  | 0, a, v, h => by simpa using VRs.nil
  | n + 1, [], v, h => by have := VRs.nil_left h; subst this; simpa using h
  | n + 1, a :: as, v, h => by obtain ⟨x, xs, rfl, h1, h2⟩ := VRs.cons_left h; simpa using VRs.cons h1 (VRs.take n h2)
theorem VRs.get {a : List AV} {v : List Value} (h : VRs ρ φ a v) : ∀ (i : Nat) (x : AV), a[i]? = some x → ∃ y, v[i]? = some y ∧ VR ρ φ x y := by
  induction a generalizing v with
  | nil => intro i x hx; simp at hx
  | cons b bs ih =>
    obtain ⟨y, ys, rfl, h1, h2⟩ := VRs.cons_left h
    intro i x hx
    cases i with
    | zero => simp at hx; subst hx; exact ⟨y, rfl, h1⟩
    | succ i => simp at hx; simpa using ih h2 i x hx
theorem VRs.split {a b : List AV} {v : List Value} (h : VRs ρ φ (a ++ b) v) : ∃ x y, v = x ++ y ∧ VRs ρ φ a x ∧ VRs ρ φ b y := by
  induction a generalizing v with
  | nil => exact ⟨[], v, rfl, VRs.nil, h⟩
  | cons c cs ih =>
    obtain ⟨x, xs, rfl, h1, h2⟩ := VRs.cons_left h
    obtain ⟨y, z, rfl, h3, h4⟩ := ih h2
    exact ⟨x :: y, z, rfl, VRs.cons h1 h3, h4⟩
end lists

/-- a value's cells -/
theorem VR.cells {ρ : Env} {φ : Pl} {a : AV} {v : Value} (h : VR ρ φ a v) : VRs ρ φ a.cells v.cells.toList := by
  cases a with
  | agg cs => simp only [VR] at h; obtain ⟨x, rfl, hx⟩ := h; simpa [AV.cells, Value.cells] using hx
  | bool b => simp only [VR] at h; subst h; exact VRs.cons (by simp only [VR]) VRs.nil
  | int k n => simp only [VR] at h; subst h; exact VRs.cons (by simp only [VR]) VRs.nil
  | str s => simp only [VR] at h; subst h; exact VRs.cons (by simp only [VR]) VRs.nil
  | ptr id off => have h' := h; simp only [VR] at h; obtain ⟨L, h1, rfl⟩ := h; exact VRs.cons h' VRs.nil
  | nilPtr => simp only [VR] at h; subst h; exact VRs.cons (by simp only [VR]) VRs.nil
  | slice id off len cap => have h' := h; simp only [VR] at h; obtain ⟨L, h1, h2, h3, rfl⟩ := h; exact VRs.cons h' VRs.nil
  | eslice id z => have h' := h; simp only [VR] at h; obtain ⟨L, o, c, h1, h2, h3, rfl⟩ := h; exact VRs.cons h' VRs.nil
  | nilSlice => simp only [VR] at h; subst h; exact VRs.cons (by simp only [VR]) VRs.nil
  | func fn x y => have h' := h; simp only [VR] at h; obtain ⟨g, p, q, rfl, _⟩ := h; exact VRs.cons h' VRs.nil
  | nilFunc => simp only [VR] at h; subst h; exact VRs.cons (by simp only [VR]) VRs.nil
  | iface t x => have h' := h; simp only [VR] at h; obtain ⟨p, rfl, _⟩ := h; exact VRs.cons h' VRs.nil
  | nilIface => simp only [VR] at h; subst h; exact VRs.cons (by simp only [VR]) VRs.nil
  | tup vs => have h' := h; simp only [VR] at h; obtain ⟨p, rfl, _⟩ := h; exact VRs.cons h' VRs.nil
  | nilMap => simp only [VR] at h; subst h; exact VRs.cons (by simp only [VR]) VRs.nil
  | iptr id z i off => have h' := h; simp only [VR] at h; obtain ⟨L, h1, h2, rfl⟩ := h; exact VRs.cons h' VRs.nil
mutual
theorem AV.ofVal_ok (ρ : Env) (φ : Pl) : ∀ (v : Value) (a : AV), AV.ofVal v = some a → VR ρ φ a v
  | .bool b, a, h => by simp only [AV.ofVal, Option.some.injEq] at h; subst h; simp only [VR, SB.den]
  | .int k n, a, h => by simp only [AV.ofVal, Option.some.injEq] at h; subst h; simp only [VR, SI.den]
  | .string s, a, h => by simp only [AV.ofVal, Option.some.injEq] at h; subst h; simp only [VR, SS.ofBytes_den]
  | .pointer none, a, h => by simp only [AV.ofVal, Option.some.injEq] at h; subst h; simp only [VR]
  | .pointer (some _), a, h => by simp [AV.ofVal] at h
  | .slice none 0 0, a, h => by simp only [AV.ofVal, Option.some.injEq] at h; subst h; simp only [VR]
  | .slice none 0 (_ + 1), a, h => by simp [AV.ofVal] at h
  | .slice none (_ + 1) _, a, h => by simp [AV.ofVal] at h
  | .slice (some _) _ _, a, h => by simp [AV.ofVal] at h
  | .func (.func f) ⟨x⟩ ⟨y⟩, a, h => by
    simp only [AV.ofVal] at h
    split at h
    · rename_i p q hp hq
      cases h
      simp only [VR]
      exact ⟨.func f, x, y, rfl, rfl, AV.ofVals_ok ρ φ x p hp, AV.ofVals_ok ρ φ y q hq⟩
    · cases h
  | .func (.method _) _ _, a, h => by simp [AV.ofVal] at h
  | .func (.methodOf _ _) _ _, a, h => by simp [AV.ofVal] at h
  | .func (.via _ _ _ _) _ _, a, h => by simp [AV.ofVal] at h
  | .func (.yield _) _ _, a, h => by simp [AV.ofVal] at h
  | .nilFunc, a, h => by simp only [AV.ofVal, Option.some.injEq] at h; subst h; simp only [VR]
  | .nilIface, a, h => by simp only [AV.ofVal, Option.some.injEq] at h; subst h; simp only [VR]
  | .iface t v, a, h => by
    simp only [AV.ofVal] at h
    split at h
    · rename_i x hx
      cases h
      simp only [VR]
      exact ⟨v, rfl, AV.ofVal_ok ρ φ v x hx⟩
    · cases h
  | .agg ⟨cs⟩, a, h => by
    simp only [AV.ofVal] at h
    split at h
    · rename_i x hx
      cases h
      simp only [VR]
      exact ⟨cs, rfl, AV.ofVals_ok ρ φ cs x hx⟩
    · cases h
  | .tuple ⟨cs⟩, a, h => by
    simp only [AV.ofVal] at h
    split at h
    · rename_i x hx
      cases h
      simp only [VR]
      exact ⟨cs, rfl, AV.ofVals_ok ρ φ cs x hx⟩
    · cases h
  | .map none, a, h => by simp only [AV.ofVal, Option.some.injEq] at h; subst h; simp only [VR]
  | .map (some _), a, h => by simp [AV.ofVal] at h
  | .float _ _, a, h => by simp [AV.ofVal] at h
  | .complex _ _ _, a, h => by simp [AV.ofVal] at h
  | .chan _, a, h => by simp [AV.ofVal] at h
theorem AV.ofVals_ok (ρ : Env) (φ : Pl) : ∀ (v : List Value) (a : List AV), AV.ofVals v = some a → VRs ρ φ a v
  | [], a, h => by simp only [AV.ofVals, Option.some.injEq] at h; subst h; exact VRs.nil
  | v :: l, a, h => by
    simp only [AV.ofVals] at h
    split at h
    · rename_i x y hx hy
      cases h
      exact VRs.cons (AV.ofVal_ok ρ φ v x hx) (AV.ofVals_ok ρ φ l y hy)
    · cases h
end
/-! values that letters alone make -/
def AV.val (ρ : Env) : AV → Value
  | .bool b => .bool (b.den ρ)
  | .int k n => .int k (n.den ρ)
  | .str s => .string ⟨⟨SS.den ρ s⟩⟩
  | _ => .bool false
theorem val_of {ρ : Env} {φ : Pl} {a : AV} {v : Value} (hs : scalarAV a = true) (h : VR ρ φ a v) : v = a.val ρ := by
  cases a <;> simp only [scalarAV] at hs <;> first | (simp only [VR] at h; exact h) | cases hs
theorem val_VR {ρ : Env} {φ : Pl} {a : AV} (hs : scalarAV a = true) : VR ρ φ a (a.val ρ) := by
  cases a <;> simp only [scalarAV] at hs <;> first | (simp only [VR, AV.val]; done) | cases hs
theorem val_one {ρ : Env} (a : AV) : (a.val ρ).oneCell' = true := by cases a <;> rfl
theorem vals_of {ρ : Env} {φ : Pl} : ∀ {l : List AV} {xs : List Value}, l.all scalarAV = true → VRs ρ φ l xs → xs = l.map (AV.val ρ)
  | [], xs, _, h => VRs.nil_left h
  | a :: l, xs, hs, h => by
    obtain ⟨y, ys, rfl, h1, h2⟩ := VRs.cons_left h
    simp only [List.all_cons, Bool.and_eq_true] at hs
    rw [val_of hs.1 h1, vals_of hs.2 h2]; rfl
theorem vals_VR {ρ : Env} {φ : Pl} : ∀ {l : List AV}, l.all scalarAV = true → VRs ρ φ l (l.map (AV.val ρ))
  | [], _ => VRs.nil
  | a :: l, hs => by
    simp only [List.all_cons, Bool.and_eq_true] at hs
    exact VRs.cons (val_VR hs.1) (vals_VR hs.2)
end Go.Sx
namespace Go.Sx

def TmR (ρ : Env) (φ : Pl) (tm : PT AV) (x : Array Value) : Prop := ∀ t v, tm.get t = some v → ∃ y, x[t]? = some y ∧ VR ρ φ v y

def RX.flat (ρ : Env) : RX → List Value
  | .v r => (ρ.rows r).flatten
  | .cs l b => l.map (AV.val ρ) ++ RX.flat ρ b
def RX.ok (ρ : Env) (z : Nat) : RX → Prop
  | .v r => ∀ q ∈ ρ.rows r, q.length = z ∧ ∀ v ∈ q, v.oneCell' = true
  | .cs l b => l.length % z = 0 ∧ RX.ok ρ z b
def preCells (ρ : Env) : Option (RX × Nat) → List Value
  | none => []
  | some p => p.1.flat ρ
def preOK (ρ : Env) : Option (RX × Nat) → Prop
  | none => True
  | some p => p.1.ok ρ p.2
def byteVals (bs : List UInt8) : List Value := bs.map fun b => .int .u8 b.toNat

/-- what an abstract block says of an object -/
def BR (ρ : Env) (φ : Pl) (L : Loc) : ABlk → Obj → Prop
  | .cells ro pre cs elem, o => ∃ (ek : Nat) (c : Array Value) (lo hi : Nat) (xs rest : List Value), o = .cells c ek (lo, hi) ∧ (ro = true ∨ (hi = 0 ∧ ek = elem)) ∧ (c.size = L.base + L.n ∨ (ro = true ∧ L.base + L.n ≤ c.size ∧ (preCells ρ pre).length + xs.length ≤ L.n ∧ elem ≠ 1000)) ∧
      c.toList.drop L.base = preCells ρ pre ++ xs ++ rest ∧ VRs ρ φ cs xs ∧ preOK ρ pre
  | .bytes s elem fz, o => ∃ (c : Array Value) (lo hi : Nat) (rest : List Value), o = .cells c elem (lo, hi) ∧ c.size = L.base + L.n ∧
      c.toList.drop L.base = byteVals (SS.den ρ s) ++ rest ∧ (hi = 0 ∨ (fz = true ∧ hi ≤ L.base + (SS.den ρ s).length))
  | .loop st pend fn n tm params assign body d, o => ∃ (x : Array Value) (D : Loc), o = .loop { state := st, pending := pend, fn, tmps := x, params := params.toArray, assign, body, defers := D.blk } ∧
      φ d = some D ∧ x.size = n ∧ TmR ρ φ tm x
  | .defd taken, o => o = .deferred (if taken then none else some [])
  | .rowv ro r z i cs elem, o => (∃ (ek : Nat) (c : Array Value) (lo hi : Nat) (rest : List Value), o = .cells c ek (lo, hi) ∧ (ro = true ∨ (hi = 0 ∧ ek = elem)) ∧ (c.size = L.base + L.n ∨ (ro = true ∧ L.base + L.n ≤ c.size ∧ (ρ.rows r).flatten.length ≤ L.n ∧ elem ≠ 1000)) ∧
      c.toList.drop L.base = (ρ.rows r).flatten ++ rest) ∧ RX.ok ρ z (.v r) ∧ 0 ≤ i.den ρ ∧ ∀ xs, (ρ.rows r)[(i.den ρ).toNat]? = some xs → VRs ρ φ cs xs
def ABlk.owned : ABlk → Bool
  | .cells ro _ _ _ => !ro
  | .rowv ro _ _ _ _ _ => !ro
  | _ => true

structure WR (ρ : Env) (φ : Pl) (h : Heap) (w : World) : Prop where
  blk : ∀ id b, h.t.get id = some b → ∃ L o, φ id = some L ∧ w.heap[L.blk]? = some o ∧ BR ρ φ L b o
  apart : ∀ i j b c L M, h.t.get i = some b → h.t.get j = some c → b.owned = true → φ i = some L → φ j = some M → L.blk = M.blk → i = j
  fresh : ∀ i, h.next ≤ i → φ i = none
  base : ∀ i b L, h.t.get i = some b → b.owned = true → φ i = some L → L.base = 0

def Own (φ : Pl) (h : Heap) (k : Nat) : Prop := ∃ id b L, h.t.get id = some b ∧ b.owned = true ∧ φ id = some L ∧ L.blk = k

/-- one world behind another: what was not owned stays, what is owned was, or is new -/
structure Evo (ρ : Env) (φ : Pl) (h : Heap) (w : World) (φ' : Pl) (h' : Heap) (w' : World) : Prop where
  le : φ.le φ'
  wr : WR ρ φ' h' w'
  keep : ∀ b, b < w.heap.size → ¬ Own φ h b → w'.heap[b]? = w.heap[b]?
  own : ∀ b, Own φ' h' b → Own φ h b ∨ w.heap.size ≤ b
  size : w.heap.size ≤ w'.heap.size
  next : h.next ≤ h'.next
  same : w'.os = w.os ∧ w'.output = w.output

theorem Evo.refl {ρ : Env} {φ : Pl} {h : Heap} {w : World} (hw : WR ρ φ h w) : Evo ρ φ h w φ h w :=
  ⟨Pl.le_refl φ, hw, fun _ _ _ => rfl, fun _ h => .inl h, Nat.le_refl _, Nat.le_refl _, rfl, rfl⟩
theorem Evo.trans {ρ : Env} {φ φ' φ'' : Pl} {h h' h'' : Heap} {w w' w'' : World} (a : Evo ρ φ h w φ' h' w') (b : Evo ρ φ' h' w' φ'' h'' w'') : Evo ρ φ h w φ'' h'' w'' := by
  refine ⟨Pl.le_trans a.le b.le, b.wr, ?_, ?_, Nat.le_trans a.size b.size, Nat.le_trans a.next b.next, b.same.1.trans a.same.1, b.same.2.trans a.same.2⟩
  · intro k hk ho
    rw [b.keep k (Nat.lt_of_lt_of_le hk a.size) ?_, a.keep k hk ho]
    intro hc
    rcases a.own k hc with h1 | h1
    · exact ho h1
    · omega
  · intro k hk
    rcases b.own k hk with h1 | h1
    · exact a.own k h1
    · exact .inr (Nat.le_trans a.size h1)

theorem WR.lt {ρ : Env} {φ : Pl} {h : Heap} {w : World} (hw : WR ρ φ h w) {id : Nat} {b : ABlk} {L : Loc} (hb : h.t.get id = some b) (hL : φ id = some L) : L.blk < w.heap.size := by
  obtain ⟨M, o, h1, h2, _⟩ := hw.blk id b hb
  rw [hL] at h1; cases h1
  rcases Nat.lt_or_ge L.blk w.heap.size with h | h
  · exact h
  · rw [Array.getElem?_eq_none h] at h2; cases h2
theorem WR.next_gt {ρ : Env} {φ : Pl} {h : Heap} {w : World} (hw : WR ρ φ h w) {id : Nat} {b : ABlk} (hb : h.t.get id = some b) : id < h.next := by
  obtain ⟨M, o, h1, _⟩ := hw.blk id b hb
  rcases Nat.lt_or_ge id h.next with h | h
  · exact h
  · rw [hw.fresh id h] at h1; cases h1
theorem BR.mono {ρ : Env} {φ ψ : Pl} (hle : φ.le ψ) {L : Loc} {b : ABlk} {o : Obj} (h : BR ρ φ L b o) : BR ρ ψ L b o := by
  cases b with
  | cells ro pre cs elem => obtain ⟨ek, c, lo, hi, xs, rest, h1, h2, h3, h4, h5, h6⟩ := h; exact ⟨ek, c, lo, hi, xs, rest, h1, h2, h3, h4, VRs.mono hle _ _ h5, h6⟩
  | bytes s elem fz => exact h
  | loop st pend fn n tm params assign body d =>
    obtain ⟨x, D, h1, h2, h3, h4⟩ := h
    exact ⟨x, D, h1, hle _ _ h2, h3, fun t v hv => let ⟨y, h5, h6⟩ := h4 t v hv; ⟨y, h5, VR.mono hle _ _ h6⟩⟩
  | defd t => exact h
  | rowv ro r z i cs elem => obtain ⟨h1, h2, h3, h4⟩ := h; exact ⟨h1, h2, h3, fun xs hx => VRs.mono hle _ _ (h4 xs hx)⟩

/-- a new block: 'add' -/
def Pl.with (φ : Pl) (i : Nat) (L : Loc) : Pl := fun j => if j = i then some L else φ j
theorem Pl.le_with {φ : Pl} {i : Nat} (L : Loc) (h : φ i = none) : φ.le (φ.with i L) := by
  intro j M hj
  unfold Pl.with
  by_cases e : j = i
  · subst e; rw [h] at hj; cases hj
  · rw [if_neg e]; exact hj
theorem Pl.with_same (φ : Pl) (i : Nat) (L : Loc) : φ.with i L i = some L := by simp [Pl.with]
theorem Pl.with_ne (φ : Pl) {i j : Nat} (L : Loc) (h : j ≠ i) : φ.with i L j = φ j := by simp [Pl.with, h]

theorem evo_new {ρ : Env} {φ : Pl} {h : Heap} {w : World} (hw : WR ρ φ h w) (b : ABlk) (o : Obj) (n : Nat)
    (hb : BR ρ (φ.with h.next ⟨w.heap.size, 0, n⟩) ⟨w.heap.size, 0, n⟩ b o) :
    Evo ρ φ h w (φ.with h.next ⟨w.heap.size, 0, n⟩) (h.add b) (w.alloc o) := by
  have hle : φ.le (φ.with h.next ⟨w.heap.size, 0, n⟩) := Pl.le_with _ (hw.fresh _ (Nat.le_refl _))
  have hadd : (h.add b) = ⟨h.t.set h.next b, h.next + 1⟩ := by cases h; rfl
  have hold : ∀ k, k < w.heap.size → (w.alloc o).heap[k]? = w.heap[k]? := by
    intro k hk
    show (w.heap.push o)[k]? = _
    rw [Array.getElem?_push, if_neg (Nat.ne_of_lt hk)]
  refine ⟨hle, ⟨?_, ?_, ?_, ?_⟩, ?_, ?_, by simp, by rw [hadd]; simp, rfl, rfl⟩
  · intro id c hc
    rw [hadd] at hc
    simp only [PT.get_set] at hc
    by_cases e : id = h.next
    · subst e
      rw [if_pos rfl] at hc; cases hc
      refine ⟨_, o, Pl.with_same _ _ _, ?_, hb⟩
      show (w.heap.push o)[w.heap.size]? = _
      rw [Array.getElem?_push, if_pos rfl]
    · rw [if_neg e] at hc
      obtain ⟨L, o', h1, h2, h3⟩ := hw.blk id c hc
      refine ⟨L, o', hle _ _ h1, ?_, h3.mono hle⟩
      rw [hold _ (hw.lt hc h1)]; exact h2
  · intro i j c d L M hi hj ho hL hM e
    rw [hadd] at hi hj
    simp only [PT.get_set] at hi hj
    by_cases ei : i = h.next <;> by_cases ej : j = h.next
    · rw [ei, ej]
    · exfalso
      subst ei
      rw [if_neg ej] at hj
      rw [Pl.with_same] at hL; cases hL
      rw [Pl.with_ne _ _ ej] at hM
      have := hw.lt hj hM
      simp only at e; omega
    · exfalso
      subst ej
      rw [if_neg ei] at hi
      rw [Pl.with_same] at hM; cases hM
      rw [Pl.with_ne _ _ ei] at hL
      have := hw.lt hi hL
      simp only at e; omega
    · rw [if_neg ei] at hi; rw [if_neg ej] at hj
      rw [Pl.with_ne _ _ ei] at hL; rw [Pl.with_ne _ _ ej] at hM
      exact hw.apart i j c d L M hi hj ho hL hM e
  · intro i hi
    rw [hadd] at hi
    simp only at hi
    rw [Pl.with_ne _ _ (by omega)]
    exact hw.fresh i (by omega)
  · intro i c L hi ho hL
    rw [hadd] at hi
    simp only [PT.get_set] at hi
    by_cases e : i = h.next
    · subst e; rw [Pl.with_same] at hL; cases hL; rfl
    · rw [if_neg e] at hi; rw [Pl.with_ne _ _ e] at hL; exact hw.base i c L hi ho hL
  · intro k hk _; exact hold k hk
  · rintro k ⟨id, c, L, h1, h2, h3, rfl⟩
    rw [hadd] at h1
    simp only [PT.get_set] at h1
    by_cases e : id = h.next
    · subst e
      rw [Pl.with_same] at h3; cases h3
      exact .inr (Nat.le_refl _)
    · rw [if_neg e] at h1
      rw [Pl.with_ne _ _ e] at h3
      exact .inl ⟨id, c, L, h1, h2, h3, rfl⟩

/-- a block is laid anew, in its place -/
theorem evo_put {ρ : Env} {φ : Pl} {h : Heap} {w w' : World} (hw : WR ρ φ h w) {id : Nat} {b b' : ABlk} {L : Loc} {o' : Obj} (hb : h.t.get id = some b) (ho : b.owned = true)
    (hL : φ id = some L) (hsame : w'.os = w.os ∧ w'.output = w.output) (hsz : w'.heap.size = w.heap.size) (hat : w'.heap[L.blk]? = some o') (hother : ∀ k, k ≠ L.blk → w'.heap[k]? = w.heap[k]?) (hbr : BR ρ φ L b' o') :
    Evo ρ φ h w φ (h.put id b') w' := by
  have hput : h.put id b' = ⟨h.t.set id b', h.next⟩ := by cases h; rfl
  refine ⟨Pl.le_refl φ, ⟨?_, ?_, ?_, ?_⟩, ?_, ?_, by omega, by rw [hput]; exact Nat.le_refl _, hsame⟩
  · intro j c hc
    rw [hput] at hc
    simp only [PT.get_set] at hc
    by_cases e : j = id
    · subst e
      rw [if_pos rfl] at hc; cases hc
      exact ⟨L, o', hL, hat, hbr⟩
    · rw [if_neg e] at hc
      obtain ⟨M, o, h1, h2, h3⟩ := hw.blk j c hc
      refine ⟨M, o, h1, ?_, h3⟩
      rw [hother _ (fun c' => e (hw.apart id j b c L M hb hc ho hL h1 c'.symm).symm)]; exact h2
  · intro i j c d M N hi hj hc hM hN e
    rw [hput] at hi hj
    simp only [PT.get_set] at hi hj
    by_cases ei : i = id <;> by_cases ej : j = id
    · rw [ei, ej]
    · subst ei; rw [if_neg ej] at hj
      rw [hL] at hM; cases hM
      exact hw.apart i j b d L N hb hj ho hL hN e
    · subst ej; rw [if_neg ei] at hi
      rw [hL] at hN; cases hN
      exact (hw.apart j i b c L M hb hi ho hL hM e.symm).symm
    · rw [if_neg ei] at hi; rw [if_neg ej] at hj
      exact hw.apart i j c d M N hi hj hc hM hN e
  · intro i hi; rw [hput] at hi; exact hw.fresh i hi
  · intro i c M hi hoc hM
    rw [hput] at hi
    simp only [PT.get_set] at hi
    by_cases e : i = id
    · subst e; exact hw.base i b M hb ho hM
    · rw [if_neg e] at hi; exact hw.base i c M hi hoc hM
  · intro k _ hno
    apply hother
    intro e; subst e
    exact hno ⟨id, b, L, hb, ho, hL, rfl⟩
  · rintro k ⟨j, c, M, h1, h2, h3, rfl⟩
    rw [hput] at h1
    simp only [PT.get_set] at h1
    by_cases e : j = id
    · subst e
      exact .inl ⟨j, b, M, hb, ho, h3, rfl⟩
    · rw [if_neg e] at h1
      exact .inl ⟨j, c, M, h1, h2, h3, rfl⟩

/-- a block is forgotten -/
theorem evo_drop {ρ : Env} {φ : Pl} {h : Heap} {w : World} (hw : WR ρ φ h w) (id : Nat) : Evo ρ φ h w φ (h.drop id) w := by
  have hdrop : h.drop id = ⟨h.t.del id, h.next⟩ := by cases h; rfl
  have sub : ∀ j c, (h.drop id).t.get j = some c → h.t.get j = some c := by
    intro j c hc
    rw [hdrop] at hc
    simp only [PT.get_del] at hc
    by_cases e : j = id
    · rw [if_pos e] at hc; cases hc
    · rw [if_neg e] at hc; exact hc
  refine ⟨Pl.le_refl φ, ⟨fun j c hc => hw.blk j c (sub j c hc), fun i j c d M N hi hj => hw.apart i j c d M N (sub i c hi) (sub j d hj), ?_, fun i c L hi => hw.base i c L (sub i c hi)⟩, fun _ _ _ => rfl, ?_, Nat.le_refl _, by rw [hdrop]; exact Nat.le_refl _, rfl, rfl⟩
  · intro i hi; rw [hdrop] at hi; exact hw.fresh i hi
  · rintro k ⟨j, c, M, h1, h2, h3, rfl⟩; exact .inl ⟨j, c, M, sub j c h1, h2, h3, rfl⟩
/-- a block is forgotten, and known anew under a new name -/
theorem evo_moved {ρ : Env} {φ : Pl} {h : Heap} {w w' : World} (hw : WR ρ φ h w) {id : Nat} {b b' : ABlk} {L L' : Loc} {o' : Obj} (hb : h.t.get id = some b) (ho : b.owned = true)
    (hL : φ id = some L) (hbase : L'.base = 0) (hblk : L'.blk = L.blk) (hsame : w'.os = w.os ∧ w'.output = w.output) (hsz : w'.heap.size = w.heap.size) (hat : w'.heap[L.blk]? = some o') (hother : ∀ k, k ≠ L.blk → w'.heap[k]? = w.heap[k]?)
    (hbr : BR ρ (φ.with h.next L') L' b' o') :
    Evo ρ φ h w (φ.with h.next L') ((h.drop id).add b') w' := by
  have hh : (h.drop id).add b' = ⟨(h.t.del id).set h.next b', h.next + 1⟩ := by cases h; rfl
  have hle : φ.le (φ.with h.next L') := Pl.le_with _ (hw.fresh _ (Nat.le_refl _))
  have idlt := hw.next_gt hb
  have getOld : ∀ j c, j ≠ h.next → ((h.drop id).add b').t.get j = some c → j ≠ id ∧ h.t.get j = some c := by
    intro j c hj hc
    rw [hh] at hc
    simp only [PT.get_set, PT.get_del] at hc
    rw [if_neg hj] at hc
    by_cases e : j = id
    · rw [if_pos e] at hc; cases hc
    · rw [if_neg e] at hc; exact ⟨e, hc⟩
  have getNew : ((h.drop id).add b').t.get h.next = some b' := by rw [hh]; simp [PT.get_set]
  refine ⟨hle, ⟨?_, ?_, ?_, ?_⟩, ?_, ?_, by omega, by rw [hh]; simp, hsame⟩
  · intro j c hc
    by_cases e : j = h.next
    · subst e
      rw [getNew] at hc; cases hc
      exact ⟨L', o', Pl.with_same _ _ _, by rw [hblk]; exact hat, hbr⟩
    · obtain ⟨e1, h1⟩ := getOld j c e hc
      obtain ⟨M, o, h2, h3, h4⟩ := hw.blk j c h1
      refine ⟨M, o, hle _ _ h2, ?_, h4.mono hle⟩
      rw [hother _ (fun c' => e1 (hw.apart id j b c L M hb h1 ho hL h2 c'.symm).symm)]; exact h3
  · intro i j c d M N hi hj hc hM hN e
    by_cases ei : i = h.next <;> by_cases ej : j = h.next
    · rw [ei, ej]
    · exfalso
      subst ei
      obtain ⟨e1, h1⟩ := getOld j d ej hj
      rw [Pl.with_same] at hM; cases hM
      rw [Pl.with_ne _ _ ej] at hN
      exact e1 (hw.apart id j b d L N hb h1 ho hL hN (by rw [← hblk]; exact e)).symm
    · exfalso
      subst ej
      obtain ⟨e1, h1⟩ := getOld i c ei hi
      rw [Pl.with_same] at hN; cases hN
      rw [Pl.with_ne _ _ ei] at hM
      exact e1 (hw.apart id i b c L M hb h1 ho hL hM (by rw [← hblk]; exact e.symm)).symm
    · obtain ⟨e1, h1⟩ := getOld i c ei hi
      obtain ⟨e2, h2⟩ := getOld j d ej hj
      rw [Pl.with_ne _ _ ei] at hM; rw [Pl.with_ne _ _ ej] at hN
      exact hw.apart i j c d M N h1 h2 hc hM hN e
  · intro i hi
    rw [hh] at hi
    simp only at hi
    rw [Pl.with_ne _ _ (by omega)]
    exact hw.fresh i (by omega)
  · intro i c M hi hoc hM
    by_cases e : i = h.next
    · subst e; rw [Pl.with_same] at hM; cases hM; exact hbase
    · obtain ⟨_, h1⟩ := getOld i c e hi
      rw [Pl.with_ne _ _ e] at hM; exact hw.base i c M h1 hoc hM
  · intro k _ hno
    apply hother
    intro e; subst e
    exact hno ⟨id, b, L, hb, ho, hL, rfl⟩
  · rintro k ⟨j, c, M, h1, h2, h3, rfl⟩
    by_cases e : j = h.next
    · subst e
      rw [Pl.with_same] at h3; cases h3
      exact .inl ⟨id, b, L, hb, ho, hL, hblk.symm⟩
    · obtain ⟨_, h4⟩ := getOld j c e h1
      rw [Pl.with_ne _ _ e] at h3
      exact .inl ⟨j, c, M, h4, h2, h3, rfl⟩
/-- of the later world just the heap, the outside and what was printed count -/
theorem Evo.heap {ρ : Env} {φ φ' : Pl} {h h' : Heap} {w w' w'' : World} (a : Evo ρ φ h w φ' h' w') (e : w''.heap = w'.heap) (e2 : w''.os = w'.os) (e3 : w''.output = w'.output) : Evo ρ φ h w φ' h' w'' := by
  refine ⟨a.le, ⟨?_, a.wr.apart, a.wr.fresh, a.wr.base⟩, ?_, a.own, ?_, a.next, e2.trans a.same.1, e3.trans a.same.2⟩
  · rw [e]; exact a.wr.blk
  · rw [e]; exact a.keep
  · rw [e]; exact a.size
theorem WR.heap {ρ : Env} {φ : Pl} {h : Heap} {w w' : World} (a : WR ρ φ h w) (e : w'.heap = w.heap) : WR ρ φ h w' := ⟨by rw [e]; exact a.blk, a.apart, a.fresh, a.base⟩
end Go.Sx
namespace Go.Sx

/-- which of the model's entries a function without a body is -/
def ExtIs (P : Program) (g : Array Value → Sem Value) : Ext → Prop
  | .noEscape => g = Extern.AbiNoEscape.same
  | .indexByteString => g = Extern.BytealgIndexByte.indexByte
  | .cmpstring => g = Extern.BytealgCompare.compare
  | .countString => g = Extern.BytealgCount.count
  | .overlaps => ∃ tS tR e i, g = Extern.SlicesOverlaps.overlaps #[tS, tS] #[tR] ∧ P.underlying tS = some (.slice e) ∧ P.info? e = some i
/-- a heap of known blocks -/
noncomputable def heapOf' (l : List (Nat × ABlk)) (n : Nat) : Heap := ⟨l.foldr (fun p t => t.set p.1 p.2) .nil, n⟩
/-- the places of the package's variables -/
def Glob (φ : Pl) : Prop := ∀ g, g < 64 → φ g = some ⟨g, 0, 20⟩
/-- what was there stays -/
structure Kept (W w' : World) : Prop where
  blk : ∀ b, b < W.heap.size → w'.heap[b]? = W.heap[b]?
  same : w'.os = W.os ∧ w'.output = W.output
  size : W.heap.size ≤ w'.heap.size
structure OrcOK (P : Program) (ρ : Env) (o : Orc) : Prop where
  calls : ∀ (φ : Pl) (w : World) (xs : List Value), WR ρ φ (heapOf' o.pre o.next) w → Glob φ → o.facts.ok ρ → VRs ρ φ o.args xs →
    Calls P o.f ⟨xs⟩ w fun e w' => ∃ φ' z, e = .returned z ∧ VR ρ φ' o.v z ∧ Evo ρ φ (heapOf' o.pre o.next) w φ' (heapOf' o.post o.next') w'
  nd : ∀ p ∈ o.post, (heapOf' o.post o.next').t.get p.1 = some p.2
def POrcOK (P : Program) (ρ : Env) (o : POrc) : Prop := ∀ (φ : Pl) (w : World) (xs : List Value) (n : Nat), WR ρ φ (heapOf' o.pre n) w → Glob φ → o.facts.ok ρ → VRs ρ φ o.args xs →
    Calls P o.f ⟨xs⟩ w fun e w' => ∃ z, e = .returned z ∧ VR ρ φ o.v z ∧ Kept w w'
/-- what strings.HasPrefix is known to do -/
def HpOK (P : Program) (f : Nat) : Prop := ∀ (s p : List UInt8) (w : World), Calls P f ⟨[.string ⟨⟨s⟩⟩, .string ⟨⟨p⟩⟩]⟩ w fun e w' => e = .returned (.bool (isPre p s)) ∧ Kept w w'
structure CtxOK (C : Ctx) (P : Program) (ρ : Env) : Prop where
  ext : ∀ f e, C.ext.get f = some e → ∃ fn g, P.funcs[f]? = some fn ∧ (fn.name == "runtime.NumGoroutine") = false ∧ fn.body = none ∧ Extern.findNext fn = none ∧ Extern.find fn = some g ∧ ExtIs P g e
  fn : ∀ i f, C.fn.get i = some f → P.funcs[i]? = some f
  noNum : ∀ i f, C.fn.get i = some f → f.body ≠ none → (f.name == "runtime.NumGoroutine") = false
  ty : ∀ t r, C.ty.get t = some r → ∃ i, P.info? t = some i ∧ P.underlying t = some r.u ∧ i.size = r.size ∧ i.bytes = r.bytes ∧ (∀ z, r.zero = some z → ∃ v, i.zero = some v ∧ AV.ofVal v = some z)
  lies : ∀ e o t, (e, o, t) ∈ C.lies → ∀ count, 1 ≤ count → liesAt P P.depth e count o t 1 = true
  mixed : P.follows .mixedOrders = true
  depth : ∃ d, P.depth = d + 1
  orc : ∀ o ∈ C.orc, OrcOK P ρ o
  por : ∀ o ∈ C.por, POrcOK P ρ o
  hp : ∀ f, C.hp = some f → HpOK P f

section
variable {C : Ctx} {P : Program} {ρ : Env} (hC : CtxOK C P ρ) {φ : Pl} {F : Facts} {h : Heap} {w : World}

theorem Ev.bind_ok {α β : Type} {x : Ev α} {f : α → Ev β} {b : β} (hb : x.bind f = .ok b) : ∃ a, x = .ok a ∧ f a = .ok b := by
  cases x <;> simp [Ev.bind] at hb
  exact ⟨_, rfl, hb⟩
theorem Ev.ofOpt_ok {α : Type} {x : Option α} {s : String} {a : α} (h : Ev.ofOpt x s = .ok a) : x = some a := by
  cases x <;> simp [Ev.ofOpt] at h
  rw [h]
theorem bif_ok {α : Type} {c : Bool} {x : Ev α} {s : String} {a : α} (h : (bif c then x else .fail s) = .ok a) : c = true ∧ x = .ok a := by
  cases c
  · cases h
  · exact ⟨rfl, h⟩
theorem row_ok {t : Nat} {r : TyRow} (h : row C t = .ok r) : C.ty.get t = some r := Ev.ofOpt_ok h

include hC in
theorem run_under {t : Nat} {r : TyRow} (h : C.ty.get t = some r) (w : World) : (underlying t).run P w = .ok r.u w := by
  obtain ⟨i, _, h2, _⟩ := hC.ty t r h
  exact run_underlying h2 w
include hC in
theorem run_info {t : Nat} {r : TyRow} (h : C.ty.get t = some r) (w : World) : ∃ i, (typeInfo t).run P w = .ok i w ∧ P.info? t = some i ∧ i.size = r.size ∧ i.bytes = r.bytes ∧ (∀ z, r.zero = some z → ∃ v, i.zero = some v ∧ AV.ofVal v = some z) := by
  obtain ⟨i, h1, _, h3⟩ := hC.ty t r h
  refine ⟨i, ?_, h1, h3⟩
  have h1' : P.toTables.info? t = some i := h1
  simp [typeInfo, program, Sem.run, h1']
include hC in
theorem run_size {t : Nat} {r : TyRow} (h : C.ty.get t = some r) (w : World) : (sizeOf t).run P w = .ok r.size w := by
  obtain ⟨i, h1, _, h3, _⟩ := run_info hC h w
  simp [sizeOf, h1, h3]
include hC in
theorem run_isAgg {t : Nat} {r : TyRow} (h : C.ty.get t = some r) (w : World) : (Go.isAgg t).run P w = .ok (isAgg r.u) w := by
  simp only [Go.isAgg, Sem.run_bind, run_under hC h, Result.andThen_ok]
  cases r.u <;> rfl
include hC in
theorem run_zero {t : Nat} {r : TyRow} {z : AV} (h : C.ty.get t = some r) (hz : r.zero = some z) (ρ : Env) (φ : Pl) : ∃ v, (∀ w, (zeroValue t).run P w = .ok v w) ∧ VR ρ φ z v := by
  obtain ⟨i, h1, _, _, _, hzz⟩ := hC.ty t r h
  obtain ⟨v, h2, h3⟩ := hzz z hz
  refine ⟨v, fun w => ?_, AV.ofVal_ok ρ φ v z h3⟩
  have h1' : P.toTables.info? t = some i := h1
  simp [zeroValue, typeInfo, program, Sem.run, h1', h2]

theorem add_none (b o n : Nat) : (⟨b, o, none⟩ : Addr).add n = ⟨b, o + n, none⟩ := by
  unfold Addr.add; split <;> simp_all

/-! reading cells -/
theorem cell_of {w : World} {b i : Nat} {c : Array Value} {e : Nat} {fz : Nat × Nat} (h : w.heap[b]? = some (.cells c e fz)) : w.cell? ⟨b, i, none⟩ = c[i]? := by
  simp [World.cell?, h]
theorem nbytes_ok (hF : F.ok ρ) {s : SS} : ∀ (n off : Nat) (cs : List AV), SS.nbytes F s off n = some cs →
    ∃ bs : List UInt8, bs = ((SS.den ρ s).drop off).take n ∧ bs.length = n ∧ VRs ρ φ cs (byteVals bs)
  | 0, off, cs, h => by simp [SS.nbytes] at h; subst h; exact ⟨[], by simp, rfl, VRs.nil⟩
  | n + 1, off, cs, h => by
    simp only [SS.nbytes] at h
    split at h
    · rename_i x hx
      split at h
      · rename_i r hr
        cases h
        obtain ⟨b, hb, hd⟩ := SS.nth_den hF s off x hx
        obtain ⟨bs, h1, h2, h3⟩ := nbytes_ok hF n (off + 1) r hr
        have hlt : off < (SS.den ρ s).length := by
          rcases Nat.lt_or_ge off (SS.den ρ s).length with h | h
          · exact h
          · rw [List.getElem?_eq_none h] at hb; cases hb
        refine ⟨b :: bs, ?_, by simp [h2], VRs.cons (by simp only [byteAV, VR, hd]) h3⟩
        rw [List.drop_eq_getElem_cons hlt, List.take_succ_cons, ← h1]
        rw [List.getElem?_eq_getElem hlt] at hb
        cases hb; rfl
      · cases h
    · cases h
theorem getN_list {α : Type} {l : List α} {off n : Nat} {r : List α} (h : Sx.getN l off n = some r) : r = (l.drop off).take n ∧ r.length = n ∧ off + n ≤ l.length ∨ (n = 0 ∧ r = []) := by
  unfold Sx.getN at h
  cases hb : ((l.drop off).take n).length.beq n
  · rw [hb] at h; cases h
  · rw [hb] at h
    cases h
    have := beq_nat hb
    by_cases hn : n = 0
    · right; subst hn; simp
    · left
      refine ⟨rfl, this, ?_⟩
      simp at this; omega
theorem flat_at {z : Nat} : ∀ (rows : List (List Value)) (k : Nat) (xs : List Value), (∀ q ∈ rows, q.length = z) → rows[k]? = some xs → xs.length = z ∧ (k + 1) * z ≤ rows.flatten.length ∧ ∀ j, j < z → rows.flatten[k * z + j]? = xs[j]?
  | [], k, xs, _, h => by simp at h
  | q :: rows, 0, xs, hz, h => by
    simp only [List.getElem?_cons_zero, Option.some.injEq] at h
    subst h
    have := hz q List.mem_cons_self
    refine ⟨this, by simp [this], fun j hj => ?_⟩
    simp only [Nat.zero_mul, Nat.zero_add, List.flatten_cons]
    rw [List.getElem?_append_left (by omega)]
  | q :: rows, k + 1, xs, hz, h => by
    simp only [List.getElem?_cons_succ] at h
    have hq := hz q List.mem_cons_self
    obtain ⟨h0, h1, h2⟩ := flat_at rows k xs (fun r hr => hz r (List.mem_cons_of_mem _ hr)) h
    refine ⟨h0, ?_, fun j hj => ?_⟩
    · simp only [List.flatten_cons, List.length_append, hq]
      rw [Nat.add_mul (k + 1) 1 z]; omega
    · simp only [List.flatten_cons]
      rw [List.getElem?_append_right (by rw [hq, Nat.add_mul]; omega), ← h2 j hj]
      congr 1
      rw [hq, Nat.add_mul]; omega
theorem getN_ok (hF : F.ok ρ) (hw : WR ρ φ h w) {id off n : Nat} {cs : List AV} (hg : h.getN F id off n = some cs) :
    ∃ L ys, φ id = some L ∧ VRs ρ φ cs ys ∧ ys.length = n ∧ (n ≠ 0 → off + n ≤ L.n) ∧ L.blk < w.heap.size ∧ ∀ j v, ys[j]? = some v → w.cell? ⟨L.blk, L.base + off + j, none⟩ = some v := by
  unfold Heap.getN at hg
  split at hg
  · rename_i b hb
    obtain ⟨L, o, hL, ho, hbr⟩ := hw.blk id b hb
    have hlt := hw.lt hb hL
    unfold ABlk.getN at hg
    split at hg
    · rename_i ro cs' e
      obtain ⟨ek, c, lo, hi, xs, rest, rfl, _, hsz, hdrop, hvs, _⟩ := hbr
      simp only [preCells, List.nil_append] at hdrop
      have hlen : xs.length ≤ L.n := by
        have := congrArg List.length hdrop
        simp [preCells] at this hsz; omega
      rcases getN_list hg with ⟨h1, h2, h3⟩ | ⟨h1, h2⟩
      · refine ⟨L, (xs.drop off).take n, hL, by rw [h1]; exact VRs.take n (VRs.drop off hvs), ?_, ?_, hlt, ?_⟩
        · have := VRs.length hvs; simp; omega
        · have := VRs.length hvs; omega
        · intro j v hv
          rw [cell_of ho, Nat.add_assoc, ← Array.getElem?_toList, ← List.getElem?_drop, hdrop]
          rw [List.getElem?_take] at hv
          split at hv
          · rw [List.getElem?_drop] at hv
            have : off + j < xs.length := by
              rcases Nat.lt_or_ge (off + j) xs.length with h | h
              · exact h
              · rw [List.getElem?_eq_none h] at hv; cases hv
            rw [List.getElem?_append_left this]; exact hv
          · cases hv
      · subst h1 h2
        exact ⟨L, [], hL, VRs.nil, rfl, fun h => absurd rfl h, hlt, fun j v hv => by simp at hv⟩
    · rename_i s e fz
      obtain ⟨c, lo, hi, rest, rfl, hsz, hdrop, _⟩ := hbr
      obtain ⟨bs, h1, h2, h3⟩ := nbytes_ok (φ := φ) hF n off cs hg
      have hlen : (SS.den ρ s).length + rest.length = L.n := by
        have := congrArg List.length hdrop
        simp [byteVals] at this; omega
      refine ⟨L, byteVals bs, hL, h3, by simp [byteVals, h2], ?_, hlt, ?_⟩
      · intro hn
        have := congrArg List.length h1
        simp [h2] at this; omega
      · intro j v hv
        rw [cell_of ho, Nat.add_assoc, ← Array.getElem?_toList, ← List.getElem?_drop, hdrop]
        subst h1
        simp only [byteVals, List.getElem?_map] at hv
        cases hq : ((SS.den ρ s).drop off |>.take n)[j]? with
        | none => rw [hq] at hv; cases hv
        | some b =>
          rw [hq] at hv
          rw [List.getElem?_take] at hq
          split at hq
          · rw [List.getElem?_drop] at hq
            have hlt' : off + j < (SS.den ρ s).length := by
              rcases Nat.lt_or_ge (off + j) (SS.den ρ s).length with h | h
              · exact h
              · rw [List.getElem?_eq_none h] at hq; cases hq
            rw [List.getElem?_append_left (by simpa [byteVals] using hlt')]
            simp only [byteVals, List.getElem?_map, hq]
            exact hv
          · cases hq
    · rename_i ro r z k cs' e
      obtain ⟨⟨ek, c, lo, hi, rest, rfl, _, hsz, hdrop⟩, hok, _, hpk⟩ := hbr
      cases hb2 : Nat.ble (k * z) off && Nat.ble (off + n) ((k + 1) * z) && leSI F.lins (.lit (.ofNat k)) (.rlen r) 1
      · rw [hb2] at hg; cases hg
      · rw [hb2] at hg
        simp only [_root_.cond_true] at hg
        simp only [Bool.and_eq_true, Nat.ble_eq] at hb2
        obtain ⟨⟨hb2, hb3⟩, hb4⟩ := hb2
        have hb4 := leSI_ok hF hb4
        simp only [SI.den, Int.ofNat_eq_natCast] at hb4
        have hklt : k < (ρ.rows r).length := by omega
        have hxs : (ρ.rows r)[k]? = some (ρ.rows r)[k] := List.getElem?_eq_getElem hklt
        have hvs := hpk _ hxs
        generalize (ρ.rows r)[k] = xs at hxs hvs
        obtain ⟨f0, f1, f2⟩ := flat_at _ _ _ (fun q hq => (hok q hq).1) hxs
        have hlc := VRs.length hvs
        have hkz : (k + 1) * z = k * z + z := by rw [Nat.add_mul]; omega
        have hfl : (ρ.rows r).flatten.length ≤ L.n := by
          have := congrArg List.length hdrop
          simp only [List.length_drop, List.length_append, Array.length_toList] at this
          rcases hsz with hsz | ⟨_, _, hsz, _⟩
          · omega
          · exact hsz
        rcases getN_list hg with ⟨h1, h2, h3⟩ | ⟨h1, h2⟩
        · refine ⟨L, (xs.drop (off - k * z)).take n, hL, by rw [h1]; exact VRs.take n (VRs.drop _ hvs), ?_, ?_, hlt, ?_⟩
          · simp; omega
          · intro _; omega
          · intro j v hv
            rw [cell_of ho, Nat.add_assoc, ← Array.getElem?_toList, ← List.getElem?_drop, hdrop]
            rw [List.getElem?_take] at hv
            split at hv
            · rw [List.getElem?_drop] at hv
              rw [List.getElem?_append_left (by omega), show off + j = k * z + (off - k * z + j) by omega, f2 _ (by omega)]
              exact hv
            · cases hv
        · subst h1 h2
          exact ⟨L, [], hL, VRs.nil, rfl, fun h => absurd rfl h, hlt, fun j v hv => by simp at hv⟩
    · rename_i ro l b z cs' e
      obtain ⟨ek, c, lo, hi, xs, rest, rfl, _, hsz, hdrop, hvs, hpre⟩ := hbr
      cases hs : l.all scalarAV
      · rw [hs] at hg; cases hg
      · rw [hs] at hg
        simp only [_root_.cond_true] at hg
        obtain ⟨ls, hls⟩ : ∃ ls, ls = l.map (AV.val ρ) := ⟨_, rfl⟩
        have hvs : VRs ρ φ l ls := by rw [hls]; exact vals_VR hs
        have hdrop : List.drop L.base c.toList = ls ++ (b.flat ρ ++ xs ++ rest) := by
          rw [hdrop, hls]; simp [preCells, RX.flat]
        have hlen : ls.length ≤ L.n := by
          have := congrArg List.length hdrop
          rcases hsz with hsz | ⟨_, _, hsz, _⟩
          · simp at this; omega
          · simp only [preCells, RX.flat, List.length_append, ← hls] at hsz; omega
        rcases getN_list hg with ⟨h1, h2, h3⟩ | ⟨h1, h2⟩
        · refine ⟨L, (ls.drop off).take n, hL, by rw [h1]; exact VRs.take n (VRs.drop off hvs), ?_, ?_, hlt, ?_⟩
          · have := VRs.length hvs; simp; omega
          · have := VRs.length hvs; omega
          · intro j v hv
            rw [cell_of ho, Nat.add_assoc, ← Array.getElem?_toList, ← List.getElem?_drop, hdrop]
            rw [List.getElem?_take] at hv
            split at hv
            · rw [List.getElem?_drop] at hv
              have : off + j < ls.length := by
                rcases Nat.lt_or_ge (off + j) ls.length with h | h
                · exact h
                · rw [List.getElem?_eq_none h] at hv; cases hv
              rw [List.getElem?_append_left this]; exact hv
            · cases hv
        · subst h1 h2
          exact ⟨L, [], hL, VRs.nil, rfl, fun h => absurd rfl h, hlt, fun j v hv => by simp at hv⟩
    · cases hg
  · cases hg

/-! writing cells -/
theorem setAt_eq {α : Type} : ∀ (l : List α) (off : Nat) (vs r : List α), setAt l off vs = some r → off + vs.length ≤ l.length ∧ r = l.take off ++ vs ++ l.drop (off + vs.length)
  | l, 0, [], r, h => by
    have : setAt l 0 ([] : List α) = some l := by cases l <;> rfl
    rw [this] at h; cases h; simp
  | a :: l, 0, v :: vs, r, h => by
    simp only [setAt] at h
    split at h
    · rename_i q hq
      cases h
      obtain ⟨h1, h2⟩ := setAt_eq l 0 vs q hq
      simp at h1 h2 ⊢
      exact ⟨h1, h2⟩
    · cases h
  | [], 0, v :: vs, r, h => by simp [setAt] at h
  | a :: l, n + 1, vs, r, h => by
    simp only [setAt] at h
    split at h
    · rename_i q hq
      cases h
      obtain ⟨h1, h2⟩ := setAt_eq l n vs q hq
      refine ⟨by simp; omega, ?_⟩
      rw [show n + 1 + vs.length = (n + vs.length) + 1 by omega]
      simp [h2]
    · cases h
  | [], n + 1, vs, r, h => by simp [setAt] at h
theorem plain_one {a : AV} {v : Value} (hp : plain a = true) (hv : VR ρ φ a v) : v.oneCell' = true := by
  cases a with
  | agg cs => simp [plain] at hp
  | tup cs => simp [plain] at hp
  | bool b => simp only [VR] at hv; subst hv; rfl
  | int k n => simp only [VR] at hv; subst hv; rfl
  | str s => simp only [VR] at hv; subst hv; rfl
  | ptr id off => simp only [VR] at hv; obtain ⟨L, _, rfl⟩ := hv; rfl
  | nilPtr => simp only [VR] at hv; subst hv; rfl
  | slice id off len cap => simp only [VR] at hv; obtain ⟨L, _, _, _, rfl⟩ := hv; rfl
  | eslice id z => simp only [VR] at hv; obtain ⟨L, o, c, _, _, _, rfl⟩ := hv; rfl
  | nilSlice => simp only [VR] at hv; subst hv; rfl
  | func f x y => simp only [VR] at hv; obtain ⟨g, p, q, rfl, _⟩ := hv; rfl
  | nilFunc => simp only [VR] at hv; subst hv; rfl
  | iface t x => simp only [VR] at hv; obtain ⟨p, rfl, _⟩ := hv; rfl
  | nilIface => simp only [VR] at hv; subst hv; rfl
  | nilMap => simp only [VR] at hv; subst hv; rfl
  | iptr id z i off => simp only [VR] at hv; obtain ⟨L, _, _, rfl⟩ := hv; rfl
theorem plains_one : ∀ {cs : List AV} {xs : List Value}, cs.all plain = true → VRs ρ φ cs xs → ∀ v ∈ xs, v.oneCell' = true
  | [], xs, _, h, v, hv => by have := VRs.nil_left h; subst this; simp at hv
  | c :: cs, xs, hp, h, v, hv => by
    obtain ⟨x, ys, rfl, h1, h2⟩ := VRs.cons_left h
    simp only [List.all_cons, Bool.and_eq_true] at hp
    rcases List.mem_cons.1 hv with rfl | hv
    · exact plain_one hp.1 h1
    · exact plains_one hp.2 h2 v hv
/-- 'setN' is what storing the cells does -/
theorem setN_ok (hw : WR ρ φ h w) {id off : Nat} {vs : List AV} {h' : Heap} {xs : List Value} (hs : h.setN id off vs = some h') (hv : VRs ρ φ vs xs) :
    ∃ L w', φ id = some L ∧ off + vs.length ≤ L.n ∧ (storeCells ⟨L.blk, L.base + off, none⟩ xs).run P w = .ok () w' ∧ Evo ρ φ h w φ h' w' := by
  unfold Heap.setN at hs
  split at hs
  · rename_i b hb
    split at hs
    · rename_i b' hb'
      cases hs
      obtain ⟨L, o, hL, ho, hbr⟩ := hw.blk id b hb
      unfold ABlk.setN at hb'
      split at hb'
      · rename_i cs e
        cases hp : vs.all plain
        · rw [hp] at hb'; cases hb'
        · rw [hp] at hb'
          simp only [_root_.cond_true] at hb'
          split at hb'
          · rename_i r hr
            cases hb'
            obtain ⟨hle, hreq⟩ := setAt_eq _ _ _ _ hr
            obtain ⟨ek, c, lo, hi, ys, rest, rfl, hhi, hsz, hdrop, hvs, hpre⟩ := hbr
            obtain ⟨hhi0, hek⟩ : hi = 0 ∧ ek = e := hhi.resolve_left (fun h => by cases h)
            have hek := hek.symm
            subst hhi0 hek
            simp only [preCells, List.nil_append] at hdrop
            have hsz : c.size = L.base + L.n := by rcases hsz with h | ⟨h, _⟩; · exact h
                                                   · cases h
            have l1 := VRs.length hvs
            have l2 := VRs.length hv
            have hlen : ys.length + rest.length = L.n := by
              have := congrArg List.length hdrop
              simp at this; omega
            have hst := run_storeCells_atF P L.blk (L.base + off) e (lo, 0) xs 0 c w ho (Nat.zero_le _) (by omega) (plains_one hp hv)
            simp only [Nat.add_zero] at hst
            refine ⟨L, _, hL, by omega, hst, ?_⟩
            refine evo_put hw hb rfl hL ⟨rfl, rfl⟩ (setRow_size w _ _) (setRow_heap w _ _ _ _ _ ho) (fun k hk => setRow_other w _ _ _ hk) ?_
            obtain ⟨A, hA, htl⟩ : ∃ A, c.toList = A ++ (ys ++ rest) ∧ A.length = L.base :=
              ⟨c.toList.take L.base, by rw [← hdrop, List.take_append_drop], by simp; omega⟩
            rw [hA]
            refine ⟨_, _, lo, 0, ys.take off ++ xs ++ ys.drop (off + xs.length), rest, rfl, .inr ⟨rfl, rfl⟩, .inl ?_, ?_, ?_, trivial⟩
            · simp; omega
            · have e1 : (A ++ (ys ++ rest)).take (L.base + off) = A ++ ys.take off := by
                rw [List.take_append, htl, List.take_of_length_le (by omega), show L.base + off - L.base = off by omega, List.take_append, show off - ys.length = 0 by omega]
                simp
              have e2 : (A ++ (ys ++ rest)).drop (L.base + off + xs.length) = ys.drop (off + xs.length) ++ rest := by
                rw [List.drop_append, htl, List.drop_of_length_le (by omega), show L.base + off + xs.length - L.base = off + xs.length by omega, List.drop_append, show off + xs.length - ys.length = 0 by omega]
                simp
              rw [e1, e2]
              simp only [List.append_assoc, preCells, List.nil_append]
              rw [List.drop_append, htl, List.drop_of_length_le (by omega)]
              simp
            · rw [hreq, ← l2]
              exact VRs.append (VRs.append (VRs.take _ hvs) hv) (VRs.drop _ hvs)
          · cases hb'
      · cases hb'
    · cases hs
  · cases hs
end
end Go.Sx
