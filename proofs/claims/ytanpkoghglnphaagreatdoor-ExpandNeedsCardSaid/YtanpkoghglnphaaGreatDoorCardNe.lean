import Derived.Test.YtanpkoghglnphaaGreatDoorNeH
import Derived.SliceStrings
import Derived.WideShapes
import Derived.Test.YtanpkoghglnphaaGreatDoorPost
import Derived.Carry
import Derived.ChangeSlices
namespace Go.Proofs.YtanpkoghglnphaaGreatDoor
set_option maxRecDepth 100000
open Go.ChangeMaps Go.ChangeShapes Go.WideShapes Go.ChangeAt Go.RowKit Go.Sx
theorem laid18 : laidOutB Tryz.prog = true := by kernel_rfl
theorem read22 : Tryz.prog.readableRec 22 = true := by kernel_rfl
theorem row22 : 22 < Tryz.prog.types.size := of_decide_eq_true (by kernel_rfl)
theorem cells9 : Tryz.prog.cellsOf 9 = 1 := by kernel_rfl
theorem kept_same {W W' : World} (h : Kept W W') {p : MemPlace} (hp : p.block < W.heap.size) : W.sameAt W' p := by
  cases p with
  | cell b o => exact World.cell?_of_block (w := W) (h.blk b hp)
  | map b => exact h.blk b hp
/-- a slice that was handed in reads as it did -/
theorem slice_stays {H : Type} {enc : TypeId × Value → H} {W W' : World} {t : Nat} (hr : Tryz.prog.readableRec t = true) (hrow : t < Tryz.prog.types.size) {v : Value} {d : DataW H} {ps : List MemPlace} {sp : Nat → Bool} (h : DataW.Trod enc Tryz.prog W 0 (fun _ => true) true t v d ps) (hk : Kept W W') (hlt : ∀ p ∈ ps, p.block < W.heap.size) (hs : ∀ p ∈ ps, sp p.block = true) :
    DataW.Trod enc Tryz.prog W' 0 sp true t v d ps := WideElems.Trod_stays laid18 hr hrow h (fun p hp => kept_same hk (hlt p hp)) hs
/-- where a slice lies -/
theorem slice_place {W : World} {base t e : Nat} (ht : Tryz.prog.underlying t = some (.slice e)) {a : Addr} {len cap : Nat} (h : Value.okWide Tryz.prog W .any base t (.slice (some a) len cap)) : a.spot = none ∧ ∃ c ek fz, W.heap[a.block]? = some (.cells c ek fz) := by
  simp only [Value.okWide, ht, Cell.okWide, Cell.ok] at h
  obtain ⟨_, _, _, h1, row, n, h2, _⟩ := h
  refine ⟨h1, ?_⟩
  unfold World.shape? at h2
  split at h2
  · exact ⟨_, _, _, by assumption⟩
  · cases h2
theorem size_of {c : Array Value} {off cap : Nat} {f : Nat → Value} (h : ∀ i, i < cap → ∃ x, c[off + i]? = some x ∧ x = f i) : 0 < cap → off + cap ≤ c.size := by
  intro hc
  obtain ⟨x, hx, _⟩ := h (cap - 1) (by omega)
  rcases Nat.lt_or_ge (off + (cap - 1)) c.size with h | h
  · omega
  · rw [Array.getElem?_eq_none h] at hx; cases hx
theorem form_strs {H : Type} {enc : TypeId × Value → H} {W : World} {base : Nat} {v : Value} {d : DataW H} {ps : List MemPlace} (hv : Value.okWide Tryz.prog W .any base 22 v) (h : DataW.Trod enc Tryz.prog W 0 (fun _ => true) true 22 v d ps) : ∃ ss : List (List UInt8), FormOf W (fun i x => x = vstr (ss.getD i [])) v := by
  obtain ⟨a0, len, cap, rfl⟩ := okWide_slice Tryz.underlying22 hv
  obtain ⟨fuel, hf⟩ := h
  rcases open_strings Tryz.underlying22 Tryz.underlying9 cells9 hf with ⟨hcs, hx⟩ | ⟨a, len', cap', ss, hcs, _, hl, hm, hz, hx, hcell, hsz⟩
  · simp only [Value.cells, List.cons.injEq, and_true] at hcs
    exact ⟨[], .inl hcs⟩
  · simp only [Value.cells, List.cons.injEq, and_true] at hcs
    rw [hcs] at hv ⊢
    obtain ⟨hsp, c, ek, fz, hblk⟩ := slice_place Tryz.underlying22 hv
    obtain ⟨ab, ao, asp⟩ := a
    simp only at hsp hblk
    subst hsp
    simp only [if_true] at hz
    have key : ∀ i, i < cap' → ∃ x, c[ao + i]? = some x ∧ x = vstr ((ss.map fun s => s.data.toList).getD i []) := by
      intro i hi
      have := hcell i (by omega)
      rw [add_none, cell_of hblk] at this
      refine ⟨_, this, ?_⟩
      have hi2 : i < ss.length := by omega
      simp [vstr, List.getD, List.getElem?_eq_getElem hi2]
    exact ⟨ss.map fun s => s.data.toList, .inr ⟨_, _, _, _, _, _, _, rfl, hblk, hl, size_of key, key⟩⟩
set_option maxRecDepth 100000 in
theorem contract5 (H : Type) (enc : TypeId × Value → H) (W : World) (base : Nat) (args : Array Value) (ds gs : List (DataW H)) (before : List MemPlace)
    (hval : ∀ (j : Nat) t v, Tryz.f5.params[j]? = some t → args[j]? = some v → Value.okWide Tryz.prog W .any base t v)
    (hW : DataW.Whole enc Tryz.prog Tryz.f5.params.toList Rows.expandNeedsSpec.vars false W args.toList ds gs before) :
    Calls Tryz.prog 5 args W fun e W' => ∃ v, e = .returned v ∧ Rows.expandNeedsSpec.post enc Tryz.prog Tryz.f5 false true false false W args v W' := by
  have hW' := hW
  have hlt : ∀ p ∈ before, p.block < W.heap.size := fun p hp => hW.lt p hp
  obtain ⟨p, q, hA0, hV, rfl, hfz, hnd⟩ := hW
  have hA : DataW.TrodAll enc Tryz.prog W 0 (fun _ => true) true Tryz.f5.params.toList args.toList ds p := hA0
  rw [Tryz.params5] at hA hval
  obtain ⟨v0, vs0, d0, ds0, p0, q0, ha0, rfl, rfl, h0, r0⟩ := trodAll_cons hA
  obtain ⟨v1, vs1, d1, ds1, p1, q1, rfl, rfl, rfl, h1, r1⟩ := trodAll_cons r0
  obtain ⟨rfl, rfl, rfl⟩ := trodAll_nil r1
  obtain rfl : args = #[v0, v1] := by cases args; simp_all
  obtain ⟨rfl, rfl⟩ := trodVars_none hV
  obtain ⟨s, rfl, rfl, rfl⟩ := open_bool Tryz.underlying4 (hval 1 4 v1 rfl rfl) h1
  clear hA0
  have fin : ∀ W', Kept W W' → Rows.expandNeedsSpec.post enc Tryz.prog Tryz.f5 false true false false W #[v0, .bool s] (.bool true) W' := fun W' hk =>
    post_of_kept (pa := p0 ++ ([] ++ [])) (pv := []) hW' (fun _ _ _ => trodAll_cons_mk (shut_bool Tryz.underlying4 _) trodAll_mk0)
      (fun sp hsp => trodAll_cons_mk (slice_stays read22 row22 h0 hk (fun p hp => hlt p (List.mem_append_left _ (List.mem_append_left _ hp))) (fun p hp => hsp p (List.mem_append_left _ (List.mem_append_left _ hp))))
        (trodAll_cons_mk (shut_bool Tryz.underlying4 _) trodAll_mk0))
      (fun _ _ => rfl) rfl hk (ok_one (by kernel_rfl) rfl (okWide_bool_mk Tryz.underlying4 _))
  obtain ⟨ss, f0⟩ := form_strs (hval 0 22 v0 rfl rfl) h0
  exact (needs_ok s f0).mono fun e W' ⟨he, hk⟩ => ⟨_, he, fin W' hk⟩
end Go.Proofs.YtanpkoghglnphaaGreatDoor
