import Derived.Test.YtanpkoghglnphaaGreatDoorStarC
import Derived.Test.YtanpkoghglnphaaGreatDoorPost
import Derived.Carry
namespace Go.Proofs.YtanpkoghglnphaaGreatDoor
set_option maxRecDepth 100000
open Go.ChangeMaps Go.ChangeShapes Go.WideShapes Go.ChangeAt Go.RowKit Go.Sx
theorem laid18 : laidOutB Tryz.prog = true := by kernel_rfl
theorem read22 : Tryz.prog.readableRec 22 = true := by kernel_rfl
theorem row22 : 22 < Tryz.prog.types.size := of_decide_eq_true (by kernel_rfl)
theorem cells9 : Tryz.prog.cellsOf 9 = 1 := by kernel_rfl
theorem kept_same {W W' : World} (h : Kept W W') {p : MemPlace} (hp : p.block < W.heap.size) : W.sameAt W' p := by
  cases p with
  | cell b o => exact World.cell?_of_block (w := W) (h.blk b hp)
  | map b => exact h.blk b hp
/-- a slice of texts that was handed in reads as it did -/
theorem strs_stay {H : Type} {enc : TypeId × Value → H} {W W' : World} {v : Value} {d : DataW H} {ps : List MemPlace} {sp : Nat → Bool} (h : DataW.Trod enc Tryz.prog W 0 (fun _ => true) true 22 v d ps) (hk : Kept W W') (hlt : ∀ p ∈ ps, p.block < W.heap.size) (hs : ∀ p ∈ ps, sp p.block = true) :
    DataW.Trod enc Tryz.prog W' 0 sp true 22 v d ps := WideElems.Trod_stays laid18 read22 row22 h (fun p hp => kept_same hk (hlt p hp)) hs
/-- where a slice of texts lies -/
theorem slice_place {W : World} {base : Nat} {a : Addr} {len cap : Nat} (h : Value.okWide Tryz.prog W .any base 22 (.slice (some a) len cap)) : a.spot = none ∧ ∃ c ek fz, W.heap[a.block]? = some (.cells c ek fz) := by
  have ht : Tryz.prog.underlying 22 = some (.slice 9) := Tryz.underlying22
  simp only [Value.okWide, ht, Cell.okWide, Cell.ok] at h
  obtain ⟨_, _, _, h1, row, n, h2, _⟩ := h
  refine ⟨h1, ?_⟩
  unfold World.shape? at h2
  split at h2
  · exact ⟨_, _, _, by assumption⟩
  · cases h2
set_option maxRecDepth 100000 in
theorem contract7 (H : Type) (enc : TypeId × Value → H) (W : World) (base : Nat) (args : Array Value) (ds gs : List (DataW H)) (before : List MemPlace)
    (hval : ∀ (j : Nat) t v, Tryz.f7.params[j]? = some t → args[j]? = some v → Value.okWide Tryz.prog W .any base t v)
    (hW : DataW.Whole enc Tryz.prog Tryz.f7.params.toList Rows.expandStarSpec.vars false W args.toList ds gs before) :
    Calls Tryz.prog 7 args W fun e W' => ∃ v, e = .returned v ∧ Rows.expandStarSpec.post enc Tryz.prog Tryz.f7 false true false false W args v W' := by
  have hW' := hW
  have hlt : ∀ p ∈ before, p.block < W.heap.size := fun p hp => hW.lt p hp
  obtain ⟨p, q, hA0, hV, rfl, hfz, hnd⟩ := hW
  have hA : DataW.TrodAll enc Tryz.prog W 0 (fun _ => true) true Tryz.f7.params.toList args.toList ds p := hA0
  rw [Tryz.params7] at hA hval
  obtain ⟨v0, vs0, d0, ds0, p0, q0, ha0, rfl, rfl, h0, r0⟩ := trodAll_cons hA
  obtain ⟨v1, vs1, d1, ds1, p1, q1, rfl, rfl, rfl, h1, r1⟩ := trodAll_cons r0
  obtain ⟨v2, vs2, d2, ds2, p2, q2, rfl, rfl, rfl, h2, r2⟩ := trodAll_cons r1
  obtain ⟨rfl, rfl, rfl⟩ := trodAll_nil r2
  obtain rfl : args = #[v0, v1, v2] := by cases args; simp_all
  obtain ⟨rfl, rfl⟩ := trodVars_none hV
  obtain ⟨s, rfl, rfl, rfl, hs⟩ := open_string Tryz.underlying9 (hval 1 9 v1 rfl rfl) h1
  obtain ⟨b, rfl, rfl, rfl⟩ := open_bool Tryz.underlying4 (hval 2 4 v2 rfl rfl) h2
  clear hA0
  have fin : ∀ W', Kept W W' → Rows.expandStarSpec.post enc Tryz.prog Tryz.f7 false true false false W #[v0, .string s, .bool b] (.bool true) W' := fun W' hk =>
    post_of_kept (pa := p0 ++ ([] ++ ([] ++ []))) (pv := []) hW' (fun _ _ _ => trodAll_cons_mk (shut_bool Tryz.underlying4 _) trodAll_mk0)
      (fun sp hsp => trodAll_cons_mk (strs_stay h0 hk (fun p hp => hlt p (List.mem_append_left _ (List.mem_append_left _ hp))) (fun p hp => hsp p (List.mem_append_left _ (List.mem_append_left _ hp)))) (trodAll_cons_mk (shut_string Tryz.underlying9 hs) (trodAll_cons_mk (shut_bool Tryz.underlying4 _) trodAll_mk0)))
      (fun _ _ => rfl) rfl hk (ok_one (by kernel_rfl) rfl (okWide_bool_mk Tryz.underlying4 _))
  have hv0 := hval 0 22 v0 rfl rfl
  obtain ⟨a0, len, cap, rfl⟩ := okWide_slice Tryz.underlying22 hv0
  obtain ⟨fuel, hf⟩ := h0
  rcases open_strings Tryz.underlying22 Tryz.underlying9 cells9 hf with ⟨hcs, hx⟩ | ⟨a, len', cap', ss, hcs, _, hl, hm, hz, hx, hcell, hsz⟩
  · simp only [Value.cells, List.cons.injEq, and_true] at hcs
    rw [hcs] at fin ⊢
    exact (star_nil s b W).mono fun e W' ⟨he, hk⟩ => ⟨_, he, fin W' hk⟩
  · simp only [Value.cells, List.cons.injEq, and_true] at hcs
    rw [hcs] at fin hv0 ⊢
    obtain ⟨hsp, c, ek, fz, hblk⟩ := slice_place hv0
    obtain ⟨ab, ao, asp⟩ := a
    simp only at hsp hblk
    subst hsp
    simp only [if_true] at hz
    refine (star_row (ss := ss) hblk hl hz (fun i hi => ?_) s b).mono fun e W' ⟨he, hk⟩ => ⟨_, he, fin W' hk⟩
    have := hcell i (by omega)
    rw [add_none, cell_of hblk] at this
    exact this
end Go.Proofs.YtanpkoghglnphaaGreatDoor
