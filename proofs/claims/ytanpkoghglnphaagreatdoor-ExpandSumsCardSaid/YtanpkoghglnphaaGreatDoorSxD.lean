import Derived.Test.YtanpkoghglnphaaGreatDoorSxC
import Derived.Laws.CopyRow
import Derived.Lib.Bytealg
import Derived.Lib.Overlaps
import Derived.Laws.BytesString
import Derived.Great.FillDense
import Derived.Laws.Tables
namespace Go.Sx
section
variable {C : Ctx} {P : Program} {ρ : Env} (hC : CtxOK C P ρ) {φ : Pl} {F : Facts} (hF : F.ok ρ) {h : Heap} {w : World} (hw : WR ρ φ h w)

theorem run_loadCells_at {P : Program} {w : World} {b o : Nat} {ys : List Value} (hy : ∀ j v, ys[j]? = some v → w.cell? ⟨b, o + j, none⟩ = some v) :
    (loadCells ⟨b, o, none⟩ ys.length).run P w = .ok ys.toArray w :=
  run_loadCells_list w ⟨b, o, none⟩ ys (fun j v hv => by rw [add_none]; exact hy j v hv)

include hC hF hw in
theorem loadAt_ok {t : Nat} {a v : AV} {x : Value} (ha : VR ρ φ a x) (hv : loadAt C F h t a = .ok v) : ∃ y, (Instr.loadAt t x).run P w = .ok y w ∧ VR ρ φ v y := by
  unfold loadAt at hv
  obtain ⟨r, hr, hv⟩ := Ev.bind_ok hv
  have hr := row_ok hr
  split at hv
  · rename_i id off
    simp only [VR] at ha
    obtain ⟨L, hL, rfl⟩ := ha
    simp only [Instr.loadAt, Instr.sureAddr, loadVar, Sem.run_bind, Sem.run_pure, Result.andThen_ok, run_isAgg hC hr]
    cases hag : isAgg r.u
    · rw [hag] at hv
      simp only [cond_false] at hv
      unfold loadOne at hv
      split at hv
      · rename_i v' hg
        cases hv
        obtain ⟨M, ys, hM, hvs, hl, _, _, hc⟩ := getN_ok hF hw hg
        rw [hL] at hM; cases hM
        obtain ⟨y, ys', rfl, hy, hn⟩ := VRs.cons_left hvs
        have := VRs.nil_left hn; subst this
        have hcell := hc 0 y rfl
        refine ⟨y, ?_, hy⟩
        simp only [Nat.add_zero] at hcell
        simp [run_load, hcell]
      · cases hv
    · rw [hag] at hv
      simp only [_root_.cond_true] at hv
      unfold loadAgg at hv
      obtain ⟨cs, hg, hv⟩ := Ev.bind_ok hv
      cases hv
      have hg := Ev.ofOpt_ok hg
      obtain ⟨M, ys, hM, hvs, hl, _, _, hc⟩ := getN_ok hF hw hg
      rw [hL] at hM; cases hM
      have hrun := run_loadCells_at (P := P) hc
      rw [hl] at hrun
      refine ⟨.agg ⟨ys⟩, ?_, by simp only [VR]; exact ⟨ys, rfl, hvs⟩⟩
      simp [run_size hC hr, hrun]
  · rename_i id z i off _
    simp only [VR] at ha
    obtain ⟨L, hL, hi0, rfl⟩ := ha
    simp only [Instr.loadAt, Instr.sureAddr, loadVar, Sem.run_bind, Sem.run_pure, Result.andThen_ok, run_isAgg hC hr]
    unfold loadRow at hv
    split at hv
    · rename_i ro r' z' i' cs e hg
      cases hb : z.beq z' && sameSI i i' && leSI F.lins i (.rlen r') 1
      · rw [hb] at hv; cases hv
      · rw [hb] at hv
        simp only [_root_.cond_true] at hv
        simp only [Bool.and_eq_true] at hb
        have e1 := beq_nat hb.1.1; subst e1
        have e2 := sameSI_den (ρ := ρ) hb.1.2
        have hb4 := leSI_ok hF hb.2
        simp only [SI.den] at hb4
        have hklt : (i.den ρ).toNat < (ρ.rows r').length := by omega
        obtain ⟨M, o, hM, ho, ⟨ek, c, lo, hi, rest, rfl, _, hsz, hdrop⟩, hok, _, hpk⟩ := hw.blk _ _ hg
        rw [hL] at hM; cases hM
        rw [← e2] at hpk
        have hxs : (ρ.rows r')[(i.den ρ).toNat]? = some (ρ.rows r')[(i.den ρ).toNat] := List.getElem?_eq_getElem hklt
        have hvs := hpk _ hxs
        generalize (ρ.rows r')[(i.den ρ).toNat] = xs at hxs hvs
        obtain ⟨f0, f1, f2⟩ := flat_at _ _ _ (fun q hq => (hok q hq).1) hxs
        have hlc := VRs.length hvs
        have hcell : ∀ j v, xs[off + j]? = some v → w.cell? ⟨L.blk, L.base + (off + (i.den ρ).toNat * z) + j, none⟩ = some v := by
          intro j v hv
          have hlt : off + j < z := by
            rw [← f0]
            rcases Nat.lt_or_ge (off + j) xs.length with h | h
            · exact h
            · rw [List.getElem?_eq_none h] at hv; cases hv
          have hkz : ((i.den ρ).toNat + 1) * z = (i.den ρ).toNat * z + z := by rw [Nat.add_mul]; omega
          rw [cell_of ho, show L.base + (off + (i.den ρ).toNat * z) + j = L.base + ((i.den ρ).toNat * z + (off + j)) by omega, ← Array.getElem?_toList, ← List.getElem?_drop, hdrop]
          rw [List.getElem?_append_left (by omega), f2 _ hlt]
          exact hv
        cases hag : isAgg r.u
        · rw [hag] at hv
          simp only [cond_false] at hv
          have hv := Ev.ofOpt_ok hv
          obtain ⟨y, h1, h2⟩ := VRs.get hvs _ _ hv
          have := hcell 0 y (by simpa using h1)
          simp only [Nat.add_zero] at this
          refine ⟨y, ?_, h2⟩
          simp [run_load, this]
        · rw [hag] at hv
          simp only [_root_.cond_true] at hv
          replace hv := Ev.bind_ok hv; obtain ⟨x, hx, hv⟩ := hv
          cases hv
          rcases getN_list (Ev.ofOpt_ok hx) with ⟨h1, h2, h3⟩ | ⟨h1, h2⟩
          · have hvs2 : VRs ρ φ x ((xs.drop off).take r.size) := by rw [h1]; exact VRs.take _ (VRs.drop _ hvs)
            have hc2 : ∀ j v, ((xs.drop off).take r.size)[j]? = some v → w.cell? ⟨L.blk, L.base + (off + (i.den ρ).toNat * z) + j, none⟩ = some v := by
              intro j v hv
              rw [List.getElem?_take] at hv
              split at hv
              · rw [List.getElem?_drop] at hv; exact hcell j v hv
              · cases hv
            have hrun := run_loadCells_at (P := P) hc2
            have hl2 : ((xs.drop off).take r.size).length = r.size := by have := VRs.length hvs2; omega
            rw [hl2] at hrun
            refine ⟨.agg ⟨_⟩, ?_, by simp only [VR]; exact ⟨_, rfl, hvs2⟩⟩
            simp [run_size hC hr, hrun]
          · subst h2
            have hrun := run_loadCells_at (P := P) (w := w) (ys := []) (b := L.blk) (o := L.base + (off + (i.den ρ).toNat * z)) (fun j v hv => by simp at hv)
            refine ⟨.agg ⟨[]⟩, ?_, by simp only [VR]; exact ⟨_, rfl, VRs.nil⟩⟩
            simp only [List.length_nil] at hrun
            simp [run_size hC hr, h1, hrun]
    · cases hv
  · cases hv

include hC hw in
theorem storeAt_ok {t : Nat} {a v : AV} {x y : Value} {h' : Heap} (ha : VR ρ φ a x) (hv : VR ρ φ v y) (hs : storeAt C h t a v = .ok h') :
    ∃ w', (Instr.storeAt t x y).run P w = .ok () w' ∧ Evo ρ φ h w φ h' w' := by
  unfold storeAt at hs
  obtain ⟨r, hr, hs⟩ := Ev.bind_ok hs
  have hr := row_ok hr
  split at hs
  · rename_i id off
    obtain ⟨hb, hs⟩ := bif_ok hs
    have hb := beq_nat hb
    have hs := Ev.ofOpt_ok hs
    simp only [VR] at ha
    obtain ⟨L, hL, rfl⟩ := ha
    obtain ⟨M, w', hM, hle, hrun, hevo⟩ := setN_ok (P := P) hw hs hv.cells
    rw [hL] at hM; cases hM
    refine ⟨w', ?_, hevo⟩
    have hsz : y.cells.size = r.size := by
      have := VRs.length hv.cells
      simp at this; omega
    simp [Instr.storeAt, Instr.sureAddr, storeVar, run_size hC hr, hsz, hrun]
  · cases hs

theorem evo_alloc_cells (hw : WR ρ φ h w) (cs : List AV) (xs rest : List Value) (e : Nat) (hv : VRs ρ φ cs xs) :
    Evo ρ φ h w (φ.with h.next ⟨w.heap.size, 0, (xs ++ rest).length⟩) (h.add (.cells false none cs e)) (w.alloc (.cells (xs ++ rest).toArray e (0, 0))) := by
  refine evo_new hw _ _ _ ?_
  exact ⟨_, _, 0, 0, xs, rest, rfl, .inr ⟨rfl, rfl⟩, by simp, by simp [preCells], VRs.mono (Pl.le_with _ (hw.fresh _ (Nat.le_refl _))) _ _ hv, trivial⟩

include hw in
theorem newVar_ok {t : Nat} {v : AV} {y : Value} (hv : VR ρ φ v y) : ∃ φ' w' p, (Go.newVar t y).run P w = .ok p w' ∧ Evo ρ φ h w φ' (newVar h t v).2 w' ∧ VR ρ φ' (newVar h t v).1 (.pointer (some p)) := by
  have he := evo_alloc_cells hw v.cells y.cells.toList [] t hv.cells
  simp only [List.append_nil, Array.toArray_toList] at he
  refine ⟨_, _, ⟨w.heap.size, 0, none⟩, ?_, he, ?_⟩
  · rfl
  · simp only [newVar, VR]
    exact ⟨_, Pl.with_same _ _ _, rfl⟩

include hC in
theorem fieldAt_ok {s f : Nat} {a v : AV} {x : Value} (ha : VR ρ φ a x) (hv : fieldAt C s a f = .ok v) : ∃ y, (Instr.fieldAt s x f).run P w = .ok y w ∧ VR ρ φ v y := by
  unfold fieldAt at hv
  obtain ⟨r, hr, hv⟩ := Ev.bind_ok hv
  have hr := row_ok hr
  split at hv
  · rename_i fs id off hu _
    split at hv
    · rename_i fd hfd
      obtain ⟨ft, hft, hv⟩ := Ev.bind_ok hv
      have hft := row_ok hft
      cases hz : ft.size.beq 0
      · rw [hz] at hv
        cases hv
        simp only [VR] at ha ⊢
        obtain ⟨L, hL, rfl⟩ := ha
        have hne : ft.size ≠ 0 := fun e => by rw [nbeq_true e] at hz; cases hz
        have hfd' : fs[f]? = some fd := by simpa using hfd
        refine ⟨_, ?_, L, hL, rfl⟩
        simp [Instr.fieldAt, Instr.sureAddr, run_under hC hr, hu, hfd', fieldPlace, run_size hC hft, hne, add_none, Nat.add_assoc]
      · rw [hz] at hv; cases hv
    · cases hv
  · rename_i fs id z i off hu _
    split at hv
    · rename_i fd hfd
      obtain ⟨ft, hft, hv⟩ := Ev.bind_ok hv
      have hft := row_ok hft
      cases hz : ft.size.beq 0
      · rw [hz] at hv
        cases hv
        simp only [VR] at ha ⊢
        obtain ⟨L, hL, hi0, rfl⟩ := ha
        have hne : ft.size ≠ 0 := fun e => by rw [nbeq_true e] at hz; cases hz
        have hfd' : fs[f]? = some fd := by simpa using hfd
        refine ⟨_, ?_, L, hL, hi0, rfl⟩
        rw [show L.base + (off + fd.offset + (i.den ρ).toNat * z) = L.base + (off + (i.den ρ).toNat * z) + fd.offset by omega]
        simp [Instr.fieldAt, Instr.sureAddr, run_under hC hr, hu, hfd', fieldPlace, run_size hC hft, hne, add_none, Nat.add_assoc]
      · rw [hz] at hv; cases hv
    · cases hv
  · cases hv

include hC in
theorem partOf_ok {t off : Nat} {cs : List AV} {v : AV} {xs : List Value} (hc : VRs ρ φ cs xs) (hv : partOf C t cs off = .ok v) : ∃ y, (part t ⟨xs⟩ off).run P w = .ok y w ∧ VR ρ φ v y := by
  unfold partOf at hv
  obtain ⟨r, hr, hv⟩ := Ev.bind_ok hv
  have hr := row_ok hr
  cases hag : isAgg r.u
  · rw [hag] at hv
    simp only [cond_false] at hv
    have hv := Ev.ofOpt_ok hv
    obtain ⟨y, hy, hvr⟩ := VRs.get hc off v hv
    have hy' : (⟨xs⟩ : Array Value)[off]? = some y := by simpa using hy
    refine ⟨y, ?_, hvr⟩
    simp [part, run_isAgg hC hr, hag, hy']
  · rw [hag] at hv
    simp only [_root_.cond_true] at hv
    obtain ⟨ys, hg, hv⟩ := Ev.bind_ok hv
    cases hv
    have hg := Ev.ofOpt_ok hg
    have heq : ys = (cs.drop off).take r.size := by
      rcases getN_list hg with ⟨h1, _⟩ | ⟨h1, h2⟩
      · exact h1
      · rw [h1, h2]; simp
    refine ⟨.agg ⟨(xs.drop off).take r.size⟩, ?_, by simp only [VR]; exact ⟨_, rfl, by rw [heq]; exact VRs.take _ (VRs.drop _ hc)⟩⟩
    have hex : (⟨xs⟩ : Array Value).extract off (off + r.size) = ⟨(xs.drop off).take r.size⟩ := by
      apply Array.toList_inj.1
      simp [List.take_drop]
    simp [part, run_isAgg hC hr, hag, run_size hC hr]

include hC in
theorem fieldOf_ok {s f : Nat} {a v : AV} {x : Value} (ha : VR ρ φ a x) (hv : fieldOf C s a f = .ok v) : ∃ y, (Instr.field s x f).run P w = .ok y w ∧ VR ρ φ v y := by
  unfold fieldOf at hv
  obtain ⟨r, hr, hv⟩ := Ev.bind_ok hv
  have hr := row_ok hr
  split at hv
  · rename_i fs cs hu _
    split at hv
    · rename_i fd hfd
      simp only [VR] at ha
      obtain ⟨xs, rfl, hxs⟩ := ha
      obtain ⟨y, hy, hvr⟩ := partOf_ok hC (w := w) hxs hv
      have hfd' : fs[f]? = some fd := by simpa using hfd
      refine ⟨y, ?_, hvr⟩
      simp [Instr.field, run_under hC hr, hu, hfd', asAgg, hy]
    · cases hv
  · cases hv

include hF in
theorem within_ok {i n : SI} {b : Bool} (hb : within F i n = .ok b) : b = true → 0 ≤ i.den ρ ∧ i.den ρ < n.den ρ := by
  unfold within at hb
  obtain ⟨a, ha, hb⟩ := Ev.bind_ok hb
  have h1 := test_ok hF ha
  rw [SB.cmpS_den] at h1
  intro e
  subst e
  cases a
  · cases hb
  · simp only [_root_.cond_true] at hb
    have h2 := test_ok hF hb
    rw [SB.cmpS_den] at h2
    simp [intCmp, ltInt_iff, SI.den] at h1 h2
    exact ⟨h1, h2⟩
theorem nat?_den {i : SI} {k : Nat} (h : i.nat? = some k) (ρ : Env) : i.den ρ = k := by
  unfold SI.nat? at h
  split at h
  · cases h; rfl
  · cases h

include hF in
theorem pin_ok {i : SI} : ∀ {n k j : Nat}, pin F i k n = .ok j → i.den ρ = j
  | 0, k, j, h => by
    simp only [pin] at h
    obtain ⟨hb, h⟩ := bif_ok h
    cases h
    simp only [Bool.and_eq_true] at hb
    have h1 := leSI_ok hF hb.1; have h2 := leSI_ok hF hb.2
    simp only [SI.den, Int.ofNat_eq_natCast] at h1 h2; omega
  | n + 1, k, j, h => by
    simp only [pin] at h
    obtain ⟨a, _, h⟩ := Ev.bind_ok h
    cases a
    · exact pin_ok h
    · obtain ⟨hb, h⟩ := bif_ok h
      cases h
      simp only [Bool.and_eq_true] at hb
      have h1 := leSI_ok hF hb.1; have h2 := leSI_ok hF hb.2
      simp only [SI.den, Int.ofNat_eq_natCast] at h1 h2; omega
include hC hF in
theorem indexAddr_ok {t : Nat} {a b v : AV} {x y : Value} (ha : VR ρ φ a x) (hb : VR ρ φ b y) (hv : indexAddr C F t a b = .ok v) : ∃ z, (Instr.indexAt t x y).run P w = .ok z w ∧ VR ρ φ v z := by
  unfold indexAddr at hv
  obtain ⟨r, hr, hv⟩ := Ev.bind_ok hv
  have hr := row_ok hr
  split at hv
  · rename_i kk i _
    simp only [VR] at hb
    subst hb
    split at hv
    · rename_i n e id off hu _
      obtain ⟨ok, hok, hv⟩ := Ev.bind_ok hv
      obtain ⟨hok1, hv⟩ := bif_ok hv
      have hin := within_ok hF hok hok1
      unfold elemPtr at hv
      obtain ⟨re, hre, hv⟩ := Ev.bind_ok hv
      have hre := row_ok hre
      have key : ∀ j : Nat, i.den ρ = j → v = .ptr id (off + j * re.size) → ∃ z, (Instr.indexAt t x (.int kk (i.den ρ))).run P w = .ok z w ∧ VR ρ φ v z := by
        intro j hd hv
        subst hv
        simp only [VR] at ha ⊢
        obtain ⟨L, hL, rfl⟩ := ha
        simp only [SI.den] at hin
        rw [hd] at hin ⊢
        refine ⟨_, ?_, L, hL, rfl⟩
        simp [Instr.indexAt, Instr.sureAddr, asIntOf, run_under hC hr, hu, run_size hC hre, add_none, Nat.add_assoc]
        omega
      split at hv
      · rename_i j hj
        cases hv
        exact key j (nat?_den hj ρ) rfl
      · split at hv
        · obtain ⟨j, hj, hv⟩ := Ev.bind_ok hv
          cases hv
          exact key j (pin_ok hF hj) rfl
        cases hv
        simp only [VR] at ha ⊢
        obtain ⟨L, hL, rfl⟩ := ha
        simp only [SI.den] at hin
        obtain ⟨j, hj⟩ := Int.eq_ofNat_of_zero_le hin.1
        rw [hj] at hin ⊢
        refine ⟨_, ?_, L, hL, by omega, rfl⟩
        simp [Instr.indexAt, Instr.sureAddr, asIntOf, run_under hC hr, hu, run_size hC hre, add_none, Nat.add_assoc]
        omega
    · rename_i e id off len cap hu _
      obtain ⟨ok, hok, hv⟩ := Ev.bind_ok hv
      obtain ⟨hok1, hv⟩ := bif_ok hv
      have hin := within_ok hF hok hok1
      unfold elemPtr at hv
      obtain ⟨re, hre, hv⟩ := Ev.bind_ok hv
      have hre := row_ok hre
      have key : ∀ j : Nat, i.den ρ = j → v = .ptr id (off + j * re.size) → ∃ z, (Instr.indexAt t x (.int kk (i.den ρ))).run P w = .ok z w ∧ VR ρ φ v z := by
        intro j hd hv
        subst hv
        simp only [VR] at ha ⊢
        obtain ⟨L, hL, hl0, _, rfl⟩ := ha
        rw [hd] at hin ⊢
        have hlt : (j : Int) < ((len.den ρ).toNat : Int) := by omega
        refine ⟨_, ?_, L, hL, rfl⟩
        simp [Instr.indexAt, asIntOf, run_under hC hr, hu, run_size hC hre, add_none, Nat.add_assoc]
        omega
      split at hv
      · rename_i j hj
        cases hv
        exact key j (nat?_den hj ρ) rfl
      · split at hv
        · obtain ⟨j, hj, hv⟩ := Ev.bind_ok hv
          cases hv
          exact key j (pin_ok hF hj) rfl
        cases hv
        simp only [VR] at ha ⊢
        obtain ⟨L, hL, hl0, _, rfl⟩ := ha
        obtain ⟨j, hj⟩ := Int.eq_ofNat_of_zero_le hin.1
        rw [hj] at hin ⊢
        have hlt : (j : Int) < ((len.den ρ).toNat : Int) := by omega
        refine ⟨_, ?_, L, hL, by omega, rfl⟩
        simp [Instr.indexAt, asIntOf, run_under hC hr, hu, run_size hC hre, add_none, Nat.add_assoc]
        omega
    · cases hv
  · cases hv
end
end Go.Sx
namespace Go.Sx
section
variable {C : Ctx} {P : Program} {ρ : Env} (hC : CtxOK C P ρ) {φ : Pl} {F : Facts} (hF : F.ok ρ) {h : Heap} {w : World} (hw : WR ρ φ h w)

include hF in
theorem strAtD_ok {s : SS} {i : SI} {v : AV} (hv : strAtD F s i = .ok v) : ∃ b : UInt8, (SS.den ρ s)[(i.den ρ).toNat]? = some b ∧ VR ρ φ v (.int .u8 b.toNat) := by
  unfold strAtD at hv
  replace hv := Ev.bind_ok hv; obtain ⟨t, ht, hv⟩ := hv
  replace hv := Ev.bind_ok hv; obtain ⟨x, hx, hv⟩ := hv
  cases hv
  obtain ⟨d1, d2, d3⟩ := SS.dropS_den ρ _ _ _ (Ev.ofOpt_ok ht)
  obtain ⟨b, h1, h2⟩ := SS.nth_den hF _ _ _ (Ev.ofOpt_ok hx)
  rw [d2, List.getElem?_drop] at h1
  exact ⟨b, by simpa using h1, by simp only [VR, h2]⟩
include hF in
theorem strAtV_ok {s : SS} {i : SI} {v : AV} (hin : 0 ≤ i.den ρ ∧ i.den ρ < (SS.len s).den ρ) (hv : strAtV F s i = .ok v) : ∃ b : UInt8, (SS.den ρ s)[(i.den ρ).toNat]? = some b ∧ VR ρ φ v (.int .u8 b.toNat) := by
  unfold strAtV at hv
  split at hv
  · rename_i j r
    cases hb : leSI F.lins i (.slen j) 1
    · rw [hb] at hv; exact strAtD_ok hF hv
    · rw [hb] at hv
      cases hv
      have := leSI_ok hF hb
      simp only [SI.den] at this
      have hlt : (i.den ρ).toNat < (ρ.str j).length := by omega
      refine ⟨(ρ.str j)[(i.den ρ).toNat], ?_, ?_⟩
      · simp only [SS.den, SP.den]
        rw [List.getElem?_append_left hlt]; exact List.getElem?_eq_getElem hlt
      · simp only [VR, SI.den]
        simp [List.getElem?_eq_getElem hlt]
  · exact strAtD_ok hF hv
include hF in
theorem strAt_ok {s : SS} {i : SI} {v : AV} (hin : 0 ≤ i.den ρ ∧ i.den ρ < (SS.len s).den ρ) (hv : strAt F s i = .ok v) :
    ∃ b : UInt8, (SS.den ρ s)[(i.den ρ).toNat]? = some b ∧ VR ρ φ v (.int .u8 b.toNat) := by
  unfold strAt at hv
  split at hv
  · rename_i k hk
    replace hv := Ev.bind_ok hv; obtain ⟨x, hx, hv⟩ := hv
    cases hv
    obtain ⟨b, h1, h2⟩ := SS.nth_den hF s k x (Ev.ofOpt_ok hx)
    rw [nat?_den hk ρ]
    exact ⟨b, by simpa using h1, by simp only [VR, h2]⟩
  · split at hv
    · rename_i j
      cases hv
      rw [SS.len_den] at hin
      simp only [SS.den, SP.den, List.append_nil] at hin ⊢
      have hlt : (i.den ρ).toNat < (ρ.str j).length := by omega
      refine ⟨(ρ.str j)[(i.den ρ).toNat], List.getElem?_eq_getElem hlt, ?_⟩
      simp only [VR, SI.den]
      simp [List.getElem?_eq_getElem hlt]
    · exact strAtV_ok hF hin hv

include hC hF in
theorem indexOf_ok {t : Nat} {a b v : AV} {x y : Value} (ha : VR ρ φ a x) (hb : VR ρ φ b y) (hv : indexOf C F t a b = .ok v) : ∃ z, (Instr.index t x y).run P w = .ok z w ∧ VR ρ φ v z := by
  unfold indexOf at hv
  replace hv := Ev.bind_ok hv; obtain ⟨r, hr, hv⟩ := hv
  have hr := row_ok hr
  split at hv
  · rename_i k i
    simp only [VR] at hb
    subst hb
    split at hv
    · rename_i n e cs hu
      replace hv := Ev.bind_ok hv; obtain ⟨ok, hok, hv⟩ := hv
      replace hv := bif_ok hv; obtain ⟨hok1, hv⟩ := hv
      have hin := within_ok hF hok hok1
      replace hv := Ev.bind_ok hv; obtain ⟨re, hre, hv⟩ := hv
      have hre := row_ok hre
      split at hv
      · rename_i j hj
        have hd := nat?_den hj ρ
        simp only [VR] at ha
        obtain ⟨xs, rfl, hxs⟩ := ha
        obtain ⟨z, hz, hvr⟩ := partOf_ok hC (w := w) hxs hv
        simp only [SI.den] at hin
        rw [hd] at hin ⊢
        refine ⟨z, ?_, hvr⟩
        have hlt : j < n := by omega
        simp [Instr.index, asIntOf, run_under hC hr, hu, run_size hC hre, hlt, hz]
      · cases hv
    · rename_i s hu
      replace hv := Ev.bind_ok hv; obtain ⟨ok, hok, hv⟩ := hv
      replace hv := bif_ok hv; obtain ⟨hok1, hv⟩ := hv
      have hin := within_ok hF hok hok1
      simp only [VR] at ha
      subst ha
      obtain ⟨b, hb, hvr⟩ := strAt_ok hF (φ := φ) hin hv
      refine ⟨_, ?_, hvr⟩
      have hb' : (ByteArray.mk ⟨SS.den ρ s⟩)[(i.den ρ).toNat]? = some b := by
        have hlt : (i.den ρ).toNat < (SS.den ρ s).length := by
          rcases Nat.lt_or_ge (i.den ρ).toNat (SS.den ρ s).length with h | h
          · exact h
          · rw [List.getElem?_eq_none h] at hb; cases hb
        rw [getElem?_pos (ByteArray.mk ⟨SS.den ρ s⟩) (i.den ρ).toNat (by show _ < (ByteArray.mk ⟨SS.den ρ s⟩).size; simpa [ByteArray.size] using hlt)]
        rw [List.getElem?_eq_getElem hlt] at hb
        exact hb
      simp [Instr.index, asIntOf, run_under hC hr, hu, hin.1, hb']
    · cases hv
  · cases hv

/-! slices -/
theorem asI_ok {o : Option AV} {d n : SI} (h : asI o d = .ok n) : (o = none ∧ n = d) ∨ ∃ k, o = some (.int k n) := by
  unfold asI at h
  split at h
  · cases h; exact .inl ⟨rfl, rfl⟩
  · cases h; exact .inr ⟨_, rfl⟩
  · cases h
/-- an optional operand, concretely -/
def OR (ρ : Env) (φ : Pl) : Option AV → Option Value → Prop
  | none, none => True
  | some a, some v => VR ρ φ a v
  | _, _ => False
theorem run_bound {n : SI} {k : IntKind} {y : Nat} {code : BoundsCode} (h0 : 0 ≤ n.den ρ) (h1 : n.den ρ ≤ y) : (Instr.sliceBound (.int k (n.den ρ)) y code).run P w = .ok (n.den ρ).toNat w :=
  run_sliceBound w k (n.den ρ) y code h0 h1
/-- the bounds of a slice expression without max -/
theorem run_bounds2 {isS : Bool} {len cap : Nat} {lo hi : Option AV} {lo' hi' : Option Value} {l h dl dh : SI} (hlo : OR ρ φ lo lo') (hhi : OR ρ φ hi hi')
    (hl : asI lo dl = .ok l) (hh : asI hi dh = .ok h) (d0 : dl.den ρ = 0) (d1 : dh.den ρ = len) (a0 : 0 ≤ l.den ρ) (a1 : l.den ρ ≤ h.den ρ) (a2 : h.den ρ ≤ cap) :
    (Instr.sliceBounds isS len cap lo' hi' none).run P w = .ok ((l.den ρ).toNat, (h.den ρ).toNat, cap) w := by
  have h1 : ((h.den ρ).toNat : Int) = h.den ρ := Int.toNat_of_nonneg (by omega)
  rcases asI_ok hl with ⟨rfl, rfl⟩ | ⟨k, rfl⟩ <;> rcases asI_ok hh with ⟨rfl, rfl⟩ | ⟨k', rfl⟩ <;>
    (cases lo' <;> simp only [OR] at hlo) <;> (cases hi' <;> simp only [OR] at hhi)
  · simp [Instr.sliceBounds, d0, d1]
  · simp only [VR] at hhi; subst hhi
    simp [Instr.sliceBounds, run_bound (n := h) (by omega) a2, d0]
  · simp only [VR] at hlo; subst hlo
    have : l.den ρ ≤ (len : Int) := by omega
    simp [Instr.sliceBounds, run_bound (n := l) a0 this, d1]
  · simp only [VR] at hlo hhi; subst hlo hhi
    have : l.den ρ ≤ ((h.den ρ).toNat : Int) := by omega
    simp [Instr.sliceBounds, run_bound (n := h) (by omega) a2, run_bound (n := l) a0 this]
theorem run_bounds3 {len cap : Nat} {lo hi : Option AV} {lo' hi' : Option Value} {l h dl dh m : SI} {km : IntKind} (hlo : OR ρ φ lo lo') (hhi : OR ρ φ hi hi') (hs : hi ≠ none)
    (hl : asI lo dl = .ok l) (hh : asI hi dh = .ok h) (d0 : dl.den ρ = 0) (a0 : 0 ≤ l.den ρ) (a1 : l.den ρ ≤ h.den ρ) (a2 : h.den ρ ≤ m.den ρ) (a3 : m.den ρ ≤ cap) :
    (Instr.sliceBounds true len cap lo' hi' (some (.int km (m.den ρ)))).run P w = .ok ((l.den ρ).toNat, (h.den ρ).toNat, (m.den ρ).toNat) w := by
  have h1 : ((h.den ρ).toNat : Int) = h.den ρ := Int.toNat_of_nonneg (by omega)
  have h2 : ((m.den ρ).toNat : Int) = m.den ρ := Int.toNat_of_nonneg (by omega)
  have a2' : h.den ρ ≤ ((m.den ρ).toNat : Int) := by omega
  have a1' : l.den ρ ≤ ((h.den ρ).toNat : Int) := by omega
  rcases asI_ok hh with ⟨rfl, rfl⟩ | ⟨k', rfl⟩
  · exact absurd rfl hs
  · rcases asI_ok hl with ⟨rfl, rfl⟩ | ⟨k, rfl⟩ <;> (cases lo' <;> simp only [OR] at hlo) <;> (cases hi' <;> simp only [OR] at hhi)
    · simp only [VR] at hhi; subst hhi
      simp [Instr.sliceBounds, run_bound (n := m) (by omega) a3, run_bound (n := h) (by omega) a2', d0]
    · simp only [VR] at hlo hhi; subst hlo hhi
      simp [Instr.sliceBounds, run_bound (n := m) (by omega) a3, run_bound (n := h) (by omega) a2', run_bound (n := l) a0 a1']
theorem bytes_extract (bs : List UInt8) (l h : Nat) : (ByteArray.mk ⟨bs⟩).extract l h = ⟨⟨(bs.take h).drop l⟩⟩ := by
  apply ByteArray.ext
  apply Array.toList_inj.1
  simp [ByteArray.data_extract, List.drop_take]

include hF in
theorem strPart0_ok {s : SS} {l hh : SI} {v : AV} (hle : hh.den ρ ≤ (SS.den ρ s).length) (hv : strPart0 F s l hh = .ok v) :
    0 ≤ l.den ρ ∧ l.den ρ ≤ hh.den ρ ∧ VR ρ φ v (.string ((ByteArray.mk ⟨SS.den ρ s⟩).extract (l.den ρ).toNat (hh.den ρ).toNat)) := by
  unfold strPart0 at hv
  split at hv
  · rename_i l' h'
    replace hv := bif_ok hv; obtain ⟨hb, hv⟩ := hv
    rw [Nat.ble_eq] at hb
    replace hv := Ev.bind_ok hv; obtain ⟨s1, hs1, hv⟩ := hv
    replace hv := Ev.bind_ok hv; obtain ⟨s2, hs2, hv⟩ := hv
    cases hv
    obtain ⟨e1, _⟩ := SS.take_den ρ _ _ _ (Ev.ofOpt_ok hs1)
    obtain ⟨e2, _⟩ := SS.drop_den ρ _ _ _ (Ev.ofOpt_ok hs2)
    refine ⟨by simp [SI.den], by simpa [SI.den] using hb, ?_⟩
    simp only [VR, SI.den, bytes_extract, e2, e1]
    simp
  · rename_i l' _
    replace hv := bif_ok hv; obtain ⟨hb, hv⟩ := hv
    replace hv := Ev.bind_ok hv; obtain ⟨s2, hs2, hv⟩ := hv
    cases hv
    have e := SI.beq_eq hb
    subst e
    obtain ⟨e2, e3⟩ := SS.drop_den ρ _ _ _ (Ev.ofOpt_ok hs2)
    rw [SS.len_den] at hle ⊢
    refine ⟨by simp [SI.den], by simpa [SI.den] using e3, ?_⟩
    simp only [VR, SI.den, bytes_extract, e2]
    simp
  · split at hv
    · rename_i j
      replace hv := bif_ok hv; obtain ⟨hb, hv⟩ := hv
      replace hv := Ev.bind_ok hv; obtain ⟨ok, hok, hv⟩ := hv
      replace hv := bif_ok hv; obtain ⟨hok1, hv⟩ := hv
      cases hv
      have e := SI.beq_eq hb
      subst e
      have hin := within_ok hF hok hok1
      simp only [SI.addS_den, SI.den] at hin ⊢
      simp only [SS.den, SP.den, List.append_nil]
      refine ⟨hin.1, by omega, ?_⟩
      have hlt : (l.den ρ).toNat < (ρ.str j).length := by omega
      have ht : (l.den ρ + 1).toNat = (l.den ρ).toNat + 1 := by omega
      simp only [VR, bytes_extract, ht, SS.den, SP.den, SI.den, List.append_nil]
      have hd : List.drop (l.den ρ).toNat (List.take ((l.den ρ).toNat + 1) (ρ.str j)) = [(ρ.str j)[(l.den ρ).toNat]] := by
        rw [List.drop_take, show (l.den ρ).toNat + 1 - (l.den ρ).toNat = 1 by omega]
        rw [List.drop_eq_getElem_cons hlt]
        rfl
      rw [hd]
      simp [List.getElem?_eq_getElem hlt]
    · cases hv

include hF in
theorem strPart_ok {s : SS} {l hh : SI} {v : AV} (hle : hh.den ρ ≤ (SS.den ρ s).length) (hv : strPart F s l hh = .ok v) :
    0 ≤ l.den ρ ∧ l.den ρ ≤ hh.den ρ ∧ VR ρ φ v (.string ((ByteArray.mk ⟨SS.den ρ s⟩).extract (l.den ρ).toNat (hh.den ρ).toNat)) := by
  unfold strPart at hv
  split at hv
  · unfold strPart1 at hv
    split at hv
    · cases hv
    · rename_i t ht
      split at hv
      · cases hv
      · rename_i u hu
        cases hv
        obtain ⟨a1, a2, a3⟩ := SS.takeS_den hF _ _ _ ht
        obtain ⟨b1, b2, b3⟩ := SS.dropS_den ρ _ _ _ hu
        rw [a2, List.length_take] at b3
        refine ⟨b1, by omega, ?_⟩
        simp only [VR, bytes_extract, b2, a2]
  · exact strPart0_ok hF hle hv
theorem ble3_ok {a b c : Nat} (h : ble3 a b c = true) : a ≤ b ∧ b ≤ c := by
  unfold ble3 at h
  obtain ⟨h1, h2⟩ := and_cond h
  exact ⟨by rw [Nat.ble_eq] at h1; exact h1, by rw [Nat.ble_eq] at h2; exact h2⟩
end
end Go.Sx
namespace Go.Sx
section
variable {C : Ctx} {P : Program} {ρ : Env} (hC : CtxOK C P ρ) {φ : Pl} {F : Facts} (hF : F.ok ρ) {h : Heap} {w : World} (hw : WR ρ φ h w)

include hw in
theorem sureCap_ok {id off size c : Nat} {cap : Cap} {len : SI} {L : Loc} (hL : φ id = some L) (hs : sureCap h id off size cap len = some c) :
    (∀ z, cap = .rest z → z = size ∧ c ≤ (L.n - off) / size) ∧ (∀ k, cap = .known k → c = k) ∧ (cap = .full → c = (len.den ρ).toNat) ∧ c ≤ cap.val L off (len.den ρ).toNat := by
  unfold sureCap at hs
  split at hs
  · cases hs; exact ⟨(fun z e => by cases e), (fun k e => by cases e; rfl), (fun e => by cases e), Nat.le_refl _⟩
  · have := nat?_den hs ρ
    refine ⟨(fun z e => by cases e), (fun k e => by cases e), (fun _ => by rw [this]; simp), ?_⟩
    simp [Cap.val, this]
  · rename_i z
    cases hb : z.beq size
    · rw [hb] at hs; cases hs
    · rw [hb] at hs
      simp only [_root_.cond_true] at hs
      have ez := beq_nat hb
      subst ez
      have key : c ≤ (L.n - off) / z := by
        split at hs
        · rename_i cs e hg
          cases hs
          obtain ⟨M, o, hM, ho, hbr⟩ := hw.blk id _ hg
          rw [hL] at hM; cases hM
          obtain ⟨ek, a, lo, hi, xs, rest, rfl, _, hsz, hdrop, hvs, _⟩ := hbr
          have hlen : xs.length ≤ L.n := by
            have := congrArg List.length hdrop
            simp [preCells] at this hsz; omega
          have := VRs.length hvs
          exact Nat.div_le_div_right (by omega)
        · rename_i s e fz hg
          split at hs
          · rename_i n hn
            cases hz : z.beq 1
            · rw [hz] at hs; cases hs
            · rw [hz] at hs
              cases hs
              obtain ⟨M, o, hM, ho, hbr⟩ := hw.blk id _ hg
              rw [hL] at hM; cases hM
              obtain ⟨a, lo, hi, rest, rfl, hsz, hdrop, _⟩ := hbr
              have hlen : (SS.den ρ s).length + rest.length = L.n := by
                have := congrArg List.length hdrop
                simp [byteVals] at this; omega
              have hn' := SS.len_den ρ s
              rw [hn] at hn'
              simp [SI.den] at hn'
              exact Nat.div_le_div_right (by omega)
          · cases hs
        · cases hs
      exact ⟨(fun y e => by cases e; exact ⟨rfl, key⟩), (fun k e => by cases e), (fun e => by cases e), key⟩

theorem run_slice_row {t e : Nat} {r re : TyRow} (hC : CtxOK C P ρ) (hr : C.ty.get t = some r) (hu : r.u = .slice e) (hre : C.ty.get e = some re) {a : Option Addr} {len cap l hh m : Nat} {lo hi mx : Option Value}
    (hb : (Instr.sliceBounds true len cap lo hi mx).run P w = .ok (l, hh, m) w) :
    (Instr.sliceAt t (.slice a len cap) lo hi mx).run P w = .ok (.slice (if m = l then a else a.map (·.add (l * re.size))) (hh - l) (m - l)) w := by
  simp [Instr.sliceAt, Instr.slice, run_under hC hr, hu, hb, run_size hC hre]

include hC hF hw in
theorem sliceOf_ok {t : Nat} {a v : AV} {lo hi mx : Option AV} {x : Value} {lo' hi' mx' : Option Value} (ha : VR ρ φ a x) (hlo : OR ρ φ lo lo') (hhi : OR ρ φ hi hi') (hmx : OR ρ φ mx mx')
    (hv : sliceOf C F h t a lo hi mx = .ok v) : ∃ z, (Instr.sliceAt t x lo' hi' mx').run P w = .ok z w ∧ VR ρ φ v z := by
  unfold sliceOf at hv
  replace hv := Ev.bind_ok hv; obtain ⟨r, hr, hv⟩ := hv
  have hr := row_ok hr
  split at hv
  · rename_i hu
    split at hv
    · rename_i s
      simp only [VR] at ha
      subst ha
      have hmx' : mx' = none := by cases mx' with
        | none => rfl
        | some y => simp only [OR] at hmx
      subst hmx'
      unfold sliceStr at hv
      replace hv := Ev.bind_ok hv; obtain ⟨l, hl, hv⟩ := hv
      replace hv := Ev.bind_ok hv; obtain ⟨hh, hhh, hv⟩ := hv
      replace hv := Ev.bind_ok hv; obtain ⟨ok, hok, hv⟩ := hv
      replace hv := bif_ok hv; obtain ⟨hok1, hv⟩ := hv
      subst hok1
      have ht := test_ok hF hok
      rw [SB.cmpS_den, SS.len_den] at ht
      simp [intCmp, ltInt_iff] at ht
      obtain ⟨h1, h2, h3⟩ := strPart_ok hF (φ := φ) ht hv
      have hb := run_bounds2 (P := P) (w := w) (isS := false) (len := (SS.den ρ s).length) (cap := (SS.den ρ s).length) hlo hhi hl hhh rfl (SS.len_den ρ s) h1 h2 ht
      refine ⟨_, ?_, h3⟩
      have hsz : (ByteArray.mk ⟨SS.den ρ s⟩).size = (SS.den ρ s).length := rfl
      simp [Instr.sliceAt, Instr.slice, run_under hC hr, hu, hsz, hb]
    · cases hv
  · rename_i e hu
    replace hv := Ev.bind_ok hv; obtain ⟨re, hre, hv⟩ := hv
    have hre := row_ok hre
    unfold sliceSlice at hv
    split at hv
    · rename_i id off len cap
      simp only [VR] at ha
      obtain ⟨L, hL, hl0, hlc, rfl⟩ := ha
      replace hv := Ev.bind_ok hv; obtain ⟨l, hl, hv⟩ := hv
      replace hv := Ev.bind_ok hv; obtain ⟨hh, hhh, hv⟩ := hv
      have hlen : ((len.den ρ).toNat : Int) = len.den ρ := Int.toNat_of_nonneg hl0
      have hsure : ∀ c, sureCap h id off re.size cap len = some c → _ := fun c hc => sureCap_ok hw hL hc
      generalize hcv : cap.val L off (len.den ρ).toNat = cv at hlc hsure ⊢
      split at hv
      · have hmx' : mx' = none := by cases mx' with
          | none => rfl
          | some y => simp only [OR] at hmx
        subst hmx'
        unfold slice2 at hv
        split at hv
        · rename_i l' h'
          unfold sliceHead at hv
          split at hv
          · unfold sliceHead1 at hv
            cases cap with
            | known _ => cases hv
            | full => cases hv
            | rest z =>
            replace hv := bif_ok hv; obtain ⟨hok, hv⟩ := hv
            cases hv
            simp only [Bool.and_eq_true] at hok
            have e0 := beq_nat hok.1; subst e0
            have hle := leSI_ok hF hok.2
            simp only [SI.den, Int.ofNat_eq_natCast] at hle
            have hb := run_bounds2 (P := P) (w := w) (isS := true) (len := (len.den ρ).toNat) (cap := cv) hlo hhi hl hhh rfl hlen.symm (by simp [SI.den]) (by simp only [SI.den]; simp) (by simp only [SI.den, Int.ofNat_eq_natCast]; omega)
            simp only [SI.den, Int.ofNat_eq_natCast, Int.toNat_natCast] at hb
            have hrun := run_slice_row hC hr hu hre (a := some ⟨L.blk, L.base + off, none⟩) hb
            refine ⟨_, hrun, ?_⟩
            simp only [VR, Cap.val, SI.den, Int.ofNat_eq_natCast, Int.toNat_natCast, Nat.sub_zero]
            simp only [Cap.val] at hcv
            refine ⟨L, hL, Int.natCast_nonneg _, by rw [hcv]; omega, ?_⟩
            rw [hcv]
            split <;> simp [add_none]
          · unfold slicePart at hv
            split at hv
            · rename_i c hc
              replace hv := bif_ok hv; obtain ⟨hok, hv⟩ := hv
              simp only [Bool.and_eq_true, Bool.not_eq_true'] at hok
              obtain ⟨b1, b2⟩ := ble3_ok hok.1
              have hsz : re.size ≠ 0 := fun e => by have := hok.2; rw [nbeq_true e] at this; cases this
              obtain ⟨c1, c2, c3, c4⟩ := hsure c hc
              have hb := run_bounds2 (P := P) (w := w) (isS := true) (len := (len.den ρ).toNat) (cap := cv) hlo hhi hl hhh rfl hlen.symm (by simp [SI.den]) (by simp only [SI.den]; simp; omega) (by simp only [SI.den]; simp; omega)
              simp only [SI.den, Int.ofNat_eq_natCast, Int.toNat_natCast] at hb
              have hrun := run_slice_row hC hr hu hre (a := some ⟨L.blk, L.base + off, none⟩) hb
              refine ⟨_, hrun, ?_⟩
              split at hv
              · rename_i z _
                obtain ⟨ez, hcz⟩ := c1 z rfl
                subst ez
                simp only [Cap.val] at hcv
                have hdm : cv * re.size ≤ L.n - off := by rw [← hcv]; exact Nat.div_mul_le_self _ _
                rw [hcv] at hcz
                cases hlh : l'.beq h'
                · rw [hlh] at hv
                  cases hv
                  have hne : l' ≠ h' := fun e => by rw [nbeq_true e] at hlh; cases hlh
                  rw [if_neg (by omega)]
                  simp only [VR, Cap.val, SI.den, Int.ofNat_eq_natCast, Int.toNat_natCast, Option.map_some, add_none, Nat.add_assoc]
                  have hq : (L.n - (off + l' * re.size)) / re.size = cv - l' := by
                    rw [← Nat.sub_sub, Nat.mul_comm l' re.size, Nat.sub_mul_div, hcv]
                  refine ⟨L, hL, Int.natCast_nonneg _, by rw [hq]; omega, by rw [hq]⟩
                · rw [hlh] at hv
                  have elh := beq_nat hlh
                  subst elh
                  cases hl0' : l'.beq 0
                  · rw [hl0'] at hv
                    cases hv
                    have hne : l' ≠ 0 := fun e => by rw [nbeq_true e] at hl0'; cases hl0'
                    simp only [cond_false, VR]
                    have hoff : off ≤ L.n := by
                      rcases Nat.lt_or_ge L.n off with h | h
                      · have e0 : L.n - off = 0 := by omega
                        rw [e0, Nat.zero_div] at hcv; omega
                      · exact h
                    by_cases hm : cv = l'
                    · rw [if_pos hm]
                      refine ⟨L, L.base + off, 0, hL, by omega, ?_, by simp [hm]⟩
                      omega
                    · rw [if_neg hm]
                      refine ⟨L, L.base + off + l' * re.size, cv - l', hL, by omega, ?_, by simp [add_none]⟩
                      rw [Nat.sub_mul]
                      have : l' * re.size ≤ cv * re.size := Nat.mul_le_mul_right _ (by omega)
                      omega
                  · rw [hl0'] at hv
                    cases hv
                    have := beq_nat hl0'
                    subst this
                    simp only [_root_.cond_true, VR, Cap.val, SI.den, Int.toNat_zero, Nat.zero_mul, Nat.sub_zero, Option.map_some, add_none, Nat.add_zero, ite_self]
                    exact ⟨L, hL, by omega, Nat.zero_le _, by rw [hcv]⟩
              · cases hv
                have hval : cv = c := by
                  rw [← hcv]
                  cases cap with
                  | known k => simp only [Cap.val]; exact (c2 k rfl).symm
                  | full => simp only [Cap.val]; exact (c3 rfl).symm
                  | rest z => rename_i hcap; exact absurd rfl (hcap z)
                subst hval
                simp only [VR, Cap.val, SI.den, Int.ofNat_eq_natCast, Int.toNat_natCast]
                cases hlc' : l'.beq cv
                · have hne : l' ≠ cv := fun e => by rw [nbeq_true e] at hlc'; cases hlc'
                  rw [if_neg (fun e => hne e.symm)]
                  exact ⟨L, hL, Int.natCast_nonneg _, by omega, by simp [add_none, Nat.add_assoc]⟩
                · have := beq_nat hlc'
                  subst this
                  rw [if_pos rfl]
                  exact ⟨L, hL, Int.natCast_nonneg _, by omega, rfl⟩
            · cases hv
        · cases hbq : SI.beq hh len
          · rw [hbq] at hv
            simp only [cond_false] at hv
            unfold sliceHeadV at hv
            cases cap with
            | known _ => cases hv
            | full => cases hv
            | rest z =>
            replace hv := bif_ok hv; obtain ⟨hok, hv⟩ := hv
            cases hv
            simp only [Bool.and_eq_true] at hok
            have hle := leSI_ok hF hok.1
            have hge := leSI_ok hF hok.2
            simp only [SI.den] at hle hge
            have hge : 0 ≤ hh.den ρ := by simpa using hge
            have hb := run_bounds2 (P := P) (w := w) (isS := true) (len := (len.den ρ).toNat) (cap := cv) hlo hhi hl hhh rfl hlen.symm (by simp [SI.den]) (by simp only [SI.den]; simpa using hge) (by omega)
            simp only [SI.den] at hb
            have hrun := run_slice_row hC hr hu hre (a := some ⟨L.blk, L.base + off, none⟩) hb
            refine ⟨_, hrun, ?_⟩
            simp only [VR, Cap.val]
            simp only [Cap.val] at hcv
            refine ⟨L, hL, by omega, by rw [hcv]; omega, ?_⟩
            rw [hcv]
            simp [add_none]
          · rw [hbq] at hv
            simp only [_root_.cond_true] at hv
            cases hv
            have e1 := SI.beq_eq hbq
            subst e1
            have hb := run_bounds2 (P := P) (w := w) (isS := true) (len := (hh.den ρ).toNat) (cap := cv) hlo hhi hl hhh rfl hlen.symm (by simp [SI.den]) (by simp only [SI.den]; omega) (by omega)
            simp only [SI.den] at hb
            have hrun := run_slice_row hC hr hu hre (a := some ⟨L.blk, L.base + off, none⟩) hb
            refine ⟨_, hrun, ?_⟩
            simp only [VR]
            refine ⟨L, hL, hl0, by rw [hcv]; exact hlc, ?_⟩
            simp [add_none, hcv]
        · cases hv
      · rename_i k m
        obtain ⟨y, rfl, hy⟩ : ∃ y, mx' = some y ∧ VR ρ φ (.int k m) y := by
          cases mx' with
          | none => simp only [OR] at hmx
          | some y => exact ⟨y, rfl, hmx⟩
        simp only [VR] at hy
        subst hy
        cases hn : isNone hi
        · rw [hn] at hv
          simp only [cond_false] at hv
          have hs : hi ≠ none := fun e => by subst e; cases hn
          unfold slice3 at hv
          split at hv
          · rename_i l' h' m'
            unfold slice3Part at hv
            split at hv
            · rename_i c hc
              replace hv := bif_ok hv; obtain ⟨hok, hv⟩ := hv
              cases hv
              simp only [Bool.and_eq_true] at hok
              obtain ⟨b1, b2⟩ := ble3_ok hok.1
              have b3 := hok.2
              rw [Nat.ble_eq] at b3
              obtain ⟨_, _, _, c4⟩ := hsure c hc
              have hb := run_bounds3 (P := P) (w := w) (len := (len.den ρ).toNat) (cap := cv) (m := .lit (.ofNat m')) (km := k) hlo hhi hs hl hhh rfl (by simp [SI.den]) (by simp only [SI.den]; simp; omega) (by simp only [SI.den]; simp; omega) (by simp only [SI.den]; simp; omega)
              simp only [SI.den, Int.ofNat_eq_natCast, Int.toNat_natCast] at hb
              have hrun := run_slice_row hC hr hu hre (a := some ⟨L.blk, L.base + off, none⟩) hb
              refine ⟨_, hrun, ?_⟩
              simp only [VR, Cap.val, SI.den, Int.ofNat_eq_natCast, Int.toNat_natCast]
              cases hlc' : l'.beq m'
              · have hne : l' ≠ m' := fun e => by rw [nbeq_true e] at hlc'; cases hlc'
                rw [if_neg (fun e => hne e.symm)]
                exact ⟨L, hL, Int.natCast_nonneg _, by omega, by simp [add_none, Nat.add_assoc]⟩
              · have := beq_nat hlc'
                subst this
                rw [if_pos rfl]
                exact ⟨L, hL, Int.natCast_nonneg _, by omega, rfl⟩
            · cases hv
          · replace hv := bif_ok hv; obtain ⟨hok, hv⟩ := hv
            cases hv
            simp only [Bool.and_eq_true] at hok
            have e1 := SI.beq_eq hok.1
            have e2 := SI.beq_eq hok.2
            subst e1
            subst e2
            have hb := run_bounds3 (P := P) (w := w) (len := (m.den ρ).toNat) (cap := cv) (m := m) (km := k) hlo hhi hs hl hhh rfl (by simp [SI.den]) (by simp only [SI.den]; omega) (by omega) (by omega)
            simp only [SI.den] at hb
            have hrun := run_slice_row hC hr hu hre (a := some ⟨L.blk, L.base + off, none⟩) hb
            refine ⟨_, hrun, ?_⟩
            simp only [VR, Cap.val]
            refine ⟨L, hL, hl0, Nat.le_refl _, ?_⟩
            simp [add_none]
          · cases hv
        · rw [hn] at hv; cases hv
      · cases hv
    · simp only [VR] at ha
      subst ha
      replace hv := Ev.bind_ok hv; obtain ⟨l, hl, hv⟩ := hv
      replace hv := Ev.bind_ok hv; obtain ⟨hh, hhh, hv⟩ := hv
      replace hv := Ev.bind_ok hv; obtain ⟨m, hm, hv⟩ := hv
      split at hv
      · cases hc : isNone hi && !isNone mx
        · rw [hc] at hv
          cases hv
          cases mx with
          | none =>
            have hmx' : mx' = none := by cases mx' with
              | none => rfl
              | some y => simp only [OR] at hmx
            subst hmx'
            have hb := run_bounds2 (P := P) (w := w) (isS := true) (len := 0) (cap := 0) hlo hhi hl hhh rfl rfl (by simp [SI.den]) (by simp [SI.den]) (by simp [SI.den])
            have hrun := run_slice_row hC hr hu hre (a := none) hb
            refine ⟨_, hrun, ?_⟩
            simp [VR, SI.den]
          | some y =>
            rcases asI_ok hm with ⟨e, _⟩ | ⟨k, e⟩
            · cases e
            · cases e
              obtain ⟨y, rfl, hy⟩ : ∃ y, mx' = some y ∧ VR ρ φ (.int k (.lit (.ofNat 0))) y := by
                cases mx' with
                | none => simp only [OR] at hmx
                | some y => exact ⟨y, rfl, hmx⟩
              simp only [VR] at hy
              subst hy
              have hs : hi ≠ none := fun e => by subst e; simp [isNone] at hc
              have hb := run_bounds3 (P := P) (w := w) (len := 0) (cap := 0) (m := .lit (.ofNat 0)) (km := k) hlo hhi hs hl hhh rfl (by simp [SI.den]) (by simp [SI.den]) (by simp [SI.den]) (by simp [SI.den])
              have hrun := run_slice_row hC hr hu hre (a := none) hb
              refine ⟨_, hrun, ?_⟩
              simp [VR, SI.den]
        · rw [hc] at hv; cases hv
      · cases hv
    · rename_i id z
      have ha' := ha
      simp only [VR] at ha
      obtain ⟨L, o, c, hL, h1, h2, rfl⟩ := ha
      replace hv := Ev.bind_ok hv; obtain ⟨l, hl, hv⟩ := hv
      replace hv := Ev.bind_ok hv; obtain ⟨hh, hhh, hv⟩ := hv
      split at hv
      · cases hv
        have hmx' : mx' = none := by cases mx' with
          | none => rfl
          | some y => simp only [OR] at hmx
        subst hmx'
        have hb := run_bounds2 (P := P) (w := w) (isS := true) (len := 0) (cap := c) hlo hhi hl hhh rfl rfl (by simp [SI.den]) (by simp [SI.den]) (by simp [SI.den])
        have hrun := run_slice_row hC hr hu hre (a := some ⟨L.blk, o, none⟩) hb
        refine ⟨_, hrun, ?_⟩
        simp only [SI.den, Int.ofNat_eq_natCast, Int.toNat_natCast, Nat.zero_mul, Nat.sub_zero, Option.map_some, add_none, Nat.add_zero, ite_self]
        exact ha'
      · cases hv
    · cases hv
  · rename_i n e hu
    replace hv := Ev.bind_ok hv; obtain ⟨re, hre, hv⟩ := hv
    have hre := row_ok hre
    split at hv
    · rename_i id off
      simp only [VR] at ha
      obtain ⟨L, hL, rfl⟩ := ha
      have hmx' : mx' = none := by cases mx' with
        | none => rfl
        | some y => simp only [OR] at hmx
      subst hmx'
      unfold sliceArr at hv
      replace hv := Ev.bind_ok hv; obtain ⟨l, hl, hv⟩ := hv
      replace hv := Ev.bind_ok hv; obtain ⟨hh, hhh, hv⟩ := hv
      split at hv
      · rename_i l' h'
        replace hv := bif_ok hv; obtain ⟨hok, hv⟩ := hv
        cases hv
        obtain ⟨b1, b2⟩ := ble3_ok hok
        have hb := run_bounds2 (P := P) (w := w) (isS := false) (len := n) (cap := n) hlo hhi hl hhh rfl rfl (by simp [SI.den]) (by simp only [SI.den]; simp; omega) (by simp only [SI.den]; simp; omega)
        simp only [SI.den, Int.ofNat_eq_natCast, Int.toNat_natCast] at hb
        refine ⟨.slice (some (if n = l' then ⟨L.blk, L.base + off, none⟩ else ⟨L.blk, L.base + off + l' * re.size, none⟩)) (h' - l') (n - l'), ?_, ?_⟩
        · simp [Instr.sliceAt, Instr.sureAddr, run_under hC hr, hu, hb, run_size hC hre, add_none]
        · simp only [VR, Cap.val, SI.den, Int.ofNat_eq_natCast, Int.toNat_natCast]
          cases hlc' : l'.beq n
          · have hne : l' ≠ n := fun e => by rw [nbeq_true e] at hlc'; cases hlc'
            rw [if_neg (fun e => hne e.symm)]
            exact ⟨L, hL, Int.natCast_nonneg _, by omega, by simp [Nat.add_assoc]⟩
          · have := beq_nat hlc'
            subst this
            rw [if_pos rfl]
            exact ⟨L, hL, Int.natCast_nonneg _, by omega, rfl⟩
      · cases hv
    · cases hv
  · cases hv
end
end Go.Sx
namespace Go.Sx
section
variable {C : Ctx} {P : Program} {ρ : Env} (hC : CtxOK C P ρ) {φ : Pl} {F : Facts} (hF : F.ok ρ) {h : Heap} {w : World} (hw : WR ρ φ h w)

/-! equality -/
theorem bytesLt_eq : ∀ (a b : List UInt8), bytesLt a b = Op.bytesLess a b
  | [], [] => rfl
  | [], _ :: _ => rfl
  | _ :: _, [] => rfl
  | a :: x, b :: y => by
    unfold bytesLt Op.bytesLess
    rw [bytesLt_eq x y, eqByte_iff]
    have e : Nat.blt a.toNat b.toNat = decide (a < b) := by
      rw [Bool.eq_iff_iff]; simp [Nat.blt_eq, UInt8.lt_iff_toNat_lt]
    rw [e]
    by_cases h1 : a < b <;> by_cases h2 : a = b <;> simp [h1, h2]

theorem equal_succ : ∃ d, ∀ t x y, Op.equal t x y = Op.equalIn (d + 1) t x y := ⟨9999, fun _ _ _ => rfl⟩
theorem VR_agg {a : AV} {p : Array Value} (h : VR ρ φ a (.agg p)) : ∃ cs, a = .agg cs := by
  cases a with
  | agg cs => exact ⟨cs, rfl⟩
  | ptr i o => simp only [VR] at h; obtain ⟨_, _, h⟩ := h; cases h
  | slice i o l c => simp only [VR] at h; obtain ⟨_, _, _, _, h⟩ := h; cases h
  | eslice i z => simp only [VR] at h; obtain ⟨_, _, _, _, _, _, h⟩ := h; cases h
  | iptr i z x o => simp only [VR] at h; obtain ⟨_, _, _, h⟩ := h; cases h
  | func f x y => simp only [VR] at h; obtain ⟨_, _, _, h, _⟩ := h; cases h
  | iface t x => simp only [VR] at h; obtain ⟨_, h, _⟩ := h; cases h
  | tup x => simp only [VR] at h; obtain ⟨_, h, _⟩ := h; cases h
  | _ => simp only [VR] at h; cases h
theorem VR_nilIface {a : AV} (h : VR ρ φ a .nilIface) : a = .nilIface := by
  cases a with
  | nilIface => rfl
  | ptr i o => simp only [VR] at h; obtain ⟨_, _, h⟩ := h; cases h
  | slice i o l c => simp only [VR] at h; obtain ⟨_, _, _, _, h⟩ := h; cases h
  | eslice i z => simp only [VR] at h; obtain ⟨_, _, _, _, _, _, h⟩ := h; cases h
  | iptr i z x o => simp only [VR] at h; obtain ⟨_, _, _, h⟩ := h; cases h
  | func f x y => simp only [VR] at h; obtain ⟨_, _, _, h, _⟩ := h; cases h
  | iface t x => simp only [VR] at h; obtain ⟨_, h, _⟩ := h; cases h
  | tup x => simp only [VR] at h; obtain ⟨_, h, _⟩ := h; cases h
  | agg x => simp only [VR] at h; obtain ⟨_, h, _⟩ := h; cases h
  | _ => simp only [VR] at h; cases h

include hC in
theorem eqAt_ok {t : Nat} {r : TyRow} (hr : C.ty.get t = some r) {a b : AV} {x y : Value} {s : SB} (ha : VR ρ φ a x) (hb : VR ρ φ b y) (hs : eqAt r.u a b = .ok s) :
    (Op.equal t x y).run P w = .ok (s.den ρ) w := by
  obtain ⟨d, hd⟩ := equal_succ
  rw [hd]
  unfold Op.equalIn
  simp only [Sem.run_bind, run_under hC hr, Result.andThen_ok]
  unfold eqAt at hs
  split at hs
  · rename_i p q
    simp only [VR] at ha hb
    subst ha hb
    split at hs
    · rename_i hu
      rw [hu]
      simp only [Sem.run_pure]
      split at hs
      · cases hs; simp [SB.den, eqBool_iff]
      · cases hs; simp [SB.den]
      · cases hs; simp [SB.den, SB.notS_den]
      · cases hs
    · cases hs
  · split at hs
    · rename_i hu; cases hs; simp only [VR] at ha hb; subst ha hb; rw [hu]; rfl
    · cases hs
  · split at hs
    · rename_i hu; cases hs; simp only [VR] at ha hb; obtain ⟨L, _, rfl⟩ := hb; subst ha; rw [hu]; rfl
    · cases hs
  · split at hs
    · rename_i hu; cases hs; simp only [VR] at ha hb; obtain ⟨L, _, rfl⟩ := ha; subst hb; rw [hu]; rfl
    · cases hs
  · cases hs
  · split at hs
    · rename_i hu; cases hs; simp only [VR] at ha hb; obtain ⟨z, rfl, _⟩ := hb; subst ha; rw [hu]; rfl
    · cases hs
  · split at hs
    · rename_i hu; cases hs; simp only [VR] at ha hb; obtain ⟨z, rfl, _⟩ := ha; subst hb; rw [hu]; rfl
    · cases hs
  · split at hs
    · rename_i hu; cases hs; simp only [VR] at ha hb; subst ha hb; rw [hu]; rfl
    · cases hs
  · split at hs
    · rename_i hu; cases hs; simp only [VR] at ha hb; obtain ⟨L, _, _, _, rfl⟩ := hb; subst ha; rw [hu]; rfl
    · cases hs
  · split at hs
    · rename_i hu; cases hs; simp only [VR] at ha hb; obtain ⟨L, _, _, _, rfl⟩ := ha; subst hb; rw [hu]; rfl
    · cases hs
  · split at hs
    · rename_i hu; cases hs; simp only [VR] at ha hb; subst ha hb; rw [hu]; rfl
    · cases hs
  · split at hs
    · rename_i hu; cases hs; simp only [VR] at ha hb; obtain ⟨_, _, _, rfl, _⟩ := hb; subst ha; rw [hu]; rfl
    · cases hs
  · split at hs
    · rename_i hu; cases hs; simp only [VR] at ha hb; obtain ⟨_, _, _, rfl, _⟩ := ha; subst hb; rw [hu]; rfl
    · cases hs
  · cases hs

include hC in
theorem eqPtr_ok {t : Nat} {r : TyRow} (hr : C.ty.get t = some r) {i o j p : Nat} {x y : Value} {s : SB} (ha : VR ρ φ (.ptr i o) x) (hb : VR ρ φ (.ptr j p) y) (hs : eqPtr C r.u i o j p = .ok s) :
    (Op.equal t x y).run P w = .ok (s.den ρ) w := by
  obtain ⟨d, hd⟩ := equal_succ
  unfold eqPtr at hs
  split at hs
  · rename_i e hu
    replace hs := Ev.bind_ok hs; obtain ⟨re, hre, hs⟩ := hs
    have hre := row_ok hre
    cases hz : re.size.beq 0
    · rw [hz] at hs
      simp only [cond_false] at hs
      replace hs := bif_ok hs; obtain ⟨hij, hs⟩ := hs
      have := beq_nat hij
      subst this
      cases hs
      have hne : re.size ≠ 0 := fun e => by rw [nbeq_true e] at hz; cases hz
      simp only [VR] at ha hb
      obtain ⟨L, hL, rfl⟩ := ha
      obtain ⟨M, hM, rfl⟩ := hb
      rw [hL] at hM; cases hM
      rw [hd]
      unfold Op.equalIn
      simp only [Sem.run_bind, run_under hC hr, Result.andThen_ok, hu]
      have : (⟨L.blk, L.base + o, none⟩ : Addr) = ⟨L.blk, L.base + p, none⟩ ↔ o = p := by
        constructor
        · intro h; injection h with _ h _; omega
        · rintro rfl; rfl
      simp only [run_size hC hre, Result.andThen_ok, if_pos hne, sameAddr, beq_self_eq_true, if_true, Sem.run_pure, SB.den, nbeq_iff]
      congr 1
      rw [Bool.eq_iff_iff, beq_iff_eq, decide_eq_true_iff]
      exact this
    · rw [hz] at hs; cases hs
  · cases hs

theorem run_eqGuard_skip {op : BinOp} {t : TypeId} {x y : Operand} {a b : Value} (h1 : ∀ (p q : Array Value), a = .agg p → b = .agg q → False) (h2 : a = .nilIface → b = .nilIface → nilIfaceLit x y = true) :
    (eqGuard op t x y a b).run P w = .ok () w := by
  unfold eqGuard
  cases op <;> try rfl
  all_goals
    simp only [Bool.not_true, Bool.false_eq_true, if_false]
    split
    · have hn := h2 rfl rfl
      cases x <;> cases y <;> first | rfl | (simp [nilIfaceLit] at hn; done)
    · exact (h1 _ _ rfl rfl).elim
    · rfl

include hC in
theorem eqAny_ok {t : Nat} {xo yo : Operand} {a b : AV} {x y : Value} {s : SB} {op : BinOp} (ha : VR ρ φ a x) (hb : VR ρ φ b y) (hs : eqAny C t xo yo a b = .ok s) :
    (Op.equal t x y).run P w = .ok (s.den ρ) w ∧ (eqGuard op t xo yo x y).run P w = .ok () w := by
  unfold eqAny at hs
  replace hs := Ev.bind_ok hs; obtain ⟨r, hr, hs⟩ := hs
  have hr := row_ok hr
  split at hs
  · refine ⟨eqPtr_ok hC hr ha hb hs, run_eqGuard_skip ?_ ?_⟩
    · rintro p q rfl rfl; obtain ⟨cs, h⟩ := VR_agg ha; cases h
    · rintro rfl rfl; cases VR_nilIface ha
  · split at hs
    · rename_i hu
      replace hs := bif_ok hs; obtain ⟨hl, hs⟩ := hs
      cases hs
      simp only [VR] at ha hb
      subst ha hb
      refine ⟨?_, run_eqGuard_skip (fun p q e => by cases e) (fun _ _ => hl)⟩
      obtain ⟨d, hd⟩ := equal_succ
      rw [hd]
      unfold Op.equalIn
      simp only [Sem.run_bind, run_under hC hr, Result.andThen_ok, hu]
      rfl
    · cases hs
  · rename_i hnn
    refine ⟨eqAt_ok hC hr ha hb hs, run_eqGuard_skip ?_ ?_⟩
    · rintro p q rfl rfl
      obtain ⟨cs, rfl⟩ := VR_agg ha
      simp [eqAt] at hs
    · rintro rfl rfl
      exact (hnn (VR_nilIface ha) (VR_nilIface hb)).elim
end
end Go.Sx
namespace Go.Sx
section
variable {C : Ctx} {P : Program} {ρ : Env} (hC : CtxOK C P ρ) {φ : Pl} {F : Facts} (hF : F.ok ρ) {h : Heap} {w : World} (hw : WR ρ φ h w)

theorem bytes_append (a b : List UInt8) : ByteArray.mk ⟨a⟩ ++ ByteArray.mk ⟨b⟩ = ⟨⟨a ++ b⟩⟩ := by
  apply ByteArray.ext
  apply Array.toList_inj.1
  simp
theorem bytes_toList (a : List UInt8) : (ByteArray.mk ⟨a⟩).toList = a := by rw [ByteArray.toList_eq]

theorem strLt_ok {a b : SS} {v : AV} (hv : strLt a b = .ok v) : v = .bool (.lit (Op.bytesLess (SS.den ρ a) (SS.den ρ b))) := by
  unfold strLt at hv
  split at hv
  · rename_i x y hx hy
    cases hv
    rw [SS.toLit_den ρ hx, SS.toLit_den ρ hy, bytesLt_eq]
  · cases hv

include hF in
theorem strOp_ok {o : BinOp} {a b : SS} {v : AV} (hv : strOp F o a b = .ok v) : ∃ z, (Op.stringOp o ⟨⟨SS.den ρ a⟩⟩ ⟨⟨SS.den ρ b⟩⟩).run P w = .ok z w ∧ VR ρ φ v z := by
  unfold strOp at hv
  cases o <;> simp only at hv <;> try cases hv
  case add =>
    replace hv := bif_ok hv; obtain ⟨hb, hv⟩ := hv
    cases hv
    have := leSI_ok hF hb
    simp only [SI.addS_den, SS.len_den, SI.den] at this
    refine ⟨.string (ByteArray.mk ⟨SS.den ρ a⟩ ++ ByteArray.mk ⟨SS.den ρ b⟩), ?_, by simp only [VR, SS.app_den, bytes_append]⟩
    have hsz : ∀ l : List UInt8, (ByteArray.mk ⟨l⟩).size = l.length := fun _ => rfl
    have : ¬ ((((ByteArray.mk ⟨SS.den ρ a⟩).size + (ByteArray.mk ⟨SS.den ρ b⟩).size : Nat) : Int) > IntKind.i64.max) := by
      rw [hsz, hsz]
      simp [IntKind.max, IntKind.signed, IntKind.bits]
      omega
    simp only [Op.stringOp, if_neg this, Sem.run_pure]
  case eql =>
    replace hv := Ev.bind_ok hv; obtain ⟨r, hr, hv⟩ := hv
    cases hv
    refine ⟨_, rfl, ?_⟩
    simp only [VR, strEq_den hF hr, bytes_toList]
    congr 1
    rw [Bool.eq_iff_iff]; simp
  case neq =>
    replace hv := Ev.bind_ok hv; obtain ⟨r, hr, hv⟩ := hv
    cases hv
    refine ⟨_, rfl, ?_⟩
    simp only [VR, SB.notS_den, strEq_den hF hr, bytes_toList]
    congr 1
    rw [Bool.eq_iff_iff]; simp
  case lss =>
    have := strLt_ok (ρ := ρ) hv; subst this
    exact ⟨_, rfl, by simp only [VR, SB.den, bytes_toList]⟩
  case gtr =>
    have := strLt_ok (ρ := ρ) hv; subst this
    refine ⟨_, rfl, ?_⟩
    simp only [VR, SB.den, bytes_toList]
    congr 1
    have tri : ∀ (a b : List UInt8), Op.bytesLess b a = !(Op.bytesLess a b || a == b) := by
      intro a
      induction a with
      | nil => intro b; cases b <;> rfl
      | cons x a ih =>
        intro b
        cases b with
        | nil => rfl
        | cons y b =>
          simp only [Op.bytesLess, ih b]
          by_cases h1 : y < x
          · have h2 : ¬ x < y := fun h => UInt8.lt_irrefl _ (UInt8.lt_trans h1 h)
            have h3 : x ≠ y := fun e => by subst e; exact UInt8.lt_irrefl _ h1
            simp [h1, h2, h3]
          · by_cases h3 : x = y
            · subst h3; simp [UInt8.lt_irrefl]
            · have h2 : x < y := UInt8.lt_of_le_of_ne (UInt8.not_lt.1 h1) h3
              have h4 : y ≠ x := fun e => h3 e.symm
              simp [h1, h2, h4]
    exact (tri _ _).symm

theorem intBin_run {o : BinOp} {k k' : IntKind} {a b r : Int} (hk : isShift o = true ∨ k = k') (hc : isCmp o = false) (h : intBin o k a b = some r) (t : TypeId) :
    (binOp o t (.int k a) (.int k' b)).run P w = .ok (.int k r) w := by
  cases o <;> simp [isCmp] at hc <;> simp only [intBin] at h <;> simp only [isShift, Bool.false_eq_true, false_or, true_or] at hk
  case shl =>
    cases hb : ltInt b 0
    · rw [hb] at h
      cases h
      rw [ltInt_iff] at hb
      have : ¬ b < 0 := by simpa using hb
      simp [binOp, Op.shift, this]
    · rw [hb] at h; cases h
  case shr =>
    cases hb : ltInt b 0
    · rw [hb] at h
      cases h
      rw [ltInt_iff] at hb
      have : ¬ b < 0 := by simpa using hb
      simp [binOp, Op.shift, this]
    · rw [hb] at h; cases h
  case quo =>
    subst hk
    cases hb : eqInt b 0
    · rw [hb] at h
      cases h
      rw [eqInt_iff] at hb
      have : b ≠ 0 := by simpa using hb
      simp [binOp, Op.intDiv, this]
    · rw [hb] at h; cases h
  case rem =>
    subst hk
    cases hb : eqInt b 0
    · rw [hb] at h
      cases h
      rw [eqInt_iff] at hb
      have : b ≠ 0 := by simpa using hb
      simp [binOp, Op.intDiv, this]
    · rw [hb] at h; cases h
  all_goals
    subst hk
    cases h
    simp [binOp, Op.intArith, Op.intBits]

theorem intCmp_run {o : BinOp} {k : IntKind} {a b : Int} (hc : isCmp o = true) (t : TypeId) :
    (binOp o t (.int k a) (.int k b)).run P w = .ok (.bool ((intCmp o a b).getD false)) w := by
  cases o <;> simp [isCmp] at hc <;> simp [binOp, Op.intCmp, intCmp, eqInt_iff, ltInt_iff] <;> rw [Bool.eq_iff_iff] <;> simp

include hF in
theorem intsOp_ok {o : BinOp} {k k' : IntKind} {a b : SI} {v : AV} (hv : intsOp F o k k' a b = .ok v) (t : TypeId) :
    ∃ z, (binOp o t (.int k (a.den ρ)) (.int k' (b.den ρ))).run P w = .ok z w ∧ VR ρ φ v z := by
  unfold intsOp at hv
  replace hv := bif_ok hv; obtain ⟨hk, hv⟩ := hv
  simp only [Bool.or_eq_true] at hk
  cases hc : isCmp o
  · rw [hc] at hv
    simp only [cond_false] at hv
    replace hv := Ev.bind_ok hv; obtain ⟨r, hr, hv⟩ := hv
    cases hv
    have := intOp_den hF (Ev.ofOpt_ok hr)
    exact ⟨_, intBin_run (hk.imp id eqKind_eq) hc this t, by simp only [VR]⟩
  · rw [hc] at hv
    cases hv
    have hkk : k = k' := by
      rcases hk with h | h
      · cases o <;> simp [isShift] at h <;> simp [isCmp] at hc
      · exact eqKind_eq h
    subst hkk
    exact ⟨_, intCmp_run hc t, by simp only [VR, SB.cmpS_den]⟩

theorem VR_int {a : AV} {k : IntKind} {n : Int} (h : VR ρ φ a (.int k n)) : ∃ m, a = .int k m := by
  cases a with
  | int k m => simp only [VR] at h; cases h; exact ⟨m, rfl⟩
  | ptr i o => simp only [VR] at h; obtain ⟨_, _, h⟩ := h; cases h
  | slice i o l c => simp only [VR] at h; obtain ⟨_, _, _, _, h⟩ := h; cases h
  | eslice i z => simp only [VR] at h; obtain ⟨_, _, _, _, _, _, h⟩ := h; cases h
  | iptr i z x o => simp only [VR] at h; obtain ⟨_, _, _, h⟩ := h; cases h
  | func f x y => simp only [VR] at h; obtain ⟨_, _, _, h, _⟩ := h; cases h
  | iface t x => simp only [VR] at h; obtain ⟨_, h, _⟩ := h; cases h
  | tup x => simp only [VR] at h; obtain ⟨_, h, _⟩ := h; cases h
  | agg x => simp only [VR] at h; obtain ⟨_, h, _⟩ := h; cases h
  | _ => simp only [VR] at h; cases h
theorem VR_string {a : AV} {s : ByteArray} (h : VR ρ φ a (.string s)) : ∃ m, a = .str m := by
  cases a with
  | str m => exact ⟨m, rfl⟩
  | ptr i o => simp only [VR] at h; obtain ⟨_, _, h⟩ := h; cases h
  | slice i o l c => simp only [VR] at h; obtain ⟨_, _, _, _, h⟩ := h; cases h
  | eslice i z => simp only [VR] at h; obtain ⟨_, _, _, _, _, _, h⟩ := h; cases h
  | iptr i z x o => simp only [VR] at h; obtain ⟨_, _, _, h⟩ := h; cases h
  | func f x y => simp only [VR] at h; obtain ⟨_, _, _, h, _⟩ := h; cases h
  | iface t x => simp only [VR] at h; obtain ⟨_, h, _⟩ := h; cases h
  | tup x => simp only [VR] at h; obtain ⟨_, h, _⟩ := h; cases h
  | agg x => simp only [VR] at h; obtain ⟨_, h, _⟩ := h; cases h
  | _ => simp only [VR] at h; cases h
theorem VR_float {a : AV} {k : FloatKind} {n : Nat} (h : VR ρ φ a (.float k n)) : False := by
  cases a with
  | ptr i o => simp only [VR] at h; obtain ⟨_, _, h⟩ := h; cases h
  | slice i o l c => simp only [VR] at h; obtain ⟨_, _, _, _, h⟩ := h; cases h
  | eslice i z => simp only [VR] at h; obtain ⟨_, _, _, _, _, _, h⟩ := h; cases h
  | iptr i z x o => simp only [VR] at h; obtain ⟨_, _, _, h⟩ := h; cases h
  | func f x y => simp only [VR] at h; obtain ⟨_, _, _, h, _⟩ := h; cases h
  | iface t x => simp only [VR] at h; obtain ⟨_, h, _⟩ := h; cases h
  | tup x => simp only [VR] at h; obtain ⟨_, h, _⟩ := h; cases h
  | agg x => simp only [VR] at h; obtain ⟨_, h, _⟩ := h; cases h
  | _ => simp only [VR] at h; cases h
theorem VR_complex {a : AV} {k : FloatKind} {n m : Nat} (h : VR ρ φ a (.complex k n m)) : False := by
  cases a with
  | ptr i o => simp only [VR] at h; obtain ⟨_, _, h⟩ := h; cases h
  | slice i o l c => simp only [VR] at h; obtain ⟨_, _, _, _, h⟩ := h; cases h
  | eslice i z => simp only [VR] at h; obtain ⟨_, _, _, _, _, _, h⟩ := h; cases h
  | iptr i z x o => simp only [VR] at h; obtain ⟨_, _, _, h⟩ := h; cases h
  | func f x y => simp only [VR] at h; obtain ⟨_, _, _, h, _⟩ := h; cases h
  | iface t x => simp only [VR] at h; obtain ⟨_, h, _⟩ := h; cases h
  | tup x => simp only [VR] at h; obtain ⟨_, h, _⟩ := h; cases h
  | agg x => simp only [VR] at h; obtain ⟨_, h, _⟩ := h; cases h
  | _ => simp only [VR] at h; cases h
theorem binOp_eq {t : Nat} {x y : Value} (h1 : ∀ k n k' m, x = .int k n → y = .int k' m → False) (h2 : ∀ s s', x = .string s → y = .string s' → False) (h3 : ∀ k n, x = .float k n → False) (h4 : ∀ k n m, x = .complex k n m → False) :
    binOp .eql t x y = (do pure (.bool (← Op.equal t x y))) ∧ binOp .neq t x y = (do pure (.bool (!(← Op.equal t x y)))) := by
  cases x <;> first
    | exact (h3 _ _ rfl).elim
    | exact (h4 _ _ _ rfl).elim
    | (cases y <;> first
        | exact (h1 _ _ _ _ rfl rfl).elim
        | exact (h2 _ _ rfl rfl).elim
        | exact ⟨rfl, rfl⟩)
include hC hF in
theorem binOpA_ok {o : BinOp} {t : Nat} {xo yo : Operand} {a b v : AV} {x y : Value} (ha : VR ρ φ a x) (hb : VR ρ φ b y) (hv : binOpA C F o t xo yo a b = .ok v) :
    ∃ z, (do eqGuard o t xo yo x y; binOp o t x y).run P w = .ok z w ∧ VR ρ φ v z := by
  unfold binOpA at hv
  split at hv
  · rename_i k n k' m
    simp only [VR] at ha hb
    subst ha hb
    obtain ⟨z, h1, h2⟩ := intsOp_ok hF (P := P) (w := w) (φ := φ) hv t
    refine ⟨z, ?_, h2⟩
    rw [Sem.run_bind, run_eqGuard_skip (fun p q e => by cases e) (fun e => by cases e), Result.andThen_ok]
    exact h1
  · rename_i p q
    simp only [VR] at ha hb
    subst ha hb
    obtain ⟨z, h1, h2⟩ := strOp_ok hF (P := P) (w := w) (φ := φ) hv
    refine ⟨z, ?_, h2⟩
    rw [Sem.run_bind, run_eqGuard_skip (fun p q e => by cases e) (fun e => by cases e), Result.andThen_ok]
    have : binOp o t (.string ⟨⟨SS.den ρ p⟩⟩) (.string ⟨⟨SS.den ρ q⟩⟩) = Op.stringOp o ⟨⟨SS.den ρ p⟩⟩ ⟨⟨SS.den ρ q⟩⟩ := by cases o <;> rfl
    rw [this]; exact h1
  · rename_i hni hns
    have hop := binOp_eq (t := t) (x := x) (y := y)
      (by rintro k n k' m rfl rfl; obtain ⟨p, rfl⟩ := VR_int ha; obtain ⟨q, rfl⟩ := VR_int hb; exact hni _ _ _ _ rfl rfl)
      (by rintro p q rfl rfl; obtain ⟨p, rfl⟩ := VR_string ha; obtain ⟨q, rfl⟩ := VR_string hb; exact hns _ _ rfl rfl)
      (by rintro k n rfl; exact VR_float ha) (by rintro k n m rfl; exact VR_complex ha)
    split at hv
    · replace hv := Ev.bind_ok hv; obtain ⟨s, hs, hv⟩ := hv
      cases hv
      obtain ⟨h1, h2⟩ := eqAny_ok hC (P := P) (w := w) (op := .eql) ha hb hs
      refine ⟨.bool (s.den ρ), ?_, by simp only [VR]⟩
      rw [Sem.run_bind, h2, Result.andThen_ok, hop.1, Sem.run_bind, h1]
      rfl
    · replace hv := Ev.bind_ok hv; obtain ⟨s, hs, hv⟩ := hv
      cases hv
      obtain ⟨h1, h2⟩ := eqAny_ok hC (P := P) (w := w) (op := .neq) ha hb hs
      refine ⟨.bool (!(s.den ρ)), ?_, by simp only [VR, SB.notS_den]⟩
      rw [Sem.run_bind, h2, Result.andThen_ok, hop.2, Sem.run_bind, h1]
      rfl
    · cases hv

include hF in
theorem unOpA_ok {o : UnOp} {a v : AV} {x : Value} (ha : VR ρ φ a x) (hv : unOpA F o a = .ok v) : ∃ z, (Op.unary o x).run P w = .ok z w ∧ VR ρ φ v z := by
  unfold unOpA at hv
  split at hv
  · cases hv
    simp only [VR] at ha; subst ha
    exact ⟨_, rfl, by simp only [VR, SB.notS_den]⟩
  · rename_i k n
    simp only [VR] at ha; subst ha
    replace hv := Ev.bind_ok hv; obtain ⟨r, hr, hv⟩ := hv
    cases hv
    have := intOp_den hF (Ev.ofOpt_ok hr)
    simp only [intBin, SI.den, Option.some.injEq] at this
    exact ⟨_, rfl, by simp only [VR, this]⟩
  · rename_i k n
    simp only [VR] at ha; subst ha
    replace hv := Ev.bind_ok hv; obtain ⟨r, hr, hv⟩ := hv
    cases hv
    have := intOp_den hF (Ev.ofOpt_ok hr)
    simp only [intBin, SI.den, Option.some.injEq] at this
    refine ⟨_, rfl, ?_⟩
    simp only [VR, ← this]
    cases k.signed <;> rfl
  · cases hv
end
end Go.Sx
namespace Go.Sx
section
variable {C : Ctx} {P : Program} {ρ : Env} (hC : CtxOK C P ρ) {φ : Pl} {F : Facts} (hF : F.ok ρ) {h : Heap} {w : World} (hw : WR ρ φ h w)

/-- parts, side by side -/
def PRs (ρ : Env) (φ : Pl) : List (Nat × AV) → List (Nat × Value) → Prop
  | [], [] => True
  | (i, a) :: l, (j, v) :: m => i = j ∧ VR ρ φ a v ∧ PRs ρ φ l m
  | _, _ => False
theorem fold_cells (off : Nat) (l cs : List Value) (hle : off + l.length ≤ cs.length) :
    (l.toArray.zipIdx.foldl (fun (cs : Array Value) (x : Value × Nat) => cs.setIfInBounds (off + x.2) x.1) ⟨cs⟩) = ⟨cs.take off ++ l ++ cs.drop (off + l.length)⟩ := by
  have h := Go.Great.foldl_set off l 0 ⟨cs⟩
  have e : l.toArray.zipIdx.foldl (fun (cs : Array Value) (x : Value × Nat) => cs.setIfInBounds (off + x.2) x.1) ⟨cs⟩ = (l.zipIdx 0).foldl (fun cs (x : Value × Nat) => cs.setIfInBounds (off + x.2) x.1) ⟨cs⟩ := by
    rw [← Array.foldl_toList]; simp
  rw [e]
  obtain ⟨h1, h2⟩ := h
  apply Array.ext_getElem?
  intro k
  rw [h2 k]
  simp only [Nat.add_zero, List.size_toArray, List.getElem?_toArray]
  by_cases hin : off ≤ k ∧ k < off + l.length ∧ k < cs.length
  · rw [if_pos hin, List.append_assoc, List.getElem?_append_right (by simp; omega), List.getElem?_append_left (by simp; omega)]
    congr 1; simp; omega
  · rw [if_neg hin]
    by_cases hk : k < off
    · rw [List.append_assoc, List.getElem?_append_left (by simp; omega), List.getElem?_take, if_pos hk]
    · rw [List.getElem?_append_right (by simp; omega), List.getElem?_drop]
      congr 1; simp; omega
theorem fill_ok (place : Nat → Option (Nat × Nat)) : ∀ (parts : List (Nat × AV)) (parts' : List (Nat × Value)) (cells r : List AV) (xs : List Value), PRs ρ φ parts parts' → VRs ρ φ cells xs → fillA place cells parts = some r →
    ∃ ys, Instr.fill place ⟨xs⟩ parts' = some ⟨ys⟩ ∧ VRs ρ φ r ys
  | [], [], cells, r, xs, _, hc, hr => by simp [fillA] at hr; subst hr; exact ⟨xs, rfl, hc⟩
  | (i, a) :: l, (j, v) :: m, cells, r, xs, hp, hc, hr => by
    obtain ⟨rfl, hv, hp⟩ := hp
    simp only [fillA] at hr
    split at hr
    · cases hr
    · rename_i off size hpl
      cases hb : a.cells.length.beq size
      · rw [hb] at hr; cases hr
      · rw [hb] at hr
        simp only [_root_.cond_true] at hr
        have hsz := beq_nat hb
        split at hr
        · rename_i cs hcs
          obtain ⟨hle, hceq⟩ := setAt_eq _ _ _ _ hcs
          have l1 := VRs.length hv.cells
          have l2 := VRs.length hc
          have hnew : VRs ρ φ cs (xs.take off ++ v.cells.toList ++ xs.drop (off + v.cells.toList.length)) := by
            rw [hceq, ← l1]
            exact VRs.append (VRs.append (VRs.take _ hc) hv.cells) (VRs.drop _ hc)
          obtain ⟨ys, h1, h2⟩ := fill_ok place l m cs r _ hp hnew hr
          refine ⟨ys, ?_, h2⟩
          have hf := fold_cells off v.cells.toList xs (by omega)
          simp only [Array.toArray_toList] at hf
          have hl : v.cells.size = v.cells.toList.length := by simp
          unfold Instr.fill
          rw [hpl]
          have hcond : ¬ ((v.cells.size ≠ size || off + v.cells.size > (⟨xs⟩ : Array Value).size) = true) := by
            simp only [List.size_toArray, Bool.or_eq_true, decide_eq_true_eq, not_or]
            refine ⟨by simp; omega, by omega⟩
          simp only [hcond, if_false, Bool.false_eq_true]
          rw [hf]; exact h1
        · cases hr
  | [], _ :: _, _, _, _, hp, _, _ => by simp [PRs] at hp
  | _ :: _, [], _, _, _, hp, _, _ => by simp [PRs] at hp

include hC in
theorem placesOf_ok : ∀ (fs : List Field) (ps : List (Nat × Nat)), placesOf C fs = some ps → fs.mapM (fun f => (P.info? f.type).map fun i => (f.offset, i.size)) = some ps
  | [], ps, h => by simp [placesOf] at h; subst h; rfl
  | f :: fs, ps, h => by
    simp only [placesOf] at h
    split at h
    · rename_i r l hr hl
      cases h
      obtain ⟨i, h1, _, h3, _⟩ := hC.ty _ _ hr
      simp [List.mapM_cons, h1, placesOf_ok fs l hl, h3]
    · cases h

include hC in
theorem buildA_ok {t : Nat} {parts : List (Nat × AV)} {parts' : Array (Nat × Value)} {v : AV} (hp : PRs ρ φ parts parts'.toList) (hv : buildA C t parts = .ok v) :
    ∃ z, (Instr.build t parts').run P w = .ok z w ∧ VR ρ φ v z := by
  unfold buildA at hv
  replace hv := Ev.bind_ok hv; obtain ⟨r, hr, hv⟩ := hv
  have hr := row_ok hr
  replace hv := Ev.bind_ok hv; obtain ⟨z, hz, hv⟩ := hv
  have hz := Ev.ofOpt_ok hz
  obtain ⟨i, h1, h2, h3, _, h5⟩ := hC.ty t r hr
  obtain ⟨zv, h6, h7⟩ := h5 z hz
  have hzv := (AV.ofVal_ok ρ φ zv z h7).cells
  split at hv
  · rename_i fs hu
    replace hv := Ev.bind_ok hv; obtain ⟨ps, hps, hv⟩ := hv
    replace hv := Ev.bind_ok hv; obtain ⟨cs, hcs, hv⟩ := hv
    cases hv
    have hps := placesOf_ok hC _ _ (Ev.ofOpt_ok hps)
    obtain ⟨ys, h8, h9⟩ := fill_ok _ _ _ _ _ _ hp hzv (Ev.ofOpt_ok hcs)
    refine ⟨.agg ⟨ys⟩, run_build w t parts' ⟨ys⟩ ?_, by simp only [VR]; exact ⟨ys, rfl, h9⟩⟩
    rw [hu] at h2
    simp only [Program.built, h1, h2, h6, hps]
    have e : (fun (x : Nat) => ps.toArray[x]?) = fun (x : Nat) => ps[x]? := by funext x; simp
    rw [e]
    simpa using h8
  · rename_i n e hu
    replace hv := Ev.bind_ok hv; obtain ⟨re, hre, hv⟩ := hv
    have hre := row_ok hre
    replace hv := Ev.bind_ok hv; obtain ⟨cs, hcs, hv⟩ := hv
    cases hv
    obtain ⟨ie, g1, _, g3, _⟩ := hC.ty e re hre
    obtain ⟨ys, h8, h9⟩ := fill_ok _ _ _ _ _ _ hp hzv (Ev.ofOpt_ok hcs)
    refine ⟨.agg ⟨ys⟩, run_build w t parts' ⟨ys⟩ ?_, by simp only [VR]; exact ⟨ys, rfl, h9⟩⟩
    rw [hu] at h2
    simp only [Program.built, h1, h2, h6, g1, g3]
    simpa using h8
  · cases hv

theorem repCells_VR {z : List AV} {zs : List Value} (hz : VRs ρ φ z zs) : ∀ n, VRs ρ φ (repCells z n) ((List.range (n * zs.length)).map fun i => zs[i % zs.length]!)
  | 0 => by simp [repCells]; exact VRs.nil
  | n + 1 => by
    have ih := repCells_VR hz n
    have e : (List.range ((n + 1) * zs.length)).map (fun i => zs[i % zs.length]!) = zs ++ (List.range (n * zs.length)).map fun i => zs[i % zs.length]! := by
      rw [show (n + 1) * zs.length = zs.length + n * zs.length by rw [Nat.add_mul]; omega, List.range_add, List.map_append]
      congr 1
      · apply List.ext_getElem?
        intro i
        simp only [List.getElem?_map]
        by_cases hi : i < zs.length
        · simp [hi, Nat.mod_eq_of_lt hi]
        · simp [hi]
      · simp [List.map_map, Function.comp_def]
    rw [e]
    exact VRs.append hz ih

theorem newSlice_ok (hw : WR ρ φ h w) {cs : List AV} {xs : List Value} (hv : VRs ρ φ cs xs) (e len cap : Nat) (hl : len ≤ cap) :
    ∃ φ', Evo ρ φ h w φ' (newSlice h cs e len cap).2 (w.alloc (.cells xs.toArray e)) ∧ VR ρ φ' (newSlice h cs e len cap).1 (.slice (some ⟨w.heap.size, 0, none⟩) len cap) := by
  have he := evo_alloc_cells hw cs xs [] e hv
  simp only [List.append_nil] at he
  refine ⟨_, he, ?_⟩
  simp only [newSlice, VR, Cap.val, SI.den, Int.ofNat_eq_natCast, Int.toNat_natCast]
  exact ⟨_, Pl.with_same _ _ _, Int.natCast_nonneg _, hl, rfl⟩

theorem range_zero (zero : Array Value) (n : Nat) : ((Array.range n).map (zero[· % zero.size]!)) = ⟨(List.range n).map fun i => zero.toList[i % zero.toList.length]!⟩ := by
  apply Array.toList_inj.1
  simp only [Array.toList_map, Array.toList_range, Array.length_toList]
  apply List.map_congr_left
  intro a _
  simp [getElem!_def]

include hC hw in
theorem buildSliceA_ok {t len : Nat} {parts : List (Nat × AV)} {parts' : Array (Nat × Value)} {v : AV} {h' : Heap} (hp : PRs ρ φ parts parts'.toList) (hv : buildSliceA C h t len parts = .ok (v, h')) :
    ∃ φ' w' z, (Instr.buildSlice t len parts').run P w = .ok z w' ∧ Evo ρ φ h w φ' h' w' ∧ VR ρ φ' v z := by
  unfold buildSliceA at hv
  replace hv := Ev.bind_ok hv; obtain ⟨r, hr, hv⟩ := hv
  have hr := row_ok hr
  split at hv
  · rename_i e hu
    replace hv := Ev.bind_ok hv; obtain ⟨re, hre, hv⟩ := hv
    have hre := row_ok hre
    replace hv := Ev.bind_ok hv; obtain ⟨z, hz, hv⟩ := hv
    have hz := Ev.ofOpt_ok hz
    replace hv := bif_ok hv; obtain ⟨hok, hv⟩ := hv
    replace hv := Ev.bind_ok hv; obtain ⟨cs, hcs, hv⟩ := hv
    have hcs := Ev.ofOpt_ok hcs
    simp only [Bool.and_eq_true] at hok
    have hzl := beq_nat hok.1
    have hle := hok.2
    rw [Nat.ble_eq] at hle
    obtain ⟨zv, hzrun, hzv⟩ := run_zero hC hre hz ρ φ
    have hzc := hzv.cells
    have hl := VRs.length hzc
    have hrep := repCells_VR hzc len
    obtain ⟨ys, h8, h9⟩ := fill_ok _ _ _ _ _ _ hp hrep hcs
    have hsz : zv.cells.toList.length = re.size := by omega
    obtain ⟨φ', hev, hvr⟩ := newSlice_ok hw h9 e len len (Nat.le_refl _)
    have hfst : v = (newSlice h cs e len len).1 := by cases hv; rfl
    have hsnd : h' = (newSlice h cs e len len).2 := by cases hv; rfl
    refine ⟨φ', _, .slice (some ⟨w.heap.size, 0, none⟩) len len, ?_, by rw [hsnd]; exact hev, by rw [hfst]; exact hvr⟩
    have hbig : ¬ (len * re.size > 2 ^ 24) := by omega
    by_cases h0 : len * re.size = 0
    · have hz0 : (List.range (len * zv.cells.toList.length)).map (fun i => zv.cells.toList[i % zv.cells.toList.length]!) = [] := by rw [hsz, h0]; rfl
      rw [hz0] at h8
      change Instr.fill _ #[] _ = _ at h8
      have e0 : Array.range 0 = #[] := rfl
      simp [e0, Instr.buildSlice, run_under hC hr, hu, run_size hC hre, h0, h8, newRow, newObj, Sem.run, World.alloc_eq]
    · have hrr := range_zero zv.cells (len * re.size)
      rw [← hsz] at hrr
      rw [← hrr, hsz] at h8
      simp [Instr.buildSlice, run_under hC hr, hu, run_size hC hre, hbig, h0, hzrun, h8, newRow, newObj, Sem.run, World.alloc_eq]
  · cases hv
end
end Go.Sx
namespace Go.Sx
section
variable {C : Ctx} {P : Program} {ρ : Env} (hC : CtxOK C P ρ) {φ : Pl} {F : Facts} (hF : F.ok ρ) {h : Heap} {w : World} (hw : WR ρ φ h w)

def SrcC (ρ : Env) (φ : Pl) : Src → List Value → Prop
  | .cells pre cs, l => ∃ xs, l = preCells ρ pre ++ xs ∧ VRs ρ φ cs xs ∧ preOK ρ pre
  | .bytes s, l => l = byteVals (SS.den ρ s)
def SrcR (P : Program) (ρ : Env) (φ : Pl) (w : World) (size : Nat) (src : Src) (x : Value) : Prop :=
  ∃ (n : Nat) (cells : List Value), (∀ w2, (Builtin.lenOf x).run P w2 = .ok n w2) ∧ (∀ w2, w2.heap = w.heap → (Builtin.firstCells size n x).run P w2 = .ok cells.toArray w2) ∧ cells.length = n * size ∧ SrcC ρ φ src cells ∧
    (size ≠ 0 → (Src.len size src).den ρ = n)

theorem cell_heap {w w2 : World} (h : w2.heap = w.heap) (a : Addr) : w2.cell? a = w.cell? a := by simp [World.cell?, h]
theorem flatten_len {z : Nat} : ∀ (l : List (List Value)), (∀ r ∈ l, r.length = z) → l.flatten.length = l.length * z
  | [], _ => by simp
  | r :: l, h => by
    have := flatten_len l (fun x hx => h x (by simp [hx]))
    simp only [List.flatten_cons, List.length_append, List.length_cons, this, h r (by simp), Nat.add_mul]; omega
theorem RX.flat_len {ρ : Env} {z : Nat} (hz : z ≠ 0) : ∀ (x : RX), RX.ok ρ z x → ∃ n : Nat, (RX.len z x).den ρ = n ∧ (x.flat ρ).length = n * z ∧ ∀ v ∈ x.flat ρ, v.oneCell' = true
  | .v r, h => by
    refine ⟨(ρ.rows r).length, rfl, flatten_len _ (fun q hq => (h q hq).1), fun v hv => ?_⟩
    obtain ⟨q, hq, hv⟩ := List.mem_flatten.1 hv
    exact (h q hq).2 v hv
  | .cs l b, h => by
    obtain ⟨n, h1, h2, h3⟩ := RX.flat_len hz b h.2
    have hm := h.1
    refine ⟨l.length / z + n, ?_, ?_, fun v hv => ?_⟩
    · simp only [RX.len, SI.addS_den, SI.den, h1]; simp
    · have := Nat.div_add_mod l.length z
      rw [hm, Nat.mul_comm] at this
      simp only [RX.flat, List.length_append, List.length_map, h2, Nat.add_mul]; omega
    · rcases List.mem_append.1 hv with hv | hv
      · obtain ⟨a, _, rfl⟩ := List.mem_map.1 hv; exact val_one a
      · exact h3 v hv
theorem RX.flat_one {ρ : Env} {z : Nat} : ∀ (x : RX), RX.ok ρ z x → ∀ v ∈ x.flat ρ, v.oneCell' = true
  | .v r, h, u, hu => by
    obtain ⟨q, hq, hu⟩ := List.mem_flatten.1 hu
    exact (h q hq).2 u hu
  | .cs l b, h, u, hu => by
    rcases List.mem_append.1 hu with hu | hu
    · obtain ⟨a, _, rfl⟩ := List.mem_map.1 hu; exact val_one a
    · exact RX.flat_one b h.2 u hu
theorem run_first {P : Program} {w2 : World} {size n b o : Nat} {len cap : Nat} {ys : List Value} (hl : ys.length = n * size) (hy : ∀ j v, ys[j]? = some v → w2.cell? ⟨b, o + j, none⟩ = some v) :
    (Builtin.firstCells size n (.slice (some ⟨b, o, none⟩) len cap)).run P w2 = .ok ys.toArray w2 := by
  have := run_loadCells_at (P := P) hy
  rw [hl] at this
  exact this

include hw in
theorem sliceRow_ok {size : Nat} {a : AV} {x : Value} {src : Src} (ha : VR ρ φ a x) (hs : sliceRow h size a = .ok src) : SrcR P ρ φ w size src x := by
  unfold sliceRow at hs
  split at hs
  · cases hs
    simp only [VR] at ha; subst ha
    exact ⟨0, [], fun _ => rfl, fun _ _ => rfl, by simp, ⟨[], rfl, VRs.nil, trivial⟩, fun _ => by simp [Src.len, SI.den]⟩
  · cases hs
    simp only [VR] at ha; obtain ⟨L, o, c, _, _, _, rfl⟩ := ha
    refine ⟨0, [], fun _ => rfl, fun w2 _ => ?_, by simp, ⟨[], rfl, VRs.nil, trivial⟩, fun _ => by simp [Src.len, SI.den]⟩
    exact run_first (by simp) (fun j v hv => by simp at hv)
  · rename_i s
    replace hs := bif_ok hs; obtain ⟨h1, hs⟩ := hs
    cases hs
    have := beq_nat h1; subst this
    simp only [VR] at ha; subst ha
    refine ⟨(SS.den ρ s).length, byteVals (SS.den ρ s), fun _ => rfl, fun w2 _ => ?_, by simp [byteVals], rfl, fun _ => by simp [Src.len, SS.len_den]⟩
    have := Go.Lib.run_firstCells_string (P := P) w2 1 ⟨⟨SS.den ρ s⟩⟩
    have e1 : (ByteArray.mk ⟨SS.den ρ s⟩).size = (SS.den ρ s).length := rfl
    rw [e1] at this
    exact this
  · rename_i id off len cap
    simp only [VR] at ha
    obtain ⟨L, hL, hl0, hlc, rfl⟩ := ha
    have hlenNat : ((len.den ρ).toNat : Int) = len.den ρ := Int.toNat_of_nonneg hl0
    split at hs
    · rename_i ro cs e hb
      split at hs
      · rename_i n hn
        replace hs := Ev.bind_ok hs; obtain ⟨r, hr, hs⟩ := hs
        cases hs
        have hr := Ev.ofOpt_ok hr
        have hd := nat?_den hn ρ
        obtain ⟨M, o, hM, ho, hbr⟩ := hw.blk id _ hb
        rw [hL] at hM; cases hM
        obtain ⟨ek, c, lo, hi, xs, rest, rfl, _, hsz, hdrop, hvs, _⟩ := hbr
        simp only [preCells, List.nil_append] at hdrop
        have hll := VRs.length hvs
        have hreq : r = (cs.drop off).take (n * size) ∧ (n * size ≠ 0 → off + n * size ≤ cs.length) := by
          rcases getN_list hr with ⟨h1, _, h3⟩ | ⟨h1, h2⟩
          · exact ⟨h1, fun _ => h3⟩
          · exact ⟨by rw [h1, h2]; simp, fun hne => absurd h1 hne⟩
        have hylen : ((xs.drop off).take (n * size)).length = n * size := by
          by_cases h0 : n * size = 0
          · rw [h0]; simp
          · have := hreq.2 h0; simp; omega
        refine ⟨n, (xs.drop off).take (n * size), fun _ => by simp [Builtin.lenOf, hd], fun w2 hw2 => ?_, hylen, ⟨(xs.drop off).take (n * size), rfl, by rw [hreq.1]; exact VRs.take _ (VRs.drop _ hvs), trivial⟩, fun hz => ?_⟩
        · rw [hd]
          refine run_first hylen ?_
          intro j v hv
          rw [cell_heap hw2, cell_of ho, Nat.add_assoc, ← Array.getElem?_toList, ← List.getElem?_drop, hdrop]
          rw [List.getElem?_take] at hv
          split at hv
          · rw [List.getElem?_drop] at hv
            have : off + j < xs.length := by
              rcases Nat.lt_or_ge (off + j) xs.length with h | h
              · exact h
              · rw [List.getElem?_eq_none h] at hv; cases hv
            rw [List.getElem?_append_left this]; exact hv
          · cases hv
        · have : r.length = n * size := by
            have := VRs.length (VRs.take (n * size) (VRs.drop off hvs))
            rw [hylen] at this
            rw [hreq.1]; exact this
          simp only [Src.len, SI.den, this, Int.ofNat_eq_natCast]
          rw [Nat.mul_div_cancel _ (Nat.pos_of_ne_zero hz)]
      · cases hs
    · rename_i ro p cs e hb
      replace hs := bif_ok hs; obtain ⟨hok, hs⟩ := hs
      cases hs
      simp only [Bool.and_eq_true, Bool.not_eq_true'] at hok
      obtain ⟨⟨⟨⟨h1, h2⟩, h3⟩, h4⟩, h5⟩ := hok
      have e1 := beq_nat h1; subst e1
      have e2 := beq_nat h2
      have e4 := beq_nat h4
      have e5 := sameSI_den (ρ := ρ) h5
      have hz : size ≠ 0 := fun e => by rw [nbeq_true e] at h3; cases h3
      obtain ⟨M, o, hM, ho, hbr⟩ := hw.blk id _ hb
      rw [hL] at hM; cases hM
      obtain ⟨ek, c, lo, hi, xs, rest, rfl, _, hsz, hdrop, hvs, hpre⟩ := hbr
      have hll := VRs.length hvs
      have hpre' : RX.ok ρ size p.1 := by rw [← e2]; exact hpre
      obtain ⟨n, hn, hfl, _⟩ := RX.flat_len hz p.1 hpre'
      have hcs : cs.length = cs.length / size * size := by
        have h6 : cs.length % size = 0 := e4
        have := Nat.div_add_mod cs.length size
        rw [h6, Nat.mul_comm] at this; omega
      have hd : len.den ρ = (n + cs.length / size : Nat) := by
        rw [e5, SI.addS_den, hn]; simp [SI.den]
      have hlen : (preCells ρ (some p) ++ xs).length = (n + cs.length / size) * size := by
        simp only [preCells, List.length_append, hfl, Nat.add_mul]; omega
      refine ⟨n + cs.length / size, preCells ρ (some p) ++ xs, fun _ => by simp only [Builtin.lenOf, Sem.run_pure, hd, Int.toNat_natCast], fun w2 hw2 => ?_, hlen, ⟨xs, rfl, hvs, hpre⟩, fun _ => ?_⟩
      · rw [hd]
        refine run_first hlen ?_
        intro j v hv
        rw [cell_heap hw2, cell_of ho, Nat.add_assoc, Nat.zero_add, ← Array.getElem?_toList, ← List.getElem?_drop, hdrop]
        have : j < (preCells ρ (some p) ++ xs).length := by
          rcases Nat.lt_or_ge j (preCells ρ (some p) ++ xs).length with h | h
          · exact h
          · rw [List.getElem?_eq_none h] at hv; cases hv
        rw [List.getElem?_append_left this]; exact hv
      · simp only [Src.len, SI.addS_den, SI.den, hn]; simp
    · rename_i s e fz hb
      replace hs := bif_ok hs; obtain ⟨h1, hs⟩ := hs
      have e1 := beq_nat h1; subst e1
      obtain ⟨M, o, hM, ho, hbr⟩ := hw.blk id _ hb
      rw [hL] at hM; cases hM
      obtain ⟨c, lo, hi, rest, rfl, hsz, hdrop, _⟩ := hbr
      have cellAt : ∀ (w2 : World), w2.heap = w.heap → ∀ j b, (SS.den ρ s)[j]? = some b → w2.cell? ⟨L.blk, L.base + j, none⟩ = some (.int .u8 b.toNat) := by
        intro w2 hw2 j b hb
        rw [cell_heap hw2, cell_of ho, ← Array.getElem?_toList, ← List.getElem?_drop, hdrop]
        have hlt : j < (SS.den ρ s).length := by
          rcases Nat.lt_or_ge j (SS.den ρ s).length with h | h
          · exact h
          · rw [List.getElem?_eq_none h] at hb; cases hb
        rw [List.getElem?_append_left (by simpa [byteVals] using hlt)]
        simp [byteVals, hb]
      split at hs
      · rename_i n hn
        replace hs := Ev.bind_ok hs; obtain ⟨s1, hs1, hs⟩ := hs
        replace hs := Ev.bind_ok hs; obtain ⟨s2, hs2, hs⟩ := hs
        cases hs
        have hd := nat?_den hn ρ
        obtain ⟨d1, d2⟩ := SS.drop_den ρ _ _ _ (Ev.ofOpt_ok hs1)
        obtain ⟨t1, t2⟩ := SS.take_den ρ _ _ _ (Ev.ofOpt_ok hs2)
        have hl2 : (SS.den ρ s2).length = n := by rw [t1]; simp; omega
        refine ⟨n, byteVals (SS.den ρ s2), fun _ => by simp [Builtin.lenOf, hd], fun w2 hw2 => ?_, by simp [byteVals, hl2], rfl, fun _ => by simp [Src.len, SS.len_den, hl2]⟩
        rw [hd]
        refine run_first (by simp [byteVals, hl2]) ?_
        intro j v hv
        simp only [byteVals, List.getElem?_map] at hv
        cases hq : (SS.den ρ s2)[j]? with
        | none => rw [hq] at hv; cases hv
        | some b =>
          rw [hq] at hv
          cases hv
          rw [t1, d1, List.getElem?_take] at hq
          split at hq
          · rw [List.getElem?_drop] at hq
            rw [Nat.add_assoc]
            exact cellAt w2 hw2 (off + j) b hq
          · cases hq
      · replace hs := bif_ok hs; obtain ⟨hok, hs⟩ := hs
        cases hs
        simp only [Bool.and_eq_true] at hok
        have e0 := beq_nat hok.1; subst e0
        have e5 := SI.beq_eq hok.2
        have hd : len.den ρ = ((SS.den ρ s).length : Nat) := by rw [e5, SS.len_den]
        refine ⟨(SS.den ρ s).length, byteVals (SS.den ρ s), fun _ => by simp [Builtin.lenOf, hd], fun w2 hw2 => ?_, by simp [byteVals], rfl, fun _ => by simp [Src.len, SS.len_den]⟩
        rw [hd]
        refine run_first (by simp [byteVals]) ?_
        intro j v hv
        simp only [byteVals, List.getElem?_map] at hv
        cases hq : (SS.den ρ s)[j]? with
        | none => rw [hq] at hv; cases hv
        | some b =>
          rw [hq] at hv
          cases hv
          rw [Nat.add_zero]
          exact cellAt w2 hw2 j b hq
    · rename_i ro r z i cs e hb
      replace hs := bif_ok hs; obtain ⟨hok, hs⟩ := hs
      cases hs
      simp only [Bool.and_eq_true, Bool.not_eq_true'] at hok
      obtain ⟨⟨⟨h1, h2⟩, h3⟩, h5⟩ := hok
      have e1 := beq_nat h1; subst e1
      have e2 := beq_nat h2; subst e2
      have e5 := sameSI_den (ρ := ρ) h5
      have hz : z ≠ 0 := fun e => by rw [nbeq_true e] at h3; cases h3
      obtain ⟨M, o, hM, ho, ⟨ek, c, lo, hi, rest, rfl, _, hsz, hdrop⟩, hpre, _⟩ := hw.blk id _ hb
      rw [hL] at hM; cases hM
      obtain ⟨n, hn, hfl, _⟩ := RX.flat_len hz (.v r) hpre
      have hd : len.den ρ = (n : Nat) := by rw [e5]; exact hn
      have hlen : (RX.flat ρ (.v r)).length = n * z := hfl
      refine ⟨n, RX.flat ρ (.v r), fun _ => by simp only [Builtin.lenOf, Sem.run_pure, hd, Int.toNat_natCast], fun w2 hw2 => ?_, hlen, ⟨[], by simp [preCells], VRs.nil, hpre⟩, fun _ => ?_⟩
      · rw [hd]
        refine run_first hlen ?_
        intro j v hv
        rw [cell_heap hw2, cell_of ho, Nat.add_assoc, Nat.zero_add, ← Array.getElem?_toList, ← List.getElem?_drop, hdrop]
        have : j < (RX.flat ρ (.v r)).length := by
          rcases Nat.lt_or_ge j (RX.flat ρ (.v r)).length with h | h
          · exact h
          · rw [List.getElem?_eq_none h] at hv; cases hv
        rw [List.getElem?_append_left (show j < (ρ.rows r).flatten.length from this)]; exact hv
      · simp only [Src.len, SI.addS_den, SI.den, hn]; simp
    · cases hs
  · cases hs

include hF in
theorem byteSS_den {n : SI} (hf : fits F .u8 n = true) : (byteSS n).den ρ = [UInt8.ofNat (n.den ρ).toNat] ∧ ((UInt8.ofNat (n.den ρ).toNat).toNat : Int) = n.den ρ := by
  have := fits_ok hF hf
  simp [IntKind.min, IntKind.max, IntKind.signed, IntKind.bits] at this
  refine ⟨?_, ?_⟩
  · cases n <;> rfl
  · rw [UInt8.toNat_ofNat']; omega
include hF in
theorem cellsToSS_ok : ∀ {cs : List AV} {xs : List Value} {s : SS}, VRs ρ φ cs xs → cellsToSS F cs = some s → xs = byteVals (SS.den ρ s)
  | [], xs, s, hv, hs => by
    have := VRs.nil_left hv; subst this
    simp [cellsToSS] at hs; subst hs; rfl
  | v :: r, xs, s, hv, hs => by
    obtain ⟨x, ys, rfl, h1, h2⟩ := VRs.cons_left hv
    simp only [cellsToSS] at hs
    split at hs
    · rename_i k n
      cases hb : eqKind k .u8 && fits F .u8 n
      · rw [hb] at hs; cases hs
      · rw [hb] at hs
        simp only [_root_.cond_true] at hs
        simp only [Bool.and_eq_true] at hb
        split at hs
        · rename_i t ht
          cases hs
          have e := eqKind_eq hb.1; subst e
          simp only [VR] at h1; subst h1
          obtain ⟨d1, d2⟩ := byteSS_den hF hb.2
          rw [cellsToSS_ok h2 ht, SS.cons_den, d1]
          simp only [byteVals, List.map_cons, d2, List.singleton_append]
        · cases hs
    · cases hs
include hF in
theorem toSS_ok {src : Src} {l : List Value} {s : SS} (hc : SrcC ρ φ src l) (hs : Src.toSS F src = some s) : l = byteVals (SS.den ρ s) := by
  unfold Src.toSS at hs
  split at hs
  · cases hs; exact hc
  · obtain ⟨xs, rfl, hv, _⟩ := hc
    simpa [preCells] using cellsToSS_ok hF hv hs
  · cases hs
theorem srcApp_ok {a b : Src} {p : Option (RX × Nat)} {cs : List AV} {l m : List Value} (ha : SrcC ρ φ a l) (hb : SrcC ρ φ b m) (hs : Src.app a b = some (.cells p cs)) :
    ∃ xs, l ++ m = preCells ρ p ++ xs ∧ VRs ρ φ cs xs ∧ preOK ρ p := by
  unfold Src.app at hs
  split at hs
  · cases hs
    obtain ⟨xs, rfl, hv, _⟩ := ha
    have := VRs.nil_left hv; subst this
    obtain ⟨ys, rfl, hw, hp⟩ := hb
    exact ⟨ys, by simp [preCells], hw, hp⟩
  · cases hs
    obtain ⟨xs, rfl, hv, hp⟩ := ha
    obtain ⟨ys, hys, hw, _⟩ := hb
    subst hys
    exact ⟨xs ++ m, by simp, VRs.append hv hw, hp⟩
  · rename_i c q d _
    cases hc : c.all scalarAV && !q.2.beq 0 && (Nat.mod c.length q.2).beq 0
    · rw [hc] at hs; cases hs
    · rw [hc] at hs; cases hs
      simp only [Bool.and_eq_true, Bool.not_eq_true'] at hc
      obtain ⟨⟨h1, h2⟩, h3⟩ := hc
      obtain ⟨xs, rfl, hv, _⟩ := ha
      obtain ⟨ys, rfl, hw, hp⟩ := hb
      refine ⟨ys, ?_, hw, beq_nat h3, hp⟩
      rw [vals_of h1 hv]
      simp [preCells, RX.flat]
  · cases hs
end
end Go.Sx
