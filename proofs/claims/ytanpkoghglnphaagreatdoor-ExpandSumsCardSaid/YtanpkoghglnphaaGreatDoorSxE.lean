import Derived.Test.YtanpkoghglnphaaGreatDoorSxD
import Derived.Lib.UnsafeStr
import Derived.Lib.Overlaps
import Derived.Lib.Bytealg
import Derived.Laws.BytesString
import Derived.Test.YtanpkoghglnphaaGreatDoorSxA
namespace Go.Sx
section
variable {P : Program}

theorem run_app_room {w w' : World} {t t2 ty e : TypeId} {i : TypeInfo} {u : TypeDesc} (ht : P.underlying t = some (.slice e)) (hi : P.info? e = some i) (hu : P.underlying t2 = some u) (hnk : ∀ k, u ≠ .int k)
    {a : Addr} {sLen sCap : Nat} {y : Value} {n : Nat} {news : List Value} (hlen : ∀ w2, (Builtin.lenOf y).run P w2 = .ok n w2) (hf : (Builtin.firstCells i.size n y).run P w = .ok news.toArray w)
    (hr : sLen + n ≤ sCap) (hst : (storeCells (a.add (sLen * i.size)) news).run P w = .ok () w') :
    (Builtin.append_ #[t, t2] ty #[.slice (some a) sLen sCap, y]).run P w = .ok (.slice (some a) (sLen + n) sCap) w' := by
  simp [Builtin.append_, run_underlying ht, run_underlying hu, sizeOf, typeInfo, hi, hlen, hr, hf, hst]
theorem run_app_nil0 {w : World} {t t2 ty e : TypeId} {i : TypeInfo} {u : TypeDesc} (ht : P.underlying t = some (.slice e)) (hi : P.info? e = some i) (hu : P.underlying t2 = some u) (hnk : ∀ k, u ≠ .int k)
    {y : Value} {news : List Value} (hlen : ∀ w2, (Builtin.lenOf y).run P w2 = .ok 0 w2) (hf : (Builtin.firstCells i.size 0 y).run P w = .ok news.toArray w) :
    (Builtin.append_ #[t, t2] ty #[.slice none 0 0, y]).run P w = .ok (.slice none 0 0) w := by
  simp [Builtin.append_, run_underlying ht, run_underlying hu, sizeOf, typeInfo, hi, hlen, hf]
theorem run_app_grow {w : World} {t t2 ty e : TypeId} {i : TypeInfo} {u : TypeDesc} {z : Value} (ht : P.underlying t = some (.slice e)) (hi : P.info? e = some i) (hz : i.zero = some z) (hu : P.underlying t2 = some u) (hnk : ∀ k, u ≠ .int k)
    {a : Option Addr} {sLen sCap : Nat} {y : Value} {n : Nat} {olds news : List Value} (hlen : ∀ w2, (Builtin.lenOf y).run P w2 = .ok n w2)
    (hf : (Builtin.firstCells i.size n y).run P w.drew = .ok news.toArray w.drew) (hfo : (Builtin.firstCells i.size sLen (.slice a sLen sCap)).run P w.drew = .ok olds.toArray w.drew)
    (hg : sCap < sLen + n) (h63 : ((sLen + n : Nat) : Int) ≤ 9223372036854775807) (hfit : Builtin.nextslicecap (sLen + n) sCap * i.bytes ≤ 281474976710656) :
    (Builtin.append_ #[t, t2] ty #[.slice a sLen sCap, y]).run P w = .ok (.slice (some ⟨w.heap.size, 0, none⟩) (sLen + n) (grownCap w (sLen + n) sCap e))
      (w.drew.alloc (.cells (olds.toArray ++ news.toArray ++ Builtin.zeroCells z.cells (grownCap w (sLen + n) sCap e - (sLen + n))) e)) := by
  have hn : ¬ (sLen + n ≤ sCap) := by omega
  have h63' : ¬ (9223372036854775807 < ((sLen : Int) + (n : Int))) := by omega
  have h48' : ¬ (281474976710656 < Builtin.nextslicecap (sLen + n) sCap * i.bytes) := by omega
  simp [Builtin.append_, run_underlying ht, run_underlying hu, sizeOf, typeInfo, zeroValue, hi, hz, hlen, hn, h63', h48', Question.forced, hf, hfo, newRow, grownCap]
  congr 2
  apply Array.ext'
  simp [List.append_assoc]

theorem of_loadCellsFrom {w : World} (a : Addr) : ∀ (n i : Nat) (acc r : Array Value) (w' : World), (loadCellsFrom a i n acc).run P w = .ok r w' → ∃ ys : List Value, r = acc ++ ys.toArray ∧ ys.length = n ∧ ∀ j v, ys[j]? = some v → (load (a.add (i + j))).run P w = .ok v w
  | 0, i, acc, r, w', h => by
    simp [loadCellsFrom] at h
    exact ⟨[], by simp [h.1], rfl, fun j v hv => by simp at hv⟩
  | n + 1, i, acc, r, w', h => by
    simp only [loadCellsFrom, Sem.run_bind] at h
    cases hl : (load (a.add i)).run P w with
    | halt e w2 => rw [hl] at h; cases h
    | ok v w2 =>
      rw [hl] at h
      have hw2 : w2 = w := by
        rw [run_load] at hl
        split at hl
        · cases hl; rfl
        · split at hl
          · cases hl; rfl
          · cases hl
      subst hw2
      simp only [Result.andThen_ok] at h
      obtain ⟨ys, h1, h2, h3⟩ := of_loadCellsFrom a n (i + 1) (acc.push v) r w' h
      refine ⟨v :: ys, ?_, by simp [h2], ?_⟩
      · rw [h1]; apply Array.ext'; simp
      · intro j u hu
        cases j with
        | zero => simp at hu; subst hu; exact hl
        | succ j => simp at hu; have := h3 j u hu; rwa [show i + 1 + j = i + (j + 1) by omega] at this
theorem of_firstCells {w : World} {size n : Nat} {b o : Nat} {len cap : Nat} {ys : List Value} {c : Array Value} {e : Nat} {fz : Nat × Nat} (hb : w.heap[b]? = some (.cells c e fz)) (hin : o + n * size ≤ c.size)
    (h : (Builtin.firstCells size n (.slice (some ⟨b, o, none⟩) len cap)).run P w = .ok ys.toArray w) : (c.toList.drop o).take (n * size) = ys := by
  simp only [Builtin.firstCells, loadCells] at h
  obtain ⟨zs, h1, h2, h3⟩ := of_loadCellsFrom (P := P) ⟨b, o, none⟩ (n * size) 0 #[] _ _ h
  have e1 : ys = zs := by simpa using congrArg Array.toList h1
  subst e1
  apply List.ext_getElem?
  intro j
  by_cases hj : j < n * size
  · have hjl : j < ys.length := by omega
    have := h3 j ys[j] (List.getElem?_eq_getElem hjl)
    rw [run_load, Nat.zero_add, add_none, cell_of hb] at this
    have hc : o + j < c.size := by omega
    rw [Array.getElem?_eq_getElem hc] at this
    simp only [Result.ok.injEq, and_true] at this
    rw [List.getElem?_take, if_pos hj, List.getElem?_drop, Array.getElem?_toList, Array.getElem?_eq_getElem hc, List.getElem?_eq_getElem hjl, this]
  · rw [List.getElem?_eq_none (by simp; omega), List.getElem?_eq_none (by omega)]
end

section
variable {C : Ctx} {P : Program} {ρ : Env} (hC : CtxOK C P ρ) {φ : Pl} {F : Facts} (hF : F.ok ρ) {h : Heap} {w : World} (hw : WR ρ φ h w)

theorem byteVals_app (a b : List UInt8) : byteVals (a ++ b) = byteVals a ++ byteVals b := by simp [byteVals]
include hF hw in
theorem freshRow_ok {e size : Nat} {u8 : Bool} {old new : Src} {need : SI} {v : AV} {h' : Heap} {l m rest : List Value} {N c : Nat}
    (ho : SrcC ρ φ old l) (hn : SrcC ρ φ new m) (hneed : need.den ρ = N) (hc : N ≤ c) (hlen : (l ++ m ++ rest).length = c * size) (hz : size ≠ 0)
    (hv : freshRow F h e size u8 old new need = .ok (v, h')) :
    ∃ φ', Evo ρ φ h w φ' h' (w.alloc (.cells (l ++ m ++ rest).toArray e)) ∧ VR ρ φ' v (.slice (some ⟨w.heap.size, 0, none⟩) N c) := by
  have hcap : (c * size - 0) / size = c := by rw [Nat.sub_zero, Nat.mul_div_cancel _ (Nat.pos_of_ne_zero hz)]
  have hval : ∀ (φ' : Pl), φ' h.next = some ⟨w.heap.size, 0, c * size⟩ → VR ρ φ' (.slice h.next 0 need (.rest size)) (.slice (some ⟨w.heap.size, 0, none⟩) N c) := by
    intro φ' hφ
    simp only [VR]
    refine ⟨_, hφ, by omega, ?_, ?_⟩
    · simp only [Cap.val, hcap, hneed]; omega
    · simp only [Cap.val, hcap, hneed]; simp
  cases u8
  · simp only [freshRow, cond_false] at hv
    split at hv
    · rename_i p cs happ
      cases hv
      obtain ⟨xs, h1, h2, h3⟩ := srcApp_ok ho hn happ
      refine ⟨_, evo_new hw _ _ (c * size) ?_, hval _ (Pl.with_same _ _ _)⟩
      refine ⟨_, _, 0, 0, xs, rest, rfl, .inr ⟨rfl, rfl⟩, by simpa using hlen, ?_, VRs.mono (Pl.le_with _ (hw.fresh _ (Nat.le_refl _))) _ _ h2, h3⟩
      simp only [List.drop_zero]
      rw [h1]
    · cases hv
  · simp only [freshRow, _root_.cond_true] at hv
    split at hv
    · rename_i a b ha hb
      cases hv
      have h1 := toSS_ok hF ho ha
      have h2 := toSS_ok hF hn hb
      refine ⟨_, evo_new hw _ _ (c * size) ?_, hval _ (Pl.with_same _ _ _)⟩
      refine ⟨_, 0, 0, rest, rfl, by simpa using hlen, ?_, .inl rfl⟩
      simp only [List.drop_zero]
      rw [h1, h2, SS.app_den, byteVals_app]
    · cases hv
theorem byteVals_one (bs : List UInt8) : ∀ v ∈ byteVals bs, v.oneCell' = true := by
  intro v hv
  simp only [byteVals, List.mem_map] at hv
  obtain ⟨b, _, rfl⟩ := hv; rfl
theorem plainSrc_one {s : Src} {m : List Value} (hp : plainSrc s = true) (hm : SrcC ρ φ s m) : ∀ v ∈ m, v.oneCell' = true := by
  unfold plainSrc at hp
  split at hp
  · rename_i p cs
    obtain ⟨xs, rfl, hv, hpre⟩ := hm
    intro v hv'
    rcases List.mem_append.1 hv' with h1 | h1
    · cases p with
      | none => cases h1
      | some q => exact RX.flat_one q.1 hpre v h1
    · exact plains_one hp hv v h1
  · cases hp
theorem list_lay {α : Type} (cl l m : List α) (B : Nat) (hB : B ≤ cl.length) (hl : (cl.drop B).take l.length = l) (_hfit : B + l.length + m.length ≤ cl.length) :
    (cl.take (B + l.length) ++ m ++ cl.drop (B + l.length + m.length)).drop B = l ++ m ++ cl.drop (B + l.length + m.length) := by
  have h1 : (cl.take (B + l.length) ++ m ++ cl.drop (B + l.length + m.length)).drop B = (cl.take (B + l.length)).drop B ++ (m ++ cl.drop (B + l.length + m.length)) := by
    rw [List.append_assoc, List.drop_append_of_le_length (by simp; omega)]
  rw [h1, List.append_assoc]
  congr 1
  rw [List.drop_take, show B + l.length - B = l.length by omega, hl]

include hF hw in
/-- in the block's own room -/
theorem movedRow_in {e size id off : Nat} {u8 atEnd : Bool} {cap : Cap} {old new : Src} {len need : SI} {v : AV} {h' : Heap} {l m : List Value} {N n k : Nat} {L : Loc}
    (ho : SrcC ρ φ old l) (hn : SrcC ρ φ new m) (hL : φ id = some L) (hlen : len.den ρ = n) (hll : l.length = n * size) (hml : m.length = k * size) (hneed : need.den ρ = N) (hN : N = n + k) (hz : size ≠ 0)
    (hold : sliceRow h size (.slice id off len cap) = .ok old)
    (hend : atEnd = true → isEnd h id off len = true) (hsz1 : u8 = true → size = 1) (hfit : N ≤ (L.n - off) / size)
    (hcells : (Builtin.firstCells size n (.slice (some ⟨L.blk, L.base + off, none⟩) n ((L.n - off) / size))).run P w = .ok l.toArray w)
    (hv : movedRow F h e size id off u8 cap old new need atEnd = .ok (v, h')) :
    ∃ φ' w', (storeCells ⟨L.blk, L.base + off + n * size, none⟩ m).run P w = .ok () w' ∧ Evo ρ φ h w φ' h' w' ∧ VR ρ φ' v (.slice (some ⟨L.blk, L.base + off, none⟩) N ((L.n - off) / size)) := by
  have hNs : N * size ≤ L.n - off := Nat.le_trans (Nat.mul_le_mul_right _ hfit) (Nat.div_mul_le_self _ _)
  have hNs' : n * size + k * size = N * size := by rw [hN, Nat.add_mul]
  have hval : ∀ (φ' : Pl), φ' h.next = some ⟨L.blk, L.base + off, L.n - off⟩ → VR ρ φ' (.slice h.next 0 need (.rest size)) (.slice (some ⟨L.blk, L.base + off, none⟩) N ((L.n - off) / size)) := by
    intro φ' hφ
    simp only [VR]
    refine ⟨_, hφ, by omega, ?_, ?_⟩
    · simp only [Cap.val, hneed, Nat.sub_zero]; simpa using hfit
    · simp only [Cap.val, hneed, Nat.sub_zero, Nat.add_zero]; simp
  unfold movedRow at hv
  cases hcb : (!(Cap.beq cap (.rest size)) || !off.beq 0)
  rotate_left
  · rw [hcb] at hv; cases hv
  rw [hcb] at hv
  simp only [cond_false] at hv
  simp only [Bool.or_eq_false_iff, Bool.not_eq_false'] at hcb
  have hoff0 := beq_nat hcb.2
  split at hv
  · rename_i s e' fz hb
    replace hv := bif_ok hv; obtain ⟨hok, hv⟩ := hv
    simp only [Bool.and_eq_true, Bool.or_eq_true, Bool.not_eq_true'] at hok
    obtain ⟨⟨he, hu8⟩, hfz⟩ := hok
    have he := beq_nat he; subst he
    have hs1 := hsz1 hu8; subst hs1
    split at hv
    · rename_i a b ha hbb
      cases hv
      obtain ⟨M, o, hM, hoo, hbr⟩ := hw.blk id _ hb
      rw [hL] at hM; cases hM
      obtain ⟨c, lo, hi, rest, rfl, hsz, hdrop, hhi⟩ := hbr
      have h1 := toSS_ok hF ho ha
      have h2 := toSS_ok hF hn hbb
      have hrl : (SS.den ρ s).length + rest.length = L.n := by
        have := congrArg List.length hdrop
        simp [byteVals] at this; omega
      have hoff : off ≤ L.n := by
        unfold sliceRow at hold
        simp only [hb] at hold
        replace hold := bif_ok hold; obtain ⟨_, hold⟩ := hold
        split at hold
        · replace hold := Ev.bind_ok hold; obtain ⟨s1, hs1, hold⟩ := hold
          have := (SS.drop_den ρ _ _ _ (Ev.ofOpt_ok hs1)).2
          omega
        · replace hold := bif_ok hold; obtain ⟨h0, _⟩ := hold
          simp only [Bool.and_eq_true] at h0
          have := beq_nat h0.1; omega
      have hhi2 : hi ≤ L.base + off + n := by
        rcases hhi with h0 | ⟨hf, hle⟩
        · omega
        · rcases hfz with hfz | hfz
          · rw [hf] at hfz; cases hfz
          · have hE := hend hfz
            unfold isEnd at hE
            rw [hb] at hE
            have := congrArg (SI.den ρ) (SI.beq_eq hE)
            rw [SI.addS_den, SS.len_den, hlen] at this
            simp only [SI.den, Int.ofNat_eq_natCast] at this
            omega
      have hin : L.base + off + n * 1 + m.length ≤ c.size := by omega
      have hst := run_storeCells_atF P L.blk (L.base + off + n * 1) e' (lo, hi) m 0 c w hoo (by simpa using hhi2) (by simpa using hin) (by rw [h2]; exact byteVals_one _)
      simp only [Nat.add_zero] at hst
      have hlist := of_firstCells hoo (by omega) hcells
      rw [← hll] at hlist
      have hlay := list_lay c.toList l m (L.base + off) (by simp; omega) hlist (by simp; omega)
      refine ⟨φ.with h.next ⟨L.blk, L.base + off, L.n - off⟩, _, hst, ?_, hval _ (Pl.with_same _ _ _)⟩
      refine evo_moved hw hb rfl hL (by rw [hoff0, hw.base _ _ _ hb rfl hL]) rfl ⟨rfl, rfl⟩ (setRow_size w _ _) (setRow_heap w _ _ _ _ _ hoo) (fun k hk => setRow_other w _ _ _ hk) ?_
      rw [hll] at hlay
      refine ⟨_, lo, hi, c.toList.drop (L.base + off + n * 1 + m.length), rfl, ?_, ?_, ?_⟩
      · simp; omega
      · refine Eq.trans hlay ?_
        rw [h1, h2, SS.app_den, byteVals_app]
      · rcases hhi with h0 | ⟨hf, hle⟩
        · exact .inl h0
        · refine .inr ⟨hf, ?_⟩
          have : l.length = (SS.den ρ a).length := by rw [h1]; simp [byteVals]
          simp only [SS.app_den, List.length_append]; omega
    · cases hv
  · rename_i q bs e' hb
    cases hok : (u8 || !e'.beq e || !Nat.ble off bs.length || !plainSrc new)
    · rw [hok] at hv
      simp only [cond_false] at hv
      simp only [Bool.or_eq_false_iff, Bool.not_eq_false'] at hok
      obtain ⟨⟨⟨_, he⟩, hoff⟩, hpl⟩ := hok
      have he := beq_nat he; subst he
      rw [Nat.ble_eq] at hoff
      split at hv
      · rename_i p cs happ
        cases hv
        obtain ⟨M, o, hM, hoo, hbr⟩ := hw.blk id _ hb
        rw [hL] at hM; cases hM
        obtain ⟨ek, c, lo, hi, xs, rest, rfl, hhi, hsz, hdrop, hvs, hpre⟩ := hbr
        have hsz : c.size = L.base + L.n := by rcases hsz with h | ⟨h, _⟩; · exact h
                                               · cases h
        obtain ⟨hhi0, hek⟩ : hi = 0 ∧ ek = e' := hhi.resolve_left (fun h => by cases h)
        have hek := hek.symm
        subst hhi0 hek
        obtain ⟨ys, h1, h2, h3⟩ := srcApp_ok ho hn happ
        have l1 := VRs.length hvs
        have hrl : (preCells ρ q).length + xs.length + rest.length = L.n := by
          have := congrArg List.length hdrop
          simp at this; omega
        have hin : L.base + off + n * size + m.length ≤ c.size := by omega
        have hst := run_storeCells_atF P L.blk (L.base + off + n * size) e' (lo, 0) m 0 c w hoo (Nat.zero_le _) (by simpa using hin) (plainSrc_one hpl hn)
        simp only [Nat.add_zero] at hst
        have hlist := of_firstCells hoo (by omega) hcells
        rw [← hll] at hlist
        have hlay := list_lay c.toList l m (L.base + off) (by simp; omega) hlist (by simp; omega)
        refine ⟨φ.with h.next ⟨L.blk, L.base + off, L.n - off⟩, _, hst, ?_, hval _ (Pl.with_same _ _ _)⟩
        refine evo_moved hw hb rfl hL (by rw [hoff0, hw.base _ _ _ hb rfl hL]) rfl ⟨rfl, rfl⟩ (setRow_size w _ _) (setRow_heap w _ _ _ _ _ hoo) (fun k hk => setRow_other w _ _ _ hk) ?_
        rw [hll] at hlay
        refine ⟨_, _, lo, 0, ys, c.toList.drop (L.base + off + n * size + m.length), rfl, .inr ⟨rfl, rfl⟩, .inl ?_, ?_, VRs.mono (Pl.le_with _ (hw.fresh _ (Nat.le_refl _))) _ _ h2, h3⟩
        · simp; omega
        · refine Eq.trans hlay ?_
          rw [h1]
      · cases hv
    · rw [hok] at hv; cases hv
  · cases hv
include hF hw in
/-- in a new block -/
theorem movedRow_new {e size id off : Nat} {u8 atEnd : Bool} {cap : Cap} {old new : Src} {need : SI} {v : AV} {h' : Heap} {l m rest : List Value} {N c : Nat}
    (ho : SrcC ρ φ old l) (hn : SrcC ρ φ new m) (hneed : need.den ρ = N) (hc : N ≤ c) (hlen : (l ++ m ++ rest).length = c * size) (hz : size ≠ 0)
    (hv : movedRow F h e size id off u8 cap old new need atEnd = .ok (v, h')) :
    ∃ φ', Evo ρ φ h w φ' h' (w.alloc (.cells (l ++ m ++ rest).toArray e)) ∧ VR ρ φ' v (.slice (some ⟨w.heap.size, 0, none⟩) N c) := by
  have hcap : (c * size - 0) / size = c := by rw [Nat.sub_zero, Nat.mul_div_cancel _ (Nat.pos_of_ne_zero hz)]
  have hval : ∀ (φ' : Pl), φ' h.next = some ⟨w.heap.size, 0, c * size⟩ → VR ρ φ' (.slice h.next 0 need (.rest size)) (.slice (some ⟨w.heap.size, 0, none⟩) N c) := by
    intro φ' hφ
    simp only [VR]
    refine ⟨_, hφ, by omega, ?_, ?_⟩
    · simp only [Cap.val, hcap, hneed]; omega
    · simp only [Cap.val, hcap, hneed]; simp
  have hd := evo_drop hw id
  have hnext : (h.drop id).next = h.next := by cases h; rfl
  have hle : φ.le (φ.with h.next ⟨w.heap.size, 0, c * size⟩) := Pl.le_with _ (hw.fresh _ (Nat.le_refl _))
  unfold movedRow at hv
  cases hcb : (!(Cap.beq cap (.rest size)) || !off.beq 0)
  rotate_left
  · rw [hcb] at hv; cases hv
  rw [hcb] at hv
  simp only [cond_false] at hv
  simp only [Bool.or_eq_false_iff, Bool.not_eq_false'] at hcb
  have hoff0 := beq_nat hcb.2
  split at hv
  · rename_i s e' fz hb
    replace hv := bif_ok hv; obtain ⟨_, hv⟩ := hv
    split at hv
    · rename_i a b ha hbb
      cases hv
      have h1 := toSS_ok hF ho ha
      have h2 := toSS_ok hF hn hbb
      have hev := evo_new hd.wr (.bytes (SS.app a b) e fz) (.cells (l ++ m ++ rest).toArray e) (c * size) (by
        refine ⟨_, 0, 0, rest, rfl, by simpa using hlen, ?_, .inl rfl⟩
        simp only [List.drop_zero]
        rw [h1, h2, SS.app_den, byteVals_app])
      rw [hnext] at hev
      exact ⟨_, hd.trans hev, hval _ (Pl.with_same _ _ _)⟩
    · cases hv
  · rename_i q bs e' hb
    cases hok : (u8 || !e'.beq e || !Nat.ble off bs.length || !plainSrc new)
    · rw [hok] at hv
      simp only [cond_false] at hv
      split at hv
      · rename_i p cs happ
        cases hv
        obtain ⟨xs, h1, h2, h3⟩ := srcApp_ok ho hn happ
        have hev := evo_new hd.wr (.cells false p cs e) (.cells (l ++ m ++ rest).toArray e) (c * size) (by
          rw [hnext]
          refine ⟨_, _, 0, 0, xs, rest, rfl, .inr ⟨rfl, rfl⟩, by simpa using hlen, ?_, VRs.mono hle _ _ h2, h3⟩
          simp only [List.drop_zero]
          rw [h1])
        rw [hnext] at hev
        exact ⟨_, hd.trans hev, hval _ (Pl.with_same _ _ _)⟩
      · cases hv
    · rw [hok] at hv; cases hv
  · cases hv

include hC in
theorem notMake_ok {ts : List Nat} (hn : notMake C ts = true) : ∃ t t2 u, ts = [t, t2] ∧ P.underlying t2 = some u ∧ ∀ k, u ≠ .int k := by
  unfold notMake at hn
  split at hn
  · rename_i t t2
    split at hn
    · rename_i r hr
      obtain ⟨i, _, h2, _⟩ := hC.ty _ _ hr
      refine ⟨t, t2, r.u, rfl, h2, fun k hk => ?_⟩
      rw [hk] at hn; cases hn
    · cases hn
  · cases hn
omit hC in
theorem isU8_size {e : Nat} {re : TyRow} (hre : C.ty.get e = some re) (h : isU8 C e = true) : re.size = 1 := by
  unfold isU8 at h
  rw [hre] at h
  dsimp only at h
  split at h
  · exact beq_nat h
  · cases h

include hC hF hw in
theorem appendGo_ok {t t2 ty e : TypeId} {re : TyRow} {u : TypeDesc} (ht : P.underlying t = some (.slice e)) (hre : C.ty.get e = some re) (hu : P.underlying t2 = some u) (hnk : ∀ k, u ≠ .int k)
    {s v : AV} {a y : Value} {old new : Src} {h' : Heap} (hs : VR ρ φ s a) (hold : sliceRow h re.size s = .ok old) (hn : SrcR P ρ φ w re.size new y) (hv : appendGo C F h e re s old new = .ok (v, h')) :
    ∃ φ' w' z, (Builtin.append_ #[t, t2] ty #[a, y]).run P w = .ok z w' ∧ Evo ρ φ h w φ' h' w' ∧ VR ρ φ' v z := by
  obtain ⟨i, hi, _, hisz, hiby, hizero⟩ := hC.ty e re hre
  obtain ⟨N0, l, hlen0, hf0, hll, hSl, hd0⟩ := sliceRow_ok (P := P) hw hs hold
  obtain ⟨k, m, hlen, hfm, hml, hSm, hdm⟩ := hn
  have hN0s : ∀ w2, (Builtin.lenOf a).run P w2 = .ok N0 w2 := hlen0
  unfold appendGo at hv
  dsimp only at hv
  have hok : (!sizeOk F (SI.addS (Src.len re.size old) (Src.len re.size new)) re.bytes || re.size.beq 0 || !zeroFits re) = false := by
    cases hok : (!sizeOk F (SI.addS (Src.len re.size old) (Src.len re.size new)) re.bytes || re.size.beq 0 || !zeroFits re)
    · rfl
    · rw [hok] at hv; cases hv
  rw [hok] at hv
  simp only [cond_false] at hv
  simp only [Bool.or_eq_false_iff, Bool.not_eq_false'] at hok
  obtain ⟨⟨hok, hz⟩, hzf⟩ := hok
  have hz : re.size ≠ 0 := fun e => by rw [nbeq_true e] at hz; cases hz
  have hneed : (SI.addS (Src.len re.size old) (Src.len re.size new)).den ρ = ((N0 + k : Nat) : Int) := by rw [SI.addS_den, hd0 hz, hdm hz]; simp
  unfold sizeOk at hok
  simp only [Bool.and_eq_true] at hok
  have hbig := leSI_ok hF hok.1
  have hbytes := hok.2
  rw [Nat.ble_eq] at hbytes
  rw [hneed] at hbig
  simp only [SI.den] at hbig
  have hN : N0 + k ≤ 1000000000 := by omega
  have hNb : (N0 + k) * i.bytes ≤ 140737488355328 := by
    rw [hiby]
    calc (N0 + k) * re.bytes ≤ 1000000000 * 10000 := Nat.mul_le_mul hN hbytes
      _ ≤ _ := by omega
  obtain ⟨zv, hzv, hzc⟩ : ∃ zv, i.zero = some zv ∧ zv.cells.size = re.size := by
    unfold zeroFits at hzf
    split at hzf
    · rename_i z hzz
      obtain ⟨zv, h1, h2⟩ := hizero z hzz
      refine ⟨zv, h1, ?_⟩
      have := VRs.length (AV.ofVal_ok ρ φ zv z h2).cells
      have h3 := beq_nat hzf
      simp at this; omega
    · cases hzf
  generalize hneedE : SI.addS (Src.len re.size old) (Src.len re.size new) = need at hv hneed
  -- growing
  have grow : ∀ (ad : Option Addr) (sCap : Nat), a = .slice ad N0 sCap → sCap < N0 + k → ∃ c rest, N0 + k ≤ c ∧ (l ++ m ++ rest).length = c * re.size ∧
      (Builtin.append_ #[t, t2] ty #[a, y]).run P w = .ok (.slice (some ⟨w.heap.size, 0, none⟩) (N0 + k) c) (w.drew.alloc (.cells (l ++ m ++ rest).toArray e)) := by
    intro ad sCap ha hg
    have hrun := run_app_grow (P := P) (w := w) (ty := ty) (olds := l) (news := m) ht hi hzv hu hnk hlen (by rw [hisz]; exact hfm _ rfl) (by rw [hisz, ← ha]; exact hf0 _ rfl) hg (by omega) (growslice_fits hg hNb)
    have hge := grownCap_ge w (N0 + k) sCap e
    refine ⟨grownCap w (N0 + k) sCap e, (Builtin.zeroCells zv.cells (grownCap w (N0 + k) sCap e - (N0 + k))).toList, hge, ?_, ?_⟩
    · have := size_zeroCells zv.cells (grownCap w (N0 + k) sCap e - (N0 + k))
      rw [hzc] at this
      simp only [List.length_append, hll, hml, Array.length_toList, this]
      rw [← Nat.add_mul, ← Nat.add_mul]
      congr 1; omega
    · rw [ha, hrun]
      congr 2
      congr 1
      apply Array.ext'; simp
  split at hv
  · -- nil, onto nil
    rename_i hfit
    simp only [VR] at hs; subst hs
    have hN0 : N0 = 0 := by
      have := hlen0 w
      simp [Builtin.lenOf] at this; omega
    subst hN0
    replace hv := Ev.bind_ok hv; obtain ⟨z0, hz0, hv⟩ := hv
    have htest := test_ok hF hz0
    simp only [SB.cmpS_den, hneed, SI.den] at htest
    cases z0
    · simp only [cond_false] at hv
      have hk : k ≠ 0 := fun e => by subst e; simp [intCmp, eqInt_iff] at htest
      obtain ⟨c, rest, hc, hcl, hrun⟩ := grow none 0 rfl (by omega)
      obtain ⟨φ', hev, hvr⟩ := freshRow_ok hF hw hSl hSm hneed hc hcl hz hv
      exact ⟨φ', _, _, hrun, hev.heap rfl rfl rfl, hvr⟩
    · simp only [_root_.cond_true] at hv
      cases hv
      have hk : k = 0 := by simp [intCmp, eqInt_iff] at htest; omega
      subst hk
      refine ⟨φ, w, _, run_app_nil0 ht hi hu hnk hlen (by rw [hisz]; exact hfm w rfl), Evo.refl hw, by simp only [VR]⟩
  · rename_i id off len cap hfit
    simp only [VR] at hs
    obtain ⟨L, hL, hl0, hlc, rfl⟩ := hs
    have hN0 : N0 = (len.den ρ).toNat := by
      have := hlen0 w
      simp [Builtin.lenOf] at this; omega
    have hlt : cap.val L off (len.den ρ).toNat < N0 + k := by
      unfold fitA at hfit
      dsimp only at hfit
      split at hfit
      · have := decCmp_ok hF hfit
        simp [intCmp, ltInt_iff, hneed, SI.den] at this
        simp only [Cap.val]; omega
      · have := decCmp_ok hF hfit
        simp [intCmp, ltInt_iff, hneed] at this
        simp only [Cap.val]; omega
      · split at hfit
        · rename_i c n _ _
          cases hb : Nat.ble n c <;> rw [hb] at hfit <;> cases hfit
        · cases hfit
    obtain ⟨c, rest, hc, hcl, hrun⟩ := grow _ _ (by rw [hN0]) hlt
    obtain ⟨φ', hev, hvr⟩ := freshRow_ok hF hw hSl hSm hneed hc hcl hz hv
    exact ⟨φ', _, _, hrun, hev.heap rfl rfl rfl, hvr⟩
  · rename_i id off len cap hfit
    simp only [VR] at hs
    obtain ⟨L, hL, hl0, hlc, rfl⟩ := hs
    have hN0 : N0 = (len.den ρ).toNat := by
      have := hlen0 w
      simp [Builtin.lenOf] at this; omega
    split at hv
    · rename_i n hn
      have hnd := nat?_den hn ρ
      have hnN : N0 = n := by omega
      subst hnN
      have hle : N0 + k ≤ cap.val L off (len.den ρ).toNat := by
        unfold fitA at hfit
        dsimp only at hfit
        split at hfit
        · have := decCmp_ok hF hfit
          simp [intCmp, ltInt_iff, hneed, SI.den] at this
          simp only [Cap.val]; omega
        · have := decCmp_ok hF hfit
          simp [intCmp, ltInt_iff, hneed] at this
          simp only [Cap.val]; omega
        · split at hfit
          · rename_i z c n' hc hn'
            have hsc := (sureCap_ok (ρ := ρ) hw hL hc).2.2.2
            have := nat?_den hn' ρ
            cases hb : Nat.ble n' c
            · rw [hb] at hfit; cases hfit
            · rw [Nat.ble_eq] at hb; omega
          · cases hfit
      have hcv : (capAfter cap len).val L off (N0 + k) = cap.val L off (len.den ρ).toNat := by
        unfold capAfter
        split
        · rw [hn]; simp [Cap.val]; omega
        · cases cap <;> first | rfl | (rename_i hnf; exact absurd rfl hnf)
      unfold inPlace at hv
      split at hv
      · rename_i cs
        replace hv := Ev.bind_ok hv; obtain ⟨h2, hh2, hv⟩ := hv
        cases hv
        have hSm' : VRs ρ φ cs m := by
          obtain ⟨xs, rfl, hxs, _⟩ := hSm
          simpa [preCells] using hxs
        obtain ⟨L2, w', hL2, hfit2, hst, hev⟩ := setN_ok (P := P) hw (Ev.ofOpt_ok hh2) hSm'
        rw [hL] at hL2; cases hL2
        refine ⟨φ, w', _, run_app_room (w := w) (w' := w') (i := i) (n := k) (news := m) ht hi hu hnk hlen (by rw [hisz]; exact hfm w rfl) (by omega) ?_, hev, ?_⟩
        · rw [add_none, hisz, ← hN0]
          rw [show L.base + off + N0 * re.size = L.base + (off + N0 * re.size) by omega]
          exact hst
        · simp only [VR]
          refine ⟨L, hL, by omega, ?_, ?_⟩
          · rw [hneed, Int.toNat_natCast, hcv]; exact hle
          · rw [hneed, Int.toNat_natCast, hcv, ← hN0]
      · cases hv
    · cases hv
  · rename_i id off len cap hfit
    simp only [VR] at hs
    obtain ⟨L, hL, hl0, hlc, rfl⟩ := hs
    have hN0 : N0 = (len.den ρ).toNat := by
      have := hlen0 w
      simp [Builtin.lenOf] at this; omega
    have hcap : cap = .rest re.size := by
      unfold movedRow at hv
      cases hcb : Cap.beq cap (.rest re.size)
      · rw [hcb] at hv; cases hv
      · exact Cap.beq_eq hcb
    by_cases hle : N0 + k ≤ cap.val L off (len.den ρ).toNat
    · subst hcap
      simp only [Cap.val] at hle ⊢
      have hlend : len.den ρ = (N0 : Int) := by omega
      obtain ⟨φ', w', hst, hev, hvr⟩ := movedRow_in (P := P) hF hw hSl hSm hL hlend hll hml hneed rfl hz hold (fun h => h) (fun hu8 => isU8_size hre hu8) hle (by rw [← hN0] at hf0; simpa [Cap.val] using hf0 w rfl) hv
      refine ⟨φ', w', _, run_app_room (w := w) (w' := w') (i := i) (n := k) (news := m) ht hi hu hnk hlen (by rw [hisz]; exact hfm w rfl) (by rw [← hN0]; exact hle) ?_, hev, ?_⟩
      · rw [add_none, hisz, ← hN0]; exact hst
      · rw [← hN0]; exact hvr
    · obtain ⟨c, rest, hc, hcl, hrun⟩ := grow _ _ (by rw [hN0]) (Nat.lt_of_not_le hle)
      obtain ⟨φ', hev, hvr⟩ := movedRow_new hF hw hSl hSm hneed hc hcl hz hv
      exact ⟨φ', _, _, hrun, hev.heap rfl rfl rfl, hvr⟩
  · cases hv

include hC hF hw in
theorem appendA_ok {ts : List Nat} {ty : TypeId} {s x v : AV} {a y : Value} {h' : Heap} (hs : VR ρ φ s a) (hx : VR ρ φ x y) (hv : appendA C F h ts s x = .ok (v, h')) :
    ∃ φ' w' z, (Builtin.append_ ts.toArray ty #[a, y]).run P w = .ok z w' ∧ Evo ρ φ h w φ' h' w' ∧ VR ρ φ' v z := by
  unfold appendA at hv
  cases hnm : notMake C ts
  · rw [hnm] at hv; cases hv
  rw [hnm] at hv
  simp only [Bool.not_true, cond_false] at hv
  obtain ⟨t, t2, u, rfl, hu, hnk⟩ := notMake_ok hC hnm
  dsimp only at hv
  replace hv := Ev.bind_ok hv; obtain ⟨r, hr, hv⟩ := hv
  have hr := row_ok hr
  split at hv
  · rename_i e hue
    obtain ⟨i, _, ht, _⟩ := hC.ty t r hr
    rw [hue] at ht
    replace hv := Ev.bind_ok hv; obtain ⟨re, hre, hv⟩ := hv
    have hre := row_ok hre
    replace hv := Ev.bind_ok hv; obtain ⟨old, hold, hv⟩ := hv
    replace hv := Ev.bind_ok hv; obtain ⟨new, hnew, hv⟩ := hv
    have hn := sliceRow_ok (P := P) hw hx hnew
    cases hem : (srcEmpty new && isSl s && !re.size.beq 0)
    · rw [hem] at hv
      exact appendGo_ok hC hF hw ht hre hu hnk hs hold hn hv
    · rw [hem] at hv
      simp only [_root_.cond_true] at hv
      cases hv
      simp only [Bool.and_eq_true, Bool.not_eq_true'] at hem
      obtain ⟨⟨h1, h2⟩, h3⟩ := hem
      have hz : re.size ≠ 0 := fun e => by rw [nbeq_true e] at h3; cases h3
      obtain ⟨i, hi, _, hisz, _⟩ := hC.ty e re hre
      obtain ⟨k, m, hlen, hfm, hml, hSm, hdm⟩ := hn
      have hk : k = 0 := by
        have := hdm hz
        unfold srcEmpty at h1
        split at h1
        · simp [Src.len, SI.den] at this; omega
        · simp [Src.len, SS.len, SI.den] at this; omega
        · cases h1
      subst hk
      have hm : m = [] := by simpa using hml
      subst hm
      have hst : ∀ ad, (storeCells ad []).run P w = .ok () w := fun _ => rfl
      unfold isSl at h2
      split at h2
      · simp only [VR] at hs; subst hs
        exact ⟨φ, w, _, run_app_nil0 ht hi hu hnk hlen (by rw [hisz]; exact hfm w rfl), Evo.refl hw, by simp only [VR]⟩
      · have hs' := hs
        simp only [VR] at hs
        obtain ⟨L, hL, hl0, hlc, rfl⟩ := hs
        exact ⟨φ, w, _, run_app_room (n := 0) (news := []) ht hi hu hnk hlen (by rw [hisz]; exact hfm w rfl) (by omega) (hst _), Evo.refl hw, hs'⟩
      · have hs' := hs
        simp only [VR] at hs
        obtain ⟨L, o, c, hL, hl0, hlc, rfl⟩ := hs
        exact ⟨φ, w, _, run_app_room (n := 0) (news := []) ht hi hu hnk hlen (by rw [hisz]; exact hfm w rfl) (by omega) (hst _), Evo.refl hw, hs'⟩
      · cases h2
  · cases hv
end
end Go.Sx
namespace Go.Sx
section
variable {C : Ctx} {P : Program} {ρ : Env} (hC : CtxOK C P ρ) {φ : Pl} {F : Facts} (hF : F.ok ρ) {h : Heap} {w : World} (hw : WR ρ φ h w)

include hC hw in
theorem makeSliceA_ok {t : Nat} {len cap v : AV} {x y : Value} {h' : Heap} (hl : VR ρ φ len x) (hc : VR ρ φ cap y) (hv : makeSliceA C h t len cap = .ok (v, h')) :
    ∃ φ' w' z, (Instr.makeSlice t x y).run P w = .ok z w' ∧ Evo ρ φ h w φ' h' w' ∧ VR ρ φ' v z := by
  unfold makeSliceA at hv
  replace hv := Ev.bind_ok hv; obtain ⟨r, hr, hv⟩ := hv
  have hr := row_ok hr
  split at hv
  · rename_i e k1 l k2 c hu
    replace hv := Ev.bind_ok hv; obtain ⟨re, hre, hv⟩ := hv
    have hre := row_ok hre
    replace hv := Ev.bind_ok hv; obtain ⟨z, hz, hv⟩ := hv
    have hz := Ev.ofOpt_ok hz
    replace hv := bif_ok hv; obtain ⟨hok, hv⟩ := hv
    simp only [Bool.and_eq_true] at hok
    obtain ⟨⟨⟨h1, h2⟩, h3⟩, h4⟩ := hok
    rw [Nat.ble_eq] at h1 h2 h3
    have hzl := beq_nat h4
    obtain ⟨zv, hzrun, hzv⟩ := run_zero hC hre hz ρ φ
    have hzc := hzv.cells
    have hl' := VRs.length hzc
    have hrep := repCells_VR hzc c
    obtain ⟨φ', hev, hvr⟩ := newSlice_ok hw hrep e l c h1
    have hfst : v = (newSlice h (repCells z.cells c) e l c).1 := by cases hv; rfl
    have hsnd : h' = (newSlice h (repCells z.cells c) e l c).2 := by cases hv; rfl
    simp only [VR, SI.den, Int.ofNat_eq_natCast] at hl hc
    subst hl hc
    refine ⟨φ', _, .slice (some ⟨w.heap.size, 0, none⟩) l c, ?_, by rw [hsnd]; exact hev, by rw [hfst]; exact hvr⟩
    have wl : IntKind.i64.wrap (l : Int) = l := IntKind.wrap_of _ _ (by simp [IntKind.min, IntKind.signed, IntKind.bits] <;> omega) (by simp [IntKind.max, IntKind.signed, IntKind.bits] <;> omega)
    have wc : IntKind.i64.wrap (c : Int) = c := IntKind.wrap_of _ _ (by simp [IntKind.min, IntKind.signed, IntKind.bits] <;> omega) (by simp [IntKind.max, IntKind.signed, IntKind.bits] <;> omega)
    obtain ⟨i, hi, _, hisz, hiby, _⟩ := run_info hC hre w
    have n1 : ¬ ((c : Int) < 0) := by omega
    have n2 : ¬ ((l : Int) < 0) := by omega
    have n3 : ¬ ((l : Int) > c) := by omega
    have hb := h2
    have n4 : ¬ (281474976710656 < (re.bytes : Int) * (c : Int)) := by
      have h5 := Int.ofNat_le.2 hb
      rw [Int.natCast_mul] at h5; omega
    have hsz : zv.cells.toList.length = re.size := by omega
    simp only [Instr.makeSlice, asInt, asIntOf, Sem.run_bind, run_under hC hr, hu, Result.andThen_ok, hi, hiby, wl, wc, Sem.run_pure]
    by_cases h0 : c * re.size = 0
    · have hz0 : (List.range (c * zv.cells.toList.length)).map (fun i => zv.cells.toList[i % zv.cells.toList.length]!) = [] := by rw [hsz, h0]; rfl
      rw [hz0]
      simp [n1, n2, n3, n4]
      simp only [run_size hC hre, Result.andThen_ok, h0, if_true, show Array.range 0 = #[] from rfl, List.map_toArray, List.map_nil]
      rfl
    · have hrr := range_zero zv.cells (c * re.size)
      rw [← hsz] at hrr
      rw [hsz] at hrr ⊢
      have hrr2 := hrr.symm
      change List.toArray _ = _ at hrr2
      rw [hrr2]
      simp [n1, n2, n3, n4]
      simp only [run_size hC hre, Result.andThen_ok, h0, if_false, hzrun]
      rfl
  · cases hv
include hC in
theorem lenA_ok {t : Nat} {r : TyRow} (hr : C.ty.get t = some r) {ts : List Nat} {ty : Nat} {a v : AV} {x : Value} (ha : VR ρ φ a x) (hv : lenA r.u a = .ok v) :
    ∃ z, (Builtin.len_ (t :: ts).toArray ty #[x]).run P w = .ok z w ∧ VR ρ φ v z := by
  have hund := run_under hC hr w
  unfold lenA at hv
  split at hv
  · rename_i s hu
    cases hv
    simp only [VR] at ha; subst ha
    refine ⟨goInt (ByteArray.mk ⟨SS.den ρ s⟩).size, by simp [Builtin.len_, hund, hu], ?_⟩
    simp only [VR, goInt, SS.len_den]; rfl
  · rename_i n e hu
    cases hv
    refine ⟨goInt n, by simp [Builtin.len_, hund, hu], ?_⟩
    simp only [VR, goInt, SI.den] <;> rfl
  · rename_i e id off n c hu
    cases hv
    simp only [VR] at ha; obtain ⟨L, hL, h0, hc, rfl⟩ := ha
    refine ⟨goInt (n.den ρ).toNat, by simp [Builtin.len_, hund, hu], ?_⟩
    simp only [VR, goInt]; rw [Int.toNat_of_nonneg h0]
  · rename_i e id z hu
    cases hv
    simp only [VR] at ha; obtain ⟨L, o, c, hL, h0, hc, rfl⟩ := ha
    refine ⟨goInt 0, by simp [Builtin.len_, hund, hu], ?_⟩
    simp only [VR, goInt, SI.den] <;> rfl
  · rename_i e hu
    cases hv
    simp only [VR] at ha; subst ha
    refine ⟨goInt 0, by simp [Builtin.len_, hund, hu], ?_⟩
    simp only [VR, goInt, SI.den] <;> rfl
  · rename_i k e hu
    cases hv
    simp only [VR] at ha; subst ha
    refine ⟨goInt 0, by simp [Builtin.len_, hund, hu], ?_⟩
    simp only [VR, goInt, SI.den]
  · cases hv
include hC in
theorem capA_ok {t : Nat} {r : TyRow} (hr : C.ty.get t = some r) {ts : List Nat} {ty : Nat} {a v : AV} {x : Value} (ha : VR ρ φ a x) (hv : capA r.u a = .ok v) :
    ∃ z, (Builtin.cap_ (t :: ts).toArray ty #[x]).run P w = .ok z w ∧ VR ρ φ v z := by
  have hund := run_under hC hr w
  unfold capA at hv
  split at hv
  · rename_i e id off n c hu
    simp only [VR] at ha; obtain ⟨L, hL, h0, hc, rfl⟩ := ha
    split at hv
    · rename_i c
      cases hv
      refine ⟨goInt c, by simp [Builtin.cap_, hund, hu, Cap.val], ?_⟩
      simp only [VR, goInt, SI.den] <;> rfl
    · cases hv
      refine ⟨goInt (n.den ρ).toNat, by simp [Builtin.cap_, hund, hu, Cap.val], ?_⟩
      simp only [VR, goInt]; rw [Int.toNat_of_nonneg h0]
    · cases hv
  · rename_i e hu
    cases hv
    simp only [VR] at ha; subst ha
    refine ⟨goInt 0, by simp [Builtin.cap_, hund, hu], ?_⟩
    simp only [VR, goInt, SI.den] <;> rfl
  · cases hv
theorem run_loadCellsFrom_loads {w : World} (a : Addr) : ∀ (n i : Nat) (acc : Array Value) (ys : List Value), n ≤ ys.length → (∀ j v, ys[j]? = some v → (load (a.add (i + j))).run P w = .ok v w) →
    (loadCellsFrom a i n acc).run P w = .ok (acc ++ (ys.take n).toArray) w
  | 0, i, acc, ys, _, _ => by simp [loadCellsFrom]
  | n + 1, i, acc, ys, hn, h => by
    cases ys with
    | nil => simp at hn
    | cons y ys =>
      have h0 := h 0 y rfl
      simp only [Nat.add_zero] at h0
      have ih := run_loadCellsFrom_loads a n (i + 1) (acc.push y) ys (by simp at hn; omega) (fun j v hv => by
        have := h (j + 1) v (by simpa using hv)
        rwa [show i + (j + 1) = i + 1 + j by omega] at this)
      simp only [loadCellsFrom, Sem.run_bind, h0, Result.andThen_ok, ih]
      congr 1
      apply Array.ext'; simp
theorem firstCells_prefix {w : World} {size n k : Nat} {a : Option Addr} {len cap : Nat} {ys : List Value} (hk : k ≤ n) (hl : ys.length = n * size) (h : (Builtin.firstCells size n (.slice a len cap)).run P w = .ok ys.toArray w) :
    (Builtin.firstCells size k (.slice a len cap)).run P w = .ok (ys.take (k * size)).toArray w := by
  cases a with
  | none =>
    simp [Builtin.firstCells] at h
    subst h
    simp [Builtin.firstCells]
  | some a =>
    simp only [Builtin.firstCells, loadCells] at h ⊢
    obtain ⟨zs, h1, h2, h3⟩ := of_loadCellsFrom (P := P) a (n * size) 0 #[] _ _ h
    have e1 : ys = zs := by simpa using congrArg Array.toList h1
    subst e1
    have := run_loadCellsFrom_loads (P := P) a (k * size) 0 #[] ys (by rw [hl]; exact Nat.mul_le_mul_right _ hk) h3
    simpa using this
include hC hw in
theorem copyA_ok {ts : List Nat} {ty : Nat} {d s v : AV} {x y : Value} {h' : Heap} (hd : VR ρ φ d x) (hs : VR ρ φ s y) (hv : copyA C h ts d s = .ok (v, h')) :
    ∃ w' z, (Builtin.copy_ ts.toArray ty #[x, y]).run P w = .ok z w' ∧ Evo ρ φ h w φ h' w' ∧ VR ρ φ v z := by
  unfold copyA at hv
  split at hv
  · rename_i t ts
    replace hv := Ev.bind_ok hv; obtain ⟨r, hr, hv⟩ := hv
    have hr := row_ok hr
    have hund := run_under hC hr w
    split at hv
    · rename_i e id off len c hu
      replace hv := Ev.bind_ok hv; obtain ⟨re, hre, hv⟩ := hv
      have hre := row_ok hre
      replace hv := Ev.bind_ok hv; obtain ⟨src, hsrc, hv⟩ := hv
      have hsR := sliceRow_ok (P := P) hw hs hsrc
      split at hv
      · rename_i cs dl hdl
        have hdd := nat?_den hdl ρ
        cases hz : re.size.beq 0
        rotate_left
        · rw [hz] at hv; cases hv
        rw [hz] at hv
        simp only [cond_false] at hv
        have hz : re.size ≠ 0 := fun e => by rw [nbeq_true e] at hz; cases hz
        replace hv := Ev.bind_ok hv; obtain ⟨h2, hh2, hv⟩ := hv
        cases hv
        obtain ⟨n, l, hlen, hf, hll, ⟨xs, hlx, hxs, _⟩, hdn⟩ := hsR
        simp only [preCells, List.nil_append] at hlx
        subst hlx
        have hcl : cs.length / re.size = n := by
          have := hdn hz
          simp only [Src.len, SI.den, Int.ofNat_eq_natCast] at this
          exact_mod_cast this
        obtain ⟨L2, w', hL2, hfit2, hst, hev⟩ := setN_ok (P := P) hw (Ev.ofOpt_ok hh2) (VRs.take _ hxs)
        simp only [VR] at hd
        obtain ⟨L, hL, h0, hc, rfl⟩ := hd
        rw [hL] at hL2; cases hL2
        have hdn' : (len.den ρ).toNat = dl := by omega
        have hy : ∃ a len cap, y = .slice a len cap := by
          unfold sliceRow at hsrc
          split at hsrc
          · simp only [VR] at hs; exact ⟨_, _, _, hs⟩
          · simp only [VR] at hs; obtain ⟨L, o, c, _, _, _, hs⟩ := hs; exact ⟨_, _, _, hs⟩
          · replace hsrc := bif_ok hsrc; obtain ⟨_, hsrc⟩ := hsrc; cases hsrc
          · simp only [VR] at hs; obtain ⟨L, _, _, _, hs⟩ := hs; exact ⟨_, _, _, hs⟩
          · cases hsrc
        obtain ⟨a, ln, cp, rfl⟩ := hy
        have hpre := firstCells_prefix (k := min n dl) (Nat.min_le_left _ _) hll (hf w rfl)
        rw [hcl] at hst
        refine ⟨w', goInt (min n dl : Nat), ?_, hev, ?_⟩
        · simp only [Builtin.copy_, List.getElem?_toArray, List.getElem?_cons_zero, List.getElem?_cons_succ, Sem.run_bind, hund, hu, Result.andThen_ok, hlen, run_size hC hre, hdn', Sem.run_pure, Nat.min_def]
          simp only [Nat.min_def] at hpre hst ⊢
          simp [hpre, hst]
        · simp only [VR, goInt, SI.den, hcl]; rfl
      · cases hv
    · cases hv
  · cases hv
include hF in
theorem minA_ok {mx : Bool} {ts : Array Nat} {ty : Nat} {as : List AV} {v : AV} {xs : List Value} (ha : VRs ρ φ as xs) (hv : minA F mx as = .ok v) :
    ∃ z, ((bif mx then Builtin.max_ ts ty xs.toArray else Builtin.min_ ts ty xs.toArray)).run P w = .ok z w ∧ VR ρ φ v z := by
  unfold minA at hv
  split at hv
  · rename_i k a k' b
    replace hv := Ev.bind_ok hv; obtain ⟨t, ht, hv⟩ := hv
    cases hv
    have htest := test_ok hF ht
    obtain ⟨x, xs', rfl, h1, ha⟩ := VRs.cons_left ha
    obtain ⟨y, xs'', rfl, h2, ha⟩ := VRs.cons_left ha
    have := VRs.nil_left ha; subst this
    simp only [VR] at h1 h2; subst h1 h2
    cases mx
    · simp only [cond_false, SB.cmpS_den, intCmp, Option.getD_some, ltInt_iff] at htest
      refine ⟨.int k (if b.den ρ < a.den ρ then b.den ρ else a.den ρ), by simp [Builtin.min_, Builtin.min2], ?_⟩
      cases t
      · simp at htest; simp only [VR, cond_false]; rw [if_neg (by omega)]
      · simp at htest; simp only [VR, _root_.cond_true]; rw [if_pos (by omega)]
    · simp only [_root_.cond_true, SB.cmpS_den, intCmp, Option.getD_some, ltInt_iff] at htest
      refine ⟨.int k (if b.den ρ > a.den ρ then b.den ρ else a.den ρ), by simp [Builtin.max_, Builtin.max2], ?_⟩
      cases t
      · simp at htest; simp only [VR, cond_false]; rw [if_neg (by omega)]
      · simp at htest; simp only [VR, _root_.cond_true]; rw [if_pos (by omega)]
  · cases hv
include hC in
theorem typeAssertA_ok {a v : AV} {x : Value} {xt asserted : Nat} {ok : Bool} (ha : VR ρ φ a x) (hv : typeAssertA C a asserted ok = .ok v) :
    ∃ z, (Instr.typeAssert x xt asserted ok).run P w = .ok z w ∧ VR ρ φ v z := by
  unfold typeAssertA at hv
  replace hv := Ev.bind_ok hv; obtain ⟨r, hr, hv⟩ := hv
  have hr := row_ok hr
  have hund := run_under hC hr w
  split at hv
  · cases hv
  · rename_i hni
    have hno : ∀ m, r.u = .interface m → False := hni
    split at hv
    · cases ok
      · cases hv
      · simp only [_root_.cond_true] at hv
        replace hv := Ev.bind_ok hv; obtain ⟨z, hz, hv⟩ := hv
        cases hv
        obtain ⟨zv, hzrun, hzv⟩ := run_zero hC hr (Ev.ofOpt_ok hz) ρ φ
        simp only [VR] at ha; subst ha
        refine ⟨.tuple #[zv, .bool false], ?_, ?_⟩
        · simp only [Instr.typeAssert, Sem.run_bind, hund, Result.andThen_ok]
          simp [hzrun]
        · simp only [VR]; exact ⟨_, rfl, VRs.cons hzv (VRs.cons (by simp only [VR, SB.den]) VRs.nil)⟩
    · rename_i t b
      simp only [VR] at ha; obtain ⟨y, rfl, hy⟩ := ha
      cases ht : t.beq asserted
      · rw [ht] at hv
        have hne : t ≠ asserted := fun e => by rw [nbeq_true e] at ht; cases ht
        cases ok
        · cases hv
        · simp only [cond_false, _root_.cond_true] at hv
          replace hv := Ev.bind_ok hv; obtain ⟨z, hz, hv⟩ := hv
          cases hv
          obtain ⟨zv, hzrun, hzv⟩ := run_zero hC hr (Ev.ofOpt_ok hz) ρ φ
          refine ⟨.tuple #[zv, .bool false], ?_, ?_⟩
          · simp only [Instr.typeAssert, Sem.run_bind, hund, Result.andThen_ok]
            simp [hzrun, hne]
          · simp only [VR]; exact ⟨_, rfl, VRs.cons hzv (VRs.cons (by simp only [VR, SB.den]) VRs.nil)⟩
      · rw [ht] at hv
        have hte := beq_nat ht
        simp only [_root_.cond_true] at hv
        cases hv
        refine ⟨if ok then .tuple #[y, .bool true] else y, ?_, ?_⟩
        · simp only [Instr.typeAssert, Sem.run_bind, hund, Result.andThen_ok]
          simp [hte]
        · cases ok
          · simpa using hy
          · simp only [_root_.cond_true, VR, if_true]; exact ⟨_, rfl, VRs.cons hy (VRs.cons (by simp only [VR, SB.den]) VRs.nil)⟩
    · cases hv
end
end Go.Sx
namespace Go.Sx
section
variable {C : Ctx} {P : Program} {ρ : Env} (hC : CtxOK C P ρ) {φ : Pl} {F : Facts} (hF : F.ok ρ) {h : Heap} {w : World} (hw : WR ρ φ h w)

theorem shape_of {w : World} {b : Nat} {c : Array Value} {e : Nat} {fz : Nat × Nat} (h : w.heap[b]? = some (.cells c e fz)) : w.shape? b = some (e, c.size) := by
  simp [World.shape?, h]
theorem liesIn_mem {e o t : Nat} : ∀ {l : List (Nat × Nat × Nat)}, liesIn e o t l = true → (e, o, t) ∈ l
  | [], h => by simp [liesIn] at h
  | (a, b, c) :: l, h => by
    simp only [liesIn] at h
    cases ha : a.beq e
    · rw [ha] at h; exact List.mem_cons_of_mem _ (liesIn_mem h)
    · rw [ha] at h
      cases hbc : (b.beq o && c.beq t)
      · rw [hbc] at h; exact List.mem_cons_of_mem _ (liesIn_mem h)
      · simp only [Bool.and_eq_true] at hbc
        rw [beq_nat ha, beq_nat hbc.1, beq_nat hbc.2]; exact List.mem_cons_self
theorem bytesStr (bs : List UInt8) : ∀ (acc : ByteArray), (bs.map fun b => (b.toNat : Int)).foldl (fun r n => r.push (UInt8.ofNat n.toNat)) acc = ⟨acc.data ++ bs.toArray⟩ := by
  induction bs with
  | nil => intro acc; apply ByteArray.ext; simp
  | cons b bs ih =>
    intro acc
    simp only [List.map_cons, List.foldl_cons, ih]
    apply ByteArray.ext
    simp [ByteArray.push]
include hC in
theorem isU8_under {e : Nat} (he : isU8 C e = true) : P.underlying e = some (.int .u8) ∧ P.cellsOf e = 1 := by
  unfold isU8 at he
  split at he
  · rename_i r hr
    obtain ⟨i, h1, h2, h3, _⟩ := hC.ty e r hr
    split at he
    · rename_i hu
      rw [hu] at h2
      refine ⟨h2, ?_⟩
      have := beq_nat he
      have h1' : P.toTables.info? e = some i := h1
      simp [Program.cellsOf, h1', h3, this]
    · cases he
  · cases he
include hC hF hw in
theorem convertA_ok {s d : Nat} {a v : AV} {x : Value} (ha : VR ρ φ a x) (hv : convertA C F h s d a = .ok v) : ∃ z, (convert s d x).run P w = .ok z w ∧ VR ρ φ v z := by
  unfold convertA at hv
  replace hv := Ev.bind_ok hv; obtain ⟨rs, hrs, hv⟩ := hv
  have hrs := row_ok hrs
  replace hv := Ev.bind_ok hv; obtain ⟨rd, hrd, hv⟩ := hv
  have hrd := row_ok hrd
  have hus := run_under hC hrs w
  have hud := run_under hC hrd w
  split at hv
  · rename_i k k' n hu
    cases hv
    simp only [VR] at ha; subst ha
    exact ⟨.int k (k.wrap (n.den ρ)), by simp [convert, hus, hud, hu, Conv.intToInt], by simp only [VR, SI.wrapS_den hF]⟩
  · rename_i t hu
    cases hv
    simp only [VR] at ha; subst ha
    exact ⟨.string ⟨⟨SS.den ρ t⟩⟩, by simp [convert, hus, hud, hu], by simp only [VR]⟩
  · rename_i hu
    split at hv
    · rename_i e he
      replace hv := bif_ok hv; obtain ⟨hu8, hv⟩ := hv
      cases hv
      simp only [VR] at ha; subst ha
      obtain ⟨i, _, h2, _⟩ := hC.ty s rs hrs
      obtain ⟨j, _, g2, _⟩ := hC.ty d rd hrd
      rw [he] at h2; rw [hu] at g2
      have hr := run_convert_bytes_string (P := P) w s d e none 0 0 h2 (isU8_under hC hu8).1 g2
      exact ⟨.string .empty, by rw [hr]; rfl, by simp only [VR, SS.den]; rfl⟩
    · cases hv
  · rename_i id off len c hu
    split at hv
    · rename_i e he
      replace hv := bif_ok hv; obtain ⟨hu8, hv⟩ := hv
      replace hv := Ev.bind_ok hv; obtain ⟨src, hsrc, hv⟩ := hv
      replace hv := Ev.bind_ok hv; obtain ⟨t, ht, hv⟩ := hv
      cases hv
      obtain ⟨n, l, hlen, hf, hll, hS, hdn⟩ := sliceRow_ok (P := P) hw ha hsrc
      have hl := toSS_ok hF hS (Ev.ofOpt_ok ht)
      simp only [VR] at ha; obtain ⟨L, hL, h0, hc, rfl⟩ := ha
      obtain ⟨i, _, h2, _⟩ := hC.ty s rs hrs
      obtain ⟨j, _, g2, _⟩ := hC.ty d rd hrd
      rw [he] at h2; rw [hu] at g2
      have hn : n = (len.den ρ).toNat := by
        have := hlen w
        simp [Builtin.lenOf] at this; omega
      have hload := hf w rfl
      simp only [Builtin.firstCells, Nat.mul_one] at hload
      rw [hl, hn] at hload
      have hr := run_convert_bytes_string (P := P) w s d e (some ⟨L.blk, L.base + off, none⟩) (len.den ρ).toNat (c.val L off (len.den ρ).toNat) h2 (isU8_under hC hu8).1 g2
      have hb := run_bytesToString (P := P) w ⟨L.blk, L.base + off, none⟩ (len.den ρ).toNat (c.val L off (len.den ρ).toNat) ((SS.den ρ t).map fun b => (b.toNat : Int)) (by rw [hload]; simp [byteVals, Function.comp_def])
      refine ⟨_, hr.trans hb, ?_⟩
      simp only [VR]
      rw [bytesStr]
      congr 1
      apply ByteArray.ext
      simp
    · cases hv
  · rename_i i o hu
    split at hv
    · rename_i t ht
      unfold convertA.convPtr at hv
      replace hv := Ev.bind_ok hv; obtain ⟨rt, hrt, hv⟩ := hv
      have hrt := row_ok hrt
      split at hv
      · rename_i ro cs e hb
        replace hv := bif_ok hv; obtain ⟨hok, hv⟩ := hv
        simp only [Bool.and_eq_true, Bool.not_eq_true'] at hok
        obtain ⟨h1, h2⟩ := hok
        have h1 : o < cs.length := by simpa using h1
        have hz : rt.size ≠ 0 := fun e => by rw [nbeq_true e] at h2; cases h2
        cases hv
        obtain ⟨L, ob, hL, hob, hbr⟩ := hw.blk _ _ hb
        obtain ⟨ek, c, lo, hi, xs, rest, rfl, _, hsz, hdrop, hvs, _⟩ := hbr
        have ha' := ha
        simp only [VR] at ha
        obtain ⟨M, hM, rfl⟩ := ha
        rw [hL] at hM; cases hM
        have hl1 := VRs.length hvs
        have hl2 := congrArg List.length hdrop
        simp [preCells] at hl2
        have hsh := shape_of hob
        have hlt : ¬ (c.size ≤ L.base + o) := by omega
        refine ⟨_, ?_, ha'⟩
        simp only [convert, Sem.run_bind, hus, hud, hu, ht, Result.andThen_ok]
        simp [Conv.unsafePointer, hus, hud, hu, ht, Conv.seenAt, viewAt, hsh, cellsIn, run_size hC hrt, hz, hlt]
      · cases hv
    · cases hv
  · rename_i hu
    split at hv
    · rename_i t ht
      cases hv
      simp only [VR] at ha; subst ha
      refine ⟨.pointer none, ?_, by simp only [VR]⟩
      simp [convert, hus, hud, hu, ht, Conv.unsafePointer]
    · cases hv
  · rename_i t i o hu
    split at hv
    · rename_i ht
      unfold convertA.convBack at hv
      replace hv := Ev.bind_ok hv; obtain ⟨rt, hrt, hv⟩ := hv
      have hrt := row_ok hrt
      split at hv
      · rename_i ro cs e hb
        replace hv := bif_ok hv; obtain ⟨hok, hv⟩ := hv
        replace hv := Ev.bind_ok hv; obtain ⟨re, hre, hv⟩ := hv
        have hre := row_ok hre
        replace hv := bif_ok hv; obtain ⟨hok2, hv⟩ := hv
        simp only [Bool.and_eq_true, Bool.not_eq_true'] at hok hok2
        obtain ⟨h1, h2⟩ := hok
        obtain ⟨h3, h4⟩ := hok2
        rw [Nat.ble_eq] at h3
        have hz : rt.size ≠ 0 := fun e => by rw [nbeq_true e] at h2; cases h2
        have hze : re.size ≠ 0 := fun e => by rw [nbeq_true e] at h4; cases h4
        cases hv
        obtain ⟨L, ob, hL, hob, hbr⟩ := hw.blk _ _ hb
        obtain ⟨ek, c, lo, hi, xs, rest, rfl, hek, hsz, hdrop, hvs, _⟩ := hbr
        obtain ⟨_, hek⟩ : hi = 0 ∧ ek = e := hek.resolve_left (fun h => by cases h)
        have hek := hek.symm
        subst hek
        have ha' := ha
        simp only [VR] at ha
        obtain ⟨M, hM, rfl⟩ := ha
        rw [hL] at hM; cases hM
        have hl1 := VRs.length hvs
        have hl2 := congrArg List.length hdrop
        simp [preCells] at hl2
        have hsz : c.size = L.base + L.n := by rcases hsz with h | ⟨h, _⟩; · exact h
                                               · cases h
        have hsh := shape_of hob
        have hb0 := hw.base _ _ _ hb rfl hL
        obtain ⟨ie, hie, _, hisz, _⟩ := hC.ty e re hre
        have hie' : P.toTables.info? e = some ie := hie
        have hce : P.cellsOf e = re.size := by simp [Program.cellsOf, hie', hisz]
        have hlies := hC.lies _ _ _ (liesIn_mem h1) (c.size / P.cellsOf e) (by rw [hce]; exact (Nat.one_le_div_iff (Nat.pos_of_ne_zero hze)).2 (by omega))
        refine ⟨_, ?_, ha'⟩
        rw [hb0, Nat.zero_add]
        simp only [convert, Sem.run_bind, hus, hud, hu, ht, Result.andThen_ok]
        simp [Conv.unsafePointer, hus, hud, hu, ht, Conv.seenAt, viewAt, hsh, run_size hC hrt, hz, variablesAt, hlies]
      · cases hv
    · cases hv
  · rename_i t hu
    split at hv
    · rename_i ht
      cases hv
      simp only [VR] at ha; subst ha
      refine ⟨.pointer none, ?_, by simp only [VR]⟩
      simp [convert, hus, hud, hu, ht, Conv.unsafePointer]
    · cases hv
  · cases hv
end
end Go.Sx
namespace Go.Sx
section
variable {C : Ctx} {P : Program} {ρ : Env} (hC : CtxOK C P ρ) {φ : Pl} {F : Facts} (hF : F.ok ρ) {h : Heap} {w : World} (hw : WR ρ φ h w)

theorem eqByte_refl (b : UInt8) : eqByte b b = true := by rw [eqByte_iff]; simp
theorem findByte_eq : ∀ (l : List UInt8) (c : UInt8) (i : Nat), findByte l c i = if Go.Lib.indexByte l c = -1 then none else some (i + (Go.Lib.indexByte l c).toNat)
  | [], c, i => by simp [findByte, Go.Lib.indexByte]
  | b :: l, c, i => by
    simp only [findByte, Go.Lib.indexByte]
    have hge := Go.Lib.indexByte_ge l c
    cases he : eqByte b c
    · have hne : (b == c) = false := by
        cases hbc : b == c
        · rfl
        · have : b = c := by simpa using hbc
          subst this
          rw [eqByte_refl] at he; cases he
      simp only [hne, Bool.false_eq_true, if_false, cond_false]
      rw [findByte_eq l c (Nat.succ i)]
      by_cases h1 : Go.Lib.indexByte l c = -1
      · simp [h1]
      · have h2 : (Go.Lib.indexByte l c == -1) = false := by simpa using h1
        simp only [h1, h2, if_false, Bool.false_eq_true]
        have h3 : ¬ (Go.Lib.indexByte l c + 1 = -1) := by omega
        simp only [h3, if_false, Option.some.injEq]
        omega
    · have := eqByte_eq he
      subst this
      simp
theorem optI_den {o : Option Nat} {n : Int} (h : o = if n = -1 then none else some n.toNat) (h0 : -1 ≤ n) : VR ρ φ (optI o) (.int .i64 n) := by
  unfold optI
  by_cases h1 : n = -1
  · rw [h1] at h; subst h1; subst h; simp [VR, SI.den]
  · rw [if_neg h1] at h; subst h
    simp only [VR, SI.den, Int.ofNat_eq_natCast]
    rw [Int.toNat_of_nonneg (by omega)]
include hF in
theorem findSym_ok {c : SI} (hc : 0 ≤ c.den ρ ∧ c.den ρ ≤ 255) : ∀ (l : List UInt8) (i : Nat) (v : AV), findSym F c l i = .ok v →
    VR ρ φ v (.int .i64 (if Go.Lib.indexByte l (c.den ρ).toNat.toUInt8 = -1 then -1 else i + Go.Lib.indexByte l (c.den ρ).toNat.toUInt8))
  | [], i, v, h => by
    simp only [findSym] at h; cases h
    simp [Go.Lib.indexByte, optI, VR, SI.den]
  | b :: l, i, v, h => by
    simp only [findSym] at h
    replace h := Ev.bind_ok h; obtain ⟨t, ht, h⟩ := h
    have htest := test_ok hF ht
    simp only [SB.cmpS_den, intCmp, Option.getD_some, eqInt_iff, SI.den, Int.ofNat_eq_natCast] at htest
    have hge := Go.Lib.indexByte_ge l (c.den ρ).toNat.toUInt8
    have hb : b.toNat < 256 := b.toNat_lt
    have hcv : ((c.den ρ).toNat.toUInt8).toNat = (c.den ρ).toNat := by
      show (UInt8.ofNat (c.den ρ).toNat).toNat = _
      rw [UInt8.toNat_ofNat']; omega
    cases t
    · simp only [cond_false] at h
      have ih := findSym_ok hc l (Nat.succ i) v h
      have hne : (b == (c.den ρ).toNat.toUInt8) = false := by
        cases hbc : b == (c.den ρ).toNat.toUInt8
        · rfl
        · have : b = (c.den ρ).toNat.toUInt8 := by simpa using hbc
          have h2 := congrArg UInt8.toNat this
          rw [hcv] at h2
          simp at htest; omega
      simp only [Go.Lib.indexByte, hne, Bool.false_eq_true, if_false]
      by_cases h1 : Go.Lib.indexByte l (c.den ρ).toNat.toUInt8 = -1
      · simpa [h1] using ih
      · have h2 : (Go.Lib.indexByte l (c.den ρ).toNat.toUInt8 == -1) = false := by simpa using h1
        have h3 : ¬ (Go.Lib.indexByte l (c.den ρ).toNat.toUInt8 + 1 = -1) := by omega
        simp only [h1, h2, h3, if_false, Bool.false_eq_true] at ih ⊢
        have e : ((Nat.succ i : Nat) : Int) + Go.Lib.indexByte l (c.den ρ).toNat.toUInt8 = i + (Go.Lib.indexByte l (c.den ρ).toNat.toUInt8 + 1) := by simp only [Nat.succ_eq_add_one]; omega
        rw [← e]; exact ih
    · simp only [_root_.cond_true] at h; cases h
      have heq : (b == (c.den ρ).toNat.toUInt8) = true := by
        simp at htest
        have : b = (c.den ρ).toNat.toUInt8 := UInt8.toNat_inj.1 (by rw [hcv]; omega)
        simpa using this
      simp only [Go.Lib.indexByte, heq, if_true]
      simp [optI, VR, SI.den]
theorem countByte_eq (c : UInt8) : ∀ l : List UInt8, countByte c l = Go.Lib.countByte l c
  | [] => rfl
  | b :: l => by
    have ih := countByte_eq c l
    simp only [countByte, Go.Lib.countByte, List.count_cons] at ih ⊢
    cases he : eqByte b c
    · have hne : (b == c) = false := by
        cases hbc : b == c
        · rfl
        · have : b = c := by simpa using hbc
          subst this
          rw [eqByte_refl] at he; cases he
      simp [hne, ih]
    · have := eqByte_eq he
      subst this
      simp [ih]
theorem eqByte_u8 {a b : Int} (ha : 0 ≤ a ∧ a ≤ 255) (hb : 0 ≤ b ∧ b ≤ 255) : eqByte (UInt8.ofNat a.toNat) (b.toNat.toUInt8) = decide (a = b) := by
  rw [eqByte_iff]
  have := u8_inj ha hb
  by_cases h : a = b
  · subst h; simp
  · have h2 : ¬ (UInt8.ofNat a.toNat = UInt8.ofNat b.toNat) := fun c => h (this.1 c)
    simp only [h, decide_false, decide_eq_false_iff_not]
    exact h2
theorem idxSym_den {ρ : Env} {F : Facts} (hF : F.ok ρ) {c : SI} (hc : 0 ≤ c.den ρ ∧ c.den ρ ≤ 255) : ∀ (l : List SI) (i : Nat) (r : Option Nat), Bytes ρ l → idxSym F c l i = .ok r → r = findByte (bytesDen ρ l) (c.den ρ).toNat.toUInt8 i
  | [], i, r, _, h => by simp only [idxSym] at h; cases h; rfl
  | x :: l, i, r, hb, h => by
    simp only [idxSym] at h
    replace h := Ev.bind_ok h; obtain ⟨t, ht, h⟩ := h
    have e := test_eql hF ht
    have e2 := eqByte_u8 (hb x List.mem_cons_self) hc
    simp only [bytesDen, List.map_cons, findByte]
    rw [e2, ← e]
    cases t with
    | true => simp only [_root_.cond_true] at h ⊢; cases h; rfl
    | false => simp only [cond_false] at h ⊢; exact idxSym_den hF hc l _ r (fun n hn => hb n (List.mem_cons_of_mem _ hn)) h
theorem countSym_den {ρ : Env} {F : Facts} (hF : F.ok ρ) {c : SI} (hc : 0 ≤ c.den ρ ∧ c.den ρ ≤ 255) : ∀ (l : List SI) (r : Nat), Bytes ρ l → countSym F c l = .ok r → r = countByte (c.den ρ).toNat.toUInt8 (bytesDen ρ l)
  | [], r, _, h => by simp only [countSym] at h; cases h; rfl
  | x :: l, r, hb, h => by
    simp only [countSym] at h
    replace h := Ev.bind_ok h; obtain ⟨t, ht, h⟩ := h
    replace h := Ev.bind_ok h; obtain ⟨n, hn, h⟩ := h
    have e := test_eql hF ht
    have e2 := eqByte_u8 (hb x List.mem_cons_self) hc
    have ih := countSym_den hF hc l n (fun n hn => hb n (List.mem_cons_of_mem _ hn)) hn
    simp only [bytesDen, List.map_cons, countByte] at ih ⊢
    rw [e2, ← e, ← ih]
    cases h; rfl
theorem compare_eq : ∀ a b : List UInt8, (bif bytesLt a b then (-1 : Int) else bif eqBytes a b then 0 else 1) = Go.Lib.compareBytes a b
  | [], [] => rfl
  | [], _ :: _ => rfl
  | _ :: _, [] => rfl
  | a :: x, b :: y => by
    have ih := compare_eq x y
    simp only [bytesLt, eqBytes, Go.Lib.compareBytes]
    by_cases h1 : a < b
    · have : Nat.blt a.toNat b.toNat = true := by simpa using UInt8.lt_iff_toNat_lt.1 h1
      simp [this, h1]
    · have h1' : Nat.blt a.toNat b.toNat = false := by
        cases hb : Nat.blt a.toNat b.toNat
        · rfl
        · exact absurd (UInt8.lt_iff_toNat_lt.2 (by simpa using hb)) h1
      simp only [h1', cond_false, h1, if_false]
      by_cases h2 : b < a
      · have he : eqByte a b = false := by
          cases he : eqByte a b
          · rfl
          · have := eqByte_eq he
            subst this
            exact absurd h2 (UInt8.lt_irrefl _)
        simp [he, h2]
      · have he : a = b := by
          apply UInt8.toNat_inj.1
          have h3 : ¬ (a.toNat < b.toNat) := fun h => h1 (UInt8.lt_iff_toNat_lt.2 h)
          have h4 : ¬ (b.toNat < a.toNat) := fun h => h2 (UInt8.lt_iff_toNat_lt.2 h)
          omega
        subst he
        simp only [eqByte_refl, _root_.cond_true, h2, if_false]
        exact ih

include hC hF hw in
theorem extA_ok {f : Nat} {e : Ext} {args : List AV} {xs : List Value} {v : AV} (he : C.ext.get f = some e) (ha : VRs ρ φ args xs) (hv : extA F h e args = .ok v) :
    ∃ z, (callFunc f xs.toArray).run P w = .ok (.value z) w ∧ VR ρ φ v z := by
  obtain ⟨fn, g, hfn, hname, hbody, hnext, hfind, his⟩ := hC.ext f e he
  have hrun := run_callFunc_extern (P := P) hfn hname (by rw [hbody]; rfl) hnext hfind xs.toArray w
  suffices hs : ∃ z, (g xs.toArray).run P w = .ok z w ∧ VR ρ φ v z by
    obtain ⟨z, h1, h2⟩ := hs
    exact ⟨z, by rw [hrun, h1]; rfl, h2⟩
  unfold extA at hv
  split at hv
  · cases hv
    obtain ⟨x, xs', rfl, h1, ha⟩ := VRs.cons_left ha
    have := VRs.nil_left ha; subst this
    have his : g = _ := his
    subst his
    exact ⟨x, rfl, h1⟩
  · rename_i s c
    obtain ⟨x, xs', rfl, h1, ha⟩ := VRs.cons_left ha
    obtain ⟨y, xs'', rfl, h2, ha⟩ := VRs.cons_left ha
    have := VRs.nil_left ha; subst this
    have his : g = _ := his
    subst his
    simp only [VR] at h1 h2; subst h1 h2
    refine ⟨_, Go.Lib.run_indexByteString _ _ w, ?_⟩
    split at hv
    · rename_i bs hbs
      have hbs := SS.toLit_den ρ hbs
      simp only [hbs]
      have hge := Go.Lib.indexByte_ge bs
      split at hv
      · rename_i c
        cases hv
        refine optI_den ?_ (hge _)
        rw [findByte_eq]
        simp only [SI.den, Nat.zero_add]; rfl
      · replace hv := bif_ok hv; obtain ⟨hf, hv⟩ := hv
        have hr := fits_ok hF hf
        simp [IntKind.min, IntKind.max, IntKind.signed, IntKind.bits] at hr
        have := findSym_ok (φ := φ) hF hr bs 0 v hv
        by_cases h1 : Go.Lib.indexByte bs (c.den ρ).toNat.toUInt8 = -1
        · rw [if_pos h1] at this; rw [h1]; exact this
        · rw [if_neg h1] at this; simpa using this
    · replace hv := bif_ok hv; obtain ⟨hf, hv⟩ := hv
      have hr := fits_ok hF hf
      simp [IntKind.min, IntKind.max, IntKind.signed, IntKind.bits] at hr
      replace hv := Ev.bind_ok hv; obtain ⟨l, hl, hv⟩ := hv
      replace hv := Ev.bind_ok hv; obtain ⟨r, hr2, hv⟩ := hv
      cases hv
      obtain ⟨h1, h2⟩ := SS.flat_den hF _ _ (Ev.ofOpt_ok hl)
      simp only [h1]
      refine optI_den ?_ (Go.Lib.indexByte_ge _ _)
      rw [idxSym_den hF (by omega) l 0 r h2 hr2, findByte_eq, Nat.zero_add]
  · rename_i s p
    obtain ⟨x, xs', rfl, h1, ha⟩ := VRs.cons_left ha
    obtain ⟨y, xs'', rfl, h2, ha⟩ := VRs.cons_left ha
    have := VRs.nil_left ha; subst this
    have his : g = _ := his
    subst his
    simp only [VR] at h1 h2; subst h1 h2
    replace hv := Ev.bind_ok hv; obtain ⟨bs, hbs, hv⟩ := hv
    replace hv := Ev.bind_ok hv; obtain ⟨cs, hcs, hv⟩ := hv
    have hbs := SS.toLit_den ρ (Ev.ofOpt_ok hbs)
    have hcs := SS.toLit_den ρ (Ev.ofOpt_ok hcs)
    cases hv
    refine ⟨_, Go.Lib.run_compareString _ _ w, ?_⟩
    simp only [hbs, hcs, VR, SI.den, compare_eq]
  · rename_i s c
    obtain ⟨x, xs', rfl, h1, ha⟩ := VRs.cons_left ha
    obtain ⟨y, xs'', rfl, h2, ha⟩ := VRs.cons_left ha
    have := VRs.nil_left ha; subst this
    have his : g = _ := his
    subst his
    simp only [VR] at h1 h2; subst h1 h2
    refine ⟨_, Go.Lib.run_countString _ _ w, ?_⟩
    split at hv
    · rename_i bs hbs
      have hbs := SS.toLit_den ρ hbs
      cases hv
      simp only [hbs, VR, SI.den, countByte_eq, Int.ofNat_eq_natCast, Int.toNat_natCast]
    · replace hv := bif_ok hv; obtain ⟨hc, hv⟩ := hv
      have hc : c < 256 := by simpa using hc
      replace hv := Ev.bind_ok hv; obtain ⟨l, hl, hv⟩ := hv
      replace hv := Ev.bind_ok hv; obtain ⟨r, hr2, hv⟩ := hv
      cases hv
      obtain ⟨h1, h2⟩ := SS.flat_den hF _ _ (Ev.ofOpt_ok hl)
      have := countSym_den hF (c := .lit (Int.ofNat c)) (by simp [SI.den]; omega) l r h2 hr2
      simp only [h1, VR, SI.den, this, countByte_eq, Int.ofNat_eq_natCast, Int.toNat_natCast]
  · cases hv
    obtain ⟨x, xs', rfl, h1, ha⟩ := VRs.cons_left ha
    obtain ⟨y, xs'', rfl, h2, ha⟩ := VRs.cons_left ha
    have := VRs.nil_left ha; subst this
    obtain ⟨tS, tR, e, i, hg, hu, hi⟩ := his
    subst hg
    simp only [VR] at h1 h2; subst h2
    obtain ⟨L, hL, _, _, rfl⟩ := h1
    refine ⟨.bool false, ?_, by simp only [VR, SB.den]⟩
    change Sem.run P (α := Value) (do
      let some t := (#[tS, tS] : Array TypeId)[0]? | stuck "slices.overlaps: no parameter types"
      let .slice elem ← underlying t | stuck "slices.overlaps: slice type expected"
      let size ← sizeOf elem
      pure (.bool false)) w = _
    simp [run_underlying hu, sizeOf, typeInfo, hi]
  · cases hv
  · rename_i i off n c j off' n' c'
    replace hv := bif_ok hv; obtain ⟨hok, hv⟩ := hv
    cases hv
    simp only [Bool.and_eq_true, Bool.not_eq_true'] at hok
    obtain ⟨⟨hij, hi1⟩, hj1⟩ := hok
    have hij : i ≠ j := fun e => by rw [nbeq_true e] at hij; cases hij
    obtain ⟨x, xs', rfl, h1, ha⟩ := VRs.cons_left ha
    obtain ⟨y, xs'', rfl, h2, ha⟩ := VRs.cons_left ha
    have := VRs.nil_left ha; subst this
    obtain ⟨tS, tR, e, i', hg, hu, hi⟩ := his
    subst hg
    simp only [VR] at h1 h2
    obtain ⟨L, hL, _, _, rfl⟩ := h1
    obtain ⟨M, hM, _, _, rfl⟩ := h2
    have own : ∀ {k : Nat} {K : Loc}, φ k = some K → ownCells h k = true → ∃ b cc ee lo, h.t.get k = some b ∧ b.owned = true ∧ w.heap[K.blk]? = some (.cells cc ee (lo, 0)) ∧ cc.size ≠ 0 := by
      intro k K hK hk
      unfold ownCells at hk
      split at hk
      · rename_i a l el hb
        obtain ⟨K', o, hK', ho, ek, cc, lo, hi, xs, rest, rfl, hhi, hsz, hdrop, hvs, _⟩ := hw.blk _ _ hb
        rw [hK] at hK'; cases hK'
        obtain ⟨hhi0, hek⟩ : hi = 0 ∧ ek = el := hhi.resolve_left (fun h => by cases h)
        have hek := hek.symm
        subst hhi0 hek
        refine ⟨_, cc, el, lo, hb, rfl, ho, ?_⟩
        have := VRs.length hvs
        have h2 := congrArg List.length hdrop
        simp [preCells] at h2 this
        omega
      · cases hk
    obtain ⟨bi, ci, ei, li, hbi, hoi, hci, hni⟩ := own hL hi1
    obtain ⟨bj, cj, ej, lj, hbj, hoj, hcj, hnj⟩ := own hM hj1
    refine ⟨.bool false, ?_, by simp only [VR, SB.den]⟩
    have hne : L.blk ≠ M.blk := fun e => hij (hw.apart i j bi bj L M hbi hbj hoi hL hM e)
    exact Go.Lib.run_overlaps_apart w tS tR e hu i'.size (fun w2 => by simp [sizeOf, typeInfo, hi]) ⟨L.blk, L.base + off, none⟩ ⟨M.blk, M.base + off', none⟩ _ _ _ _ hne ei ej ci.size cj.size
      (shape_of hci) (shape_of hcj) hnj (by simp [World.frozen?, hci]) (by simp [World.frozen?, hci])
  · cases hv
end
end Go.Sx
namespace Go.Sx
def DefR (ρ : Env) (φ : Pl) (d : ADef) (e : Deferred) : Prop :=
  ∃ ys, e.args = ⟨ys⟩ ∧ VRs ρ φ d.args ys ∧ match d.target with
    | .fn f c => ∃ g xs, e.target = .fn g ⟨xs⟩ ∧ fnRel φ f g ∧ VRs ρ φ c xs
    | .collected r => ∃ L, φ r = some L ∧ e.target = .collected L.blk
theorem DefR.mono {ρ : Env} {φ ψ : Pl} (hle : φ.le ψ) {d : ADef} {e : Deferred} (h : DefR ρ φ d e) : DefR ρ ψ d e := by
  obtain ⟨ys, h1, h2, h3⟩ := h
  refine ⟨ys, h1, VRs.mono hle _ _ h2, ?_⟩
  split at h3
  · obtain ⟨g, xs, h4, h5, h6⟩ := h3
    exact ⟨g, xs, h4, h5.mono hle, VRs.mono hle _ _ h6⟩
  · obtain ⟨L, h4, h5⟩ := h3
    exact ⟨L, hle _ _ h4, h5⟩
/-- what an operation's answer says of the model's -/
def NextG (P : Program) (ρ : Env) (φ : Pl) (h : Heap) (w : World) (r : ANext) (s : Sem Next) : Prop := match r with
  | .value v h' => ∃ φ' w' n z, s.run P w = .ok n w' ∧ Evo ρ φ h w φ' h' w' ∧ (n = .value z ∨ (n = .skip ∧ z = undef)) ∧ VR ρ φ' v z
  | .enter f args => ∃ xs, s.run P w = .ok (.enter f ⟨xs⟩) w ∧ VRs ρ φ args xs
  | .defer d => ∃ e, s.run P w = .ok (.defer e) w ∧ DefR ρ φ d e
  | .recover => s.run P w = .ok .recover w
  | .round l args => ∃ L xs, φ l = some L ∧ VRs ρ φ args xs ∧ s.run P w = (Instr.yield L.blk ⟨xs⟩).run P w
theorem Glob.mono {φ ψ : Pl} (h : Glob φ) (hle : φ.le ψ) : Glob ψ := fun g hg => hle _ _ (h g hg)
/-- what is known of the operands is so -/
def EvR (ρ : Env) (φ : Pl) (tm : PT AV) (env : Operand → Value) (xs : List Operand) : Prop := ∀ x ∈ xs, ∀ a, opnd tm x = some a → VR ρ φ a (env x)
section
variable {C : Ctx} {P : Program} {ρ : Env} (hC : CtxOK C P ρ) {φ : Pl} {F : Facts} (hF : F.ok ρ) {h : Heap} {w : World} (hw : WR ρ φ h w) {tm : PT AV} {env : Operand → Value}

theorem opnds_ok : ∀ {xs : List Operand} {as : List AV}, EvR ρ φ tm env xs → opnds tm xs = some as → VRs ρ φ as (xs.map env)
  | [], as, _, h => by simp [opnds] at h; subst h; exact VRs.nil
  | x :: l, as, he, h => by
    simp only [opnds] at h
    split at h
    · rename_i a b ha hb
      cases h
      exact VRs.cons (he x List.mem_cons_self a ha) (opnds_ok (fun y hy => he y (List.mem_cons_of_mem _ hy)) hb)
    · cases h
theorem parts_ok : ∀ {xs : List (Nat × Operand)} {as : List (Nat × AV)}, EvR ρ φ tm env (xs.map (·.2)) → parts tm xs = some as → PRs ρ φ as (xs.map fun p => (p.1, env p.2))
  | [], as, _, h => by simp [parts] at h; subst h; trivial
  | (i, x) :: l, as, he, h => by
    simp only [parts] at h
    split at h
    · rename_i a b ha hb
      cases h
      exact ⟨rfl, he x (by simp) a ha, parts_ok (fun y hy => he y (by simp at hy ⊢; exact .inr hy)) hb⟩
    · cases h
theorem ov_ok {xs : List Operand} (he : EvR ρ φ tm env xs) {x : Operand} (hx : x ∈ xs) {a : AV} (h : ov tm x = .ok a) : VR ρ φ a (env x) := he x hx a (Ev.ofOpt_ok h)
theorem ovo_ok {xs : List Operand} (he : EvR ρ φ tm env xs) {x : Option Operand} (hx : ∀ y, x = some y → y ∈ xs) {a : Option AV} (h : ovo tm x = .ok a) : OR ρ φ a (x.map env) := by
  cases x with
  | none => simp [ovo] at h; subst h; trivial
  | some y =>
    simp only [ovo] at h
    replace h := Ev.bind_ok h; obtain ⟨b, hb, h⟩ := h
    cases h
    exact ov_ok he (hx y rfl) hb

theorem nV_ok {s : Sem Value} {x : Ev AV} {r : ANext} (hw : WR ρ φ h w) (hx : ∀ a, x = .ok a → ∃ z, s.run P w = .ok z w ∧ VR ρ φ a z) (hv : nV h x = .ok r) : NextG P ρ φ h w r (do pure (.value (← s))) := by
  unfold nV at hv
  replace hv := Ev.bind_ok hv; obtain ⟨a, ha, hv⟩ := hv
  cases hv
  obtain ⟨z, h1, h2⟩ := hx a ha
  exact ⟨φ, w, .value z, z, by simp [h1], Evo.refl hw, .inl rfl, h2⟩
theorem nVH_ok {s : Sem Value} {x : Ev (AV × Heap)} {r : ANext} (hx : ∀ a h', x = .ok (a, h') → ∃ φ' w' z, s.run P w = .ok z w' ∧ Evo ρ φ h w φ' h' w' ∧ VR ρ φ' a z) (hv : nVH x = .ok r) : NextG P ρ φ h w r (do pure (.value (← s))) := by
  unfold nVH at hv
  replace hv := Ev.bind_ok hv; obtain ⟨⟨a, h'⟩, ha, hv⟩ := hv
  cases hv
  obtain ⟨φ', w', z, h1, h2, h3⟩ := hx a h' ha
  exact ⟨φ', w', .value z, z, by simp [h1], h2, .inl rfl, h3⟩

theorem enter_run {P : Program} {f : FuncId} {fn : Func} {c : Code} (hf : P.funcs[f]? = some fn) (hname : (fn.name == "runtime.NumGoroutine") = false) (hb : fn.body = some c) (args : Array Value) (w : World) :
    (callFunc f args).run P w = .ok (.enter f args) w := by
  have h1 : fn.name ≠ "runtime.NumGoroutine" := by simpa using hname
  simp [callFunc, hf, h1, hb]
theorem run_val {P : Program} {s : Sem Value} {z : Value} {w w' : World} (h : s.run P w = .ok z w') : (do pure (Next.value (← s)) : Sem Next).run P w = .ok (.value z) w' := by
  simp [h]
include hC hF hw in
theorem callFn_ok {f : Nat} {args : List AV} {xs : List Value} {r : ANext} (ha : VRs ρ φ args xs) (hv : callFn C F h f args = .ok r) : NextG P ρ φ h w r (callFunc f ⟨xs⟩) := by
  unfold callFn at hv
  split at hv
  · cases hv
  · rename_i fn hfn
    split at hv
    · rename_i b hb
      cases hv
      exact ⟨xs, enter_run (hC.fn _ _ hfn) (hC.noNum _ _ hfn (by rw [hb]; simp)) hb _ w, ha⟩
    · split at hv
      · rename_i e he
        replace hv := Ev.bind_ok hv; obtain ⟨a, hr, hv⟩ := hv
        cases hv
        obtain ⟨z, h1, h2⟩ := extA_ok (P := P) hC hF hw he ha hr
        exact ⟨φ, w, .value z, z, h1, Evo.refl hw, .inl rfl, h2⟩
      · cases hv
theorem resolveA_ok {a : AV} {x : Value} {args : List AV} {xs : List Value} {d : ADef} (ha : VR ρ φ a x) (hs : VRs ρ φ args xs) (hv : resolveA a args = .ok d) :
    ∃ e, (∀ w, (Deferred.ofValue x ⟨xs⟩).run P w = .ok e w) ∧ DefR ρ φ d e := by
  unfold resolveA at hv
  split at hv
  · cases hv
    simp only [VR] at ha
    obtain ⟨g, p, q, rfl, h1, h2, h3⟩ := ha
    refine ⟨{ target := .fn g ⟨q⟩, args := ⟨p⟩ ++ ⟨xs⟩ }, fun w => rfl, p ++ xs, by simp, VRs.append h2 hs, g, q, rfl, h1, h3⟩
  · cases hv
include hC hF hw in
theorem invokeA_ok {d : ADef} {e : Deferred} {r : ANext} (hd : DefR ρ φ d e) (hv : invokeA C F h d.target d.args = .ok r) : NextG P ρ φ h w r (invoke e.target e.args) := by
  obtain ⟨ys, h1, h2, h3⟩ := hd
  unfold invokeA at hv
  split at hv
  · rename_i f c ht
    rw [ht] at h3
    obtain ⟨g, xs, h4, h5, h6⟩ := h3
    have h5 : g = .func f := h5
    subst h5
    rw [h4, h1]
    have := callFn_ok hC hF hw (VRs.append h2 h6) hv
    simpa [invoke] using this
  · rename_i l c ht
    rw [ht] at h3
    obtain ⟨g, xs, h4, ⟨L, hL, h5⟩, h6⟩ := h3
    subst h5
    cases hv
    rw [h4, h1]
    exact ⟨L, ys, hL, h2, rfl⟩
  · cases hv

include hC hF hw in
theorem builtinA_ok {b : Builtin} {ts : Array Nat} {ty : Nat} {cs : Array Bool} {args : List AV} {xs : List Value} {r : ANext} (ha : VRs ρ φ args xs) (hv : builtinA C F h b ts.toList args = .ok r) : NextG P ρ φ h w r (builtin b ts ty cs ⟨xs⟩) := by
  obtain ⟨ts⟩ := ts
  unfold builtinA at hv
  split at hv
  · -- len
    unfold bLen at hv
    split at hv
    · rename_i a
      obtain ⟨x, xs', rfl, h1, ha⟩ := VRs.cons_left ha
      have := VRs.nil_left ha; subst this
      split at hv
      · rename_i t ts' hts
        replace hv := Ev.bind_ok hv; obtain ⟨r', hr, hv⟩ := hv
        have hr := row_ok hr
        simp only at hts
        rw [hts]
        exact nV_ok hw (fun v hv => lenA_ok hC hr h1 hv) hv
      · cases hv
    · cases hv
  · unfold bCap at hv
    split at hv
    · rename_i a
      obtain ⟨x, xs', rfl, h1, ha⟩ := VRs.cons_left ha
      have := VRs.nil_left ha; subst this
      split at hv
      · rename_i t ts' hts
        replace hv := Ev.bind_ok hv; obtain ⟨r', hr, hv⟩ := hv
        have hr := row_ok hr
        simp only at hts
        rw [hts]
        exact nV_ok hw (fun v hv => capA_ok hC hr h1 hv) hv
      · cases hv
    · cases hv
  · unfold bAppend at hv
    split at hv
    · rename_i a b
      obtain ⟨x, xs', rfl, h1, ha⟩ := VRs.cons_left ha
      obtain ⟨y, xs'', rfl, h2, ha⟩ := VRs.cons_left ha
      have := VRs.nil_left ha; subst this
      exact nVH_ok (fun a h' hx => appendA_ok hC hF hw h1 h2 hx) hv
    · cases hv
  · unfold bCopy at hv
    split at hv
    · rename_i a b
      obtain ⟨x, xs', rfl, h1, ha⟩ := VRs.cons_left ha
      obtain ⟨y, xs'', rfl, h2, ha⟩ := VRs.cons_left ha
      have := VRs.nil_left ha; subst this
      exact nVH_ok (fun a h' hx => ⟨φ, copyA_ok hC hw h1 h2 hx⟩) hv
    · cases hv
  · exact nV_ok hw (fun v hv => by simpa using minA_ok (P := P) (w := w) (ts := ⟨ts⟩) (ty := ty) hF ha hv) hv
  · exact nV_ok hw (fun v hv => by simpa using minA_ok (P := P) (w := w) (ts := ⟨ts⟩) (ty := ty) hF ha hv) hv
  · cases hv; exact rfl
  · unfold bSliceData at hv
    split at hv
    · cases hv
      obtain ⟨x, xs', rfl, h1, ha⟩ := VRs.cons_left ha
      have := VRs.nil_left ha; subst this
      simp only [VR] at h1; subst h1
      exact ⟨φ, w, _, .pointer none, rfl, Evo.refl hw, .inl rfl, by simp only [VR]⟩
    · rename_i id off n c
      obtain ⟨x, xs', rfl, h1, ha⟩ := VRs.cons_left ha
      have := VRs.nil_left ha; subst this
      simp only [VR] at h1
      obtain ⟨L, hL, h0, hc, rfl⟩ := h1
      have fin : ∀ k, k ≠ 0 → c.val L off (n.den ρ).toNat = k → NextG P ρ φ h w (.value (.ptr id off) h) (builtin .unsafeSliceData ⟨ts⟩ ty cs ⟨[.slice (some ⟨L.blk, L.base + off, none⟩) (n.den ρ).toNat (c.val L off (n.den ρ).toNat)]⟩) := by
        intro k hk e
        rw [e]
        have hrun := Go.Lib.run_unsafeSliceData_row (P := P) w ⟨ts⟩ ty ⟨L.blk, L.base + off, none⟩ (n.den ρ).toNat k hk
        refine ⟨φ, w, .value (.pointer (some ⟨L.blk, L.base + off, none⟩)), _, ?_, Evo.refl hw, .inl rfl, by simp only [VR]; exact ⟨L, hL, rfl⟩⟩
        exact run_val hrun
      split at hv
      · rename_i k
        cases hk : k.beq 0
        · rw [hk] at hv
          cases hv
          exact fin k (fun e => by rw [nbeq_true e] at hk; cases hk) rfl
        · rw [hk] at hv; cases hv
      · rename_i z
        split at hv
        · rename_i s e fz hb
          replace hv := bif_ok hv; obtain ⟨hok, hv⟩ := hv
          simp only [Bool.and_eq_true] at hok
          have hz := beq_nat hok.1
          have ho := beq_nat hok.2
          subst hz ho
          replace hv := Ev.bind_ok hv; obtain ⟨t, ht, hv⟩ := hv
          have htest := test_ok hF ht
          replace hv := bif_ok hv; obtain ⟨rfl, hv⟩ := hv
          cases hv
          simp only [SB.cmpS_den, intCmp, Option.getD_some, ltInt_iff, SI.den, SS.len_den] at htest
          simp at htest
          obtain ⟨M, o, hM, ho, cc, lo, hi, rest, rfl, hsz, hdrop, _⟩ := hw.blk _ _ hb
          rw [hL] at hM; cases hM
          have hl := congrArg List.length hdrop
          simp [byteVals] at hl
          exact fin _ (by simp only [Cap.val]; simp; omega) rfl
        · cases hv
      · cases hv
    · cases hv
  · unfold bUStr at hv
    split at hv
    · rename_i t t2 p n hts
      simp only at hts
      subst hts
      obtain ⟨x, xs', rfl, h1, ha⟩ := VRs.cons_left ha
      obtain ⟨y, xs'', rfl, h2, ha⟩ := VRs.cons_left ha
      have := VRs.nil_left ha; subst this
      simp only [VR] at h2; subst h2
      split at hv
      · split at hv
        · cases hv
          simp only [VR] at h1; subst h1
          exact ⟨φ, w, _, .string .empty, run_val (Go.Lib.run_unsafeString_none w t t2 ty none), Evo.refl hw, .inl rfl, by simp only [VR, SS.den]; rfl⟩
        · cases hv
      · rename_i id off
        replace hv := Ev.bind_ok hv; obtain ⟨r', hr, hv⟩ := hv
        have hr := row_ok hr
        split at hv
        · rename_i e hu
          replace hv := bif_ok hv; obtain ⟨hok, hv⟩ := hv
          simp only [Bool.and_eq_true] at hok
          have ho := beq_nat hok.1; subst ho
          obtain ⟨_, hce⟩ := isU8_under hC hok.2
          obtain ⟨i, _, g2, _⟩ := hC.ty t r' hr
          rw [hu] at g2
          unfold uStr at hv
          split at hv
          · rename_i s e' fz hb
            replace hv := bif_ok hv; obtain ⟨hok, hv⟩ := hv
            simp only [Bool.and_eq_true] at hok
            obtain ⟨⟨h3, h4⟩, h5⟩ := hok
            have h4 := beq_nat h4; subst h4
            have h3 := congrArg (SI.den ρ) (SI.beq_eq h3)
            rw [SS.len_den] at h3
            have h5 := leSI_ok hF h5
            rw [h3] at h5
            simp only [SI.den] at h5
            cases hv
            simp only [VR] at h1; obtain ⟨L, hL, rfl⟩ := h1
            have hb0 := hw.base _ _ _ hb rfl hL
            obtain ⟨M, o, hM, hoo, cc, lo, hi, rest, rfl, hsz, hdrop, hhi⟩ := hw.blk _ _ hb
            rw [hL] at hM; cases hM
            have hl := congrArg List.length hdrop
            simp [byteVals] at hl
            simp only [hb0, Nat.zero_add, Nat.add_zero, List.drop_zero] at hdrop hhi hsz ⊢
            by_cases hemp : SS.den ρ s = []
            · have hn0 : n.den ρ = 0 := by rw [h3, hemp]; rfl
              have hev : Evo ρ φ h w φ (h.put id (.bytes s e' true)) w := by
                refine evo_put hw hb rfl hL ⟨rfl, rfl⟩ rfl hoo (fun _ _ => rfl) ?_
                refine ⟨cc, lo, hi, rest, rfl, by rw [hb0, Nat.zero_add]; exact hsz, by rw [hb0, List.drop_zero]; exact hdrop, ?_⟩
                rcases hhi with h0 | ⟨_, h0⟩
                · exact .inl h0
                · exact .inr ⟨rfl, by rw [hb0, Nat.zero_add]; exact h0⟩
              refine ⟨φ, w, _, .string .empty, run_val ?_, hev, .inl rfl, by simp only [VR, hemp]; rfl⟩
              rw [hn0]
              exact Go.Lib.run_unsafeString_none w t t2 ty _
            · have hcell : ∀ j x, (SS.den ρ s)[j]? = some x → w.cell? ((⟨L.blk, 0, none⟩ : Addr).add j) = some (.int .u8 x.toNat) := by
                intro j x hx
                rw [add_none, cell_of hoo, Nat.zero_add, ← Array.getElem?_toList, hdrop]
                have hlt : j < (SS.den ρ s).length := by
                  rcases Nat.lt_or_ge j (SS.den ρ s).length with h | h
                  · exact h
                  · rw [List.getElem?_eq_none h] at hx; cases hx
                rw [List.getElem?_append_left (by simpa [byteVals] using hlt)]
                simp [byteVals, hx]
              have hrun := Go.Lib.run_unsafeString_row (P := P) w t t2 ty e' g2 hce L.blk cc.size (shape_of hoo) (SS.den ρ s) hemp (by omega) (by omega) hcell
              rw [← h3] at hrun
              refine ⟨φ, w.freeze ⟨L.blk, 0, none⟩ (SS.den ρ s).length, _, .string ⟨(SS.den ρ s).toArray⟩, run_val hrun, ?_, .inl rfl, by simp only [VR]⟩
              have hne : (SS.den ρ s).length ≠ 0 := by simpa using hemp
              have hat : ∃ lo' hi', (w.freeze ⟨L.blk, 0, none⟩ (SS.den ρ s).length).heap[L.blk]? = some (.cells cc e' (lo', hi')) ∧ hi' ≤ (SS.den ρ s).length := by
                simp only [World.freeze, hne, if_false, Array.getElem?_modify, if_true, hoo, Option.map_some, Nat.zero_add]
                by_cases hlh : (lo == hi) = true
                · exact ⟨0, (SS.den ρ s).length, by simp [hlh], Nat.le_refl _⟩
                · refine ⟨min lo 0, max hi (SS.den ρ s).length, by simp [hlh], ?_⟩
                  rcases hhi with h0 | ⟨_, h0⟩
                  · omega
                  · omega
              obtain ⟨lo', hi', hat, hle⟩ := hat
              refine evo_put hw hb rfl hL ?_ ?_ hat ?_ ?_
              · simp [World.freeze, hne]
              · simp [World.freeze, hne]
              · intro k hk
                simp only [World.freeze, hne, if_false, Array.getElem?_modify]
                rw [if_neg (fun e => hk e.symm)]
              · exact ⟨cc, lo', hi', rest, rfl, by rw [hb0, Nat.zero_add]; exact hsz, by rw [hb0, List.drop_zero]; exact hdrop, .inr ⟨rfl, by rw [hb0, Nat.zero_add]; exact hle⟩⟩
          · cases hv
        · cases hv
      · cases hv
    · cases hv
  · cases hv
end
end Go.Sx
namespace Go.Sx
section
variable {C : Ctx} {P : Program} {ρ : Env} (hC : CtxOK C P ρ) {φ : Pl} {F : Facts} (hF : F.ok ρ) {h : Heap} {w : World} (hw : WR ρ φ h w) {tm : PT AV} {env : Operand → Value}

theorem run_val0 {s : Sem Unit} {w w' : World} (h : s.run P w = .ok () w') : (do s; pure Next.skip : Sem Next).run P w = .ok .skip w' := by
  simp [h]
include hC hF hw in
theorem oCall_ok {c : Call} {ty : Nat} {r : ANext} (he : EvR ρ φ tm env c.operands.toList) (hv : oCall C F h tm c = .ok r) : NextG P ρ φ h w r (do let d ← resolve env c ty; invoke d.target d.args) := by
  unfold oCall at hv
  replace hv := Ev.bind_ok hv; obtain ⟨args, hargs, hv⟩ := hv
  have hargs := Ev.ofOpt_ok hargs
  have hvs := opnds_ok (ρ := ρ) (φ := φ) (env := env) (fun x hx => he x (by simp only [Call.operands, Array.toList_append, List.mem_append]; exact .inr hx)) hargs
  split at hv
  · rename_i b hcal
    have e : (⟨c.args.toList.map env⟩ : Array Value) = c.args.map env := by apply Array.ext'; simp
    have hr : ∃ cs, ∀ w, (do let d ← resolve env c ty; invoke d.target d.args : Sem Next).run P w = (builtin b c.argTypes ty cs (c.args.map env)).run P w := by
      refine ⟨?cs, fun w => ?_⟩
      rotate_left
      · simp only [resolve, hcal, Sem.run_bind, Sem.run_pure, Result.andThen_ok, invoke]
        rfl
    obtain ⟨cs, hr⟩ := hr
    have := builtinA_ok (P := P) (ty := ty) (cs := cs) hC hF hw hvs hv
    rw [e] at this
    unfold NextG at this ⊢
    split at this <;> simp only [hr] <;> exact this
  · rename_i f hcal
    unfold oCallV at hv
    replace hv := Ev.bind_ok hv; obtain ⟨fv, hf, hv⟩ := hv
    replace hv := Ev.bind_ok hv; obtain ⟨d, hd, hv⟩ := hv
    have hfv := ov_ok he (by simp only [Call.operands, hcal]; simp) hf
    obtain ⟨e, h1, h2⟩ := resolveA_ok (P := P) hfv hvs hd
    have := invokeA_ok (P := P) hC hF hw h2 hv
    have e' : (⟨c.args.toList.map env⟩ : Array Value) = c.args.map env := by apply Array.ext'; simp
    rw [e'] at h1
    have hr : ∀ w, (do let d ← resolve env c ty; invoke d.target d.args : Sem Next).run P w = (invoke e.target e.args).run P w := by
      intro w
      simp only [resolve, hcal, Sem.run_bind, h1, Result.andThen_ok]
    unfold NextG at this ⊢
    split at this <;> simp only [hr] <;> exact this
  · cases hv
include hC hF hw in
theorem opB_ok {o : Oper} {r : ANext} (he : EvR ρ φ tm env o.op.operands.toList) (hv : opB C F h tm o.op = .ok r) : NextG P ρ φ h w r (execOp env o) := by
  unfold opB at hv
  unfold execOp
  split at hv
  all_goals first | (cases hv; done) | (rename_i hop; have he := he; rw [hop] at he; rw [hop])
  all_goals dsimp only
  -- move
  · unfold oMove at hv
    exact nV_ok (s := pure (env _)) hw (fun a ha => ⟨env _, rfl, ov_ok he (by simp [Op.operands]) ha⟩) hv
  · unfold oMove at hv
    exact nV_ok (s := pure (env _)) hw (fun a ha => ⟨env _, rfl, ov_ok he (by simp [Op.operands]) ha⟩) hv
  · rename_i c a b
    unfold oPick at hv
    replace hv := Ev.bind_ok hv; obtain ⟨cv, hc, hv⟩ := hv
    have hcv := ov_ok he (by simp [Op.operands]) hc
    split at hv
    · rename_i cb
      replace hv := Ev.bind_ok hv; obtain ⟨t, ht, hv⟩ := hv
      have htest := test_ok hF ht
      simp only [VR] at hcv
      cases t
      · simp only [cond_false] at hv
        unfold oMove at hv
        have := nV_ok (s := pure (env b)) (P := P) hw (fun a ha => ⟨env b, rfl, ov_ok he (by simp [Op.operands]) ha⟩) hv
        simpa [hcv, asBool, htest] using this
      · simp only [_root_.cond_true] at hv
        unfold oMove at hv
        have := nV_ok (s := pure (env a)) (P := P) hw (fun a ha => ⟨env _, rfl, ov_ok he (by simp [Op.operands]) ha⟩) hv
        simpa [hcv, asBool, htest] using this
    · cases hv
  · -- alloc
    rename_i t
    unfold oAlloc at hv
    replace hv := Ev.bind_ok hv; obtain ⟨z, hz, hv⟩ := hv
    unfold zeroAV at hz
    replace hz := Ev.bind_ok hz; obtain ⟨rt, hrt, hz⟩ := hz
    obtain ⟨zv, h1, h2⟩ := run_zero hC (row_ok hrt) (Ev.ofOpt_ok hz) ρ φ
    refine nVH_ok (fun a h' hx => ?_) hv
    cases hx
    obtain ⟨φ', w', p, h3, h4, h5⟩ := newVar_ok (P := P) (t := t) hw h2
    exact ⟨φ', w', _, by simp [Instr.alloc, h1, h3], h4, h5⟩
  · -- box
    rename_i t x
    unfold oBox at hv
    replace hv := Ev.bind_ok hv; obtain ⟨a, ha, hv⟩ := hv
    have hav := ov_ok he (by simp [Op.operands]) ha
    refine nVH_ok (fun a h' hx => ?_) hv
    cases hx
    obtain ⟨φ', w', p, h3, h4, h5⟩ := newVar_ok (P := P) (t := t) hw hav
    exact ⟨φ', w', _, by simp [Instr.box, h3], h4, h5⟩
  · -- build
    rename_i t ps
    unfold oBuild at hv
    replace hv := Ev.bind_ok hv; obtain ⟨qs, hq, hv⟩ := hv
    have hq := parts_ok (ρ := ρ) (φ := φ) (env := env) (by simpa [Op.operands] using he) (Ev.ofOpt_ok hq)
    exact nV_ok hw (fun a ha => buildA_ok hC (by simpa using hq) ha) hv
  · rename_i t n ps
    unfold oBuildSlice at hv
    replace hv := Ev.bind_ok hv; obtain ⟨qs, hq, hv⟩ := hv
    have hq := parts_ok (ρ := ρ) (φ := φ) (env := env) (by simpa [Op.operands] using he) (Ev.ofOpt_ok hq)
    exact nVH_ok (fun a h' ha => buildSliceA_ok hC hw (by simpa using hq) ha) hv
  · -- load
    unfold oLoad at hv
    replace hv := Ev.bind_ok hv; obtain ⟨a, ha, hv⟩ := hv
    have hav := ov_ok he (by simp [Op.operands]) ha
    exact nV_ok hw (fun a ha => loadAt_ok hC hF hw hav ha) hv
  · -- store
    unfold oStore at hv
    replace hv := Ev.bind_ok hv; obtain ⟨a, ha, hv⟩ := hv
    replace hv := Ev.bind_ok hv; obtain ⟨x, hx, hv⟩ := hv
    have hav := ov_ok he (by simp [Op.operands]) ha
    have hxv := ov_ok he (by simp [Op.operands]) hx
    replace hv := Ev.bind_ok hv; obtain ⟨h', hh, hv⟩ := hv
    cases hv
    obtain ⟨w', h1, h2⟩ := storeAt_ok (P := P) hC hw hav hxv hh
    exact ⟨φ, w', .skip, undef, run_val0 h1, h2, .inr ⟨rfl, rfl⟩, by simp only [AV.undef, VR]; exact ⟨[], rfl, VRs.nil⟩⟩
  · -- nilCheck
    unfold oNilCheck at hv
    replace hv := Ev.bind_ok hv; obtain ⟨a, ha, hv⟩ := hv
    have hav := ov_ok he (by simp [Op.operands]) ha
    unfold nilCheckA at hv
    split at hv
    · cases hv
      have hav' := hav
      simp only [VR] at hav; obtain ⟨L, hL, hx⟩ := hav
      rw [hx]
      exact ⟨φ, w, _, _, rfl, Evo.refl hw, .inl rfl, by rw [← hx]; exact hav'⟩
    · cases hv
      have hav' := hav
      simp only [VR] at hav; obtain ⟨L, hL, _, hx⟩ := hav
      rw [hx]
      exact ⟨φ, w, _, _, rfl, Evo.refl hw, .inl rfl, by rw [← hx]; exact hav'⟩
    · split at hv
      · cases hv
        have hav' := hav
        simp only [VR] at hav; obtain ⟨g, x, y, hx, hg, _⟩ := hav
        have hg : g = .func _ := hg
        subst hg
        rw [hx]
        exact ⟨φ, w, _, _, rfl, Evo.refl hw, .inl rfl, by rw [← hx]; exact hav'⟩
      · cases hv
    · cases hv
  · -- binOp
    unfold oBinOp at hv
    replace hv := Ev.bind_ok hv; obtain ⟨a, ha, hv⟩ := hv
    replace hv := Ev.bind_ok hv; obtain ⟨x, hx, hv⟩ := hv
    have hav := ov_ok he (by simp [Op.operands]) ha
    have hxv := ov_ok he (by simp [Op.operands]) hx
    exact nV_ok hw (fun a ha => binOpA_ok hC hF hav hxv ha) hv
  · unfold oUnOp at hv
    replace hv := Ev.bind_ok hv; obtain ⟨a, ha, hv⟩ := hv
    have hav := ov_ok he (by simp [Op.operands]) ha
    exact nV_ok hw (fun a ha => unOpA_ok hF hav ha) hv
  · unfold oConvert at hv
    replace hv := Ev.bind_ok hv; obtain ⟨a, ha, hv⟩ := hv
    have hav := ov_ok he (by simp [Op.operands]) ha
    exact nV_ok hw (fun a ha => convertA_ok hC hF hw hav ha) hv
  · -- makeInterface
    unfold oMakeI at hv
    replace hv := Ev.bind_ok hv; obtain ⟨a, ha, hv⟩ := hv
    replace hv := Ev.bind_ok hv; obtain ⟨rt, hrt, hv⟩ := hv
    have hav := ov_ok he (by simp [Op.operands]) ha
    have hund := run_under hC (row_ok hrt) w
    split at hv
    · cases hv
    · rename_i hni
      cases hv
      refine ⟨φ, w, _, _, run_val (z := .iface _ (env _)) ?_, Evo.refl hw, .inl rfl, by simp only [VR]; exact ⟨_, rfl, hav⟩⟩
      simp only [Instr.makeInterface, Sem.run_bind, hund, Result.andThen_ok]
      first | (simp; done) | (split <;> simp_all)
  · -- makeFunc
    rename_i fn fa fb
    unfold oMakeF at hv
    cases hy : isYield fn
    rotate_left
    · rw [hy] at hv; cases hv
    rw [hy] at hv
    simp only [cond_false] at hv
    replace hv := Ev.bind_ok hv; obtain ⟨a, ha, hv⟩ := hv
    replace hv := Ev.bind_ok hv; obtain ⟨b, hb, hv⟩ := hv
    cases hv
    have h1 := opnds_ok (ρ := ρ) (φ := φ) (env := env) (fun x hx => he x (by simp only [Op.operands, Array.toList_append, List.mem_append]; exact .inl hx)) (Ev.ofOpt_ok ha)
    have h2 := opnds_ok (ρ := ρ) (φ := φ) (env := env) (fun x hx => he x (by simp only [Op.operands, Array.toList_append, List.mem_append]; exact .inr hx)) (Ev.ofOpt_ok hb)
    have e1 : fa.map env = ⟨fa.toList.map env⟩ := by apply Array.ext'; simp
    have e2 : fb.map env = ⟨fb.toList.map env⟩ := by apply Array.ext'; simp
    rw [e1, e2]
    refine ⟨φ, w, _, .func fn ⟨fa.toList.map env⟩ ⟨fb.toList.map env⟩, rfl, Evo.refl hw, .inl rfl, ?_⟩
    simp only [VR]
    refine ⟨fn, _, _, rfl, ?_, h1, h2⟩
    cases fn with
    | yield l => cases hy
    | _ => rfl
  · -- makeSlice
    unfold oMakeS at hv
    replace hv := Ev.bind_ok hv; obtain ⟨a, ha, hv⟩ := hv
    replace hv := Ev.bind_ok hv; obtain ⟨x, hx, hv⟩ := hv
    have hav := ov_ok he (by simp [Op.operands]) ha
    have hxv := ov_ok he (by simp [Op.operands]) hx
    exact nVH_ok (fun a h' ha => makeSliceA_ok hC hw hav hxv ha) hv
  · -- slice
    unfold oSlice at hv
    replace hv := Ev.bind_ok hv; obtain ⟨a, ha, hv⟩ := hv
    replace hv := Ev.bind_ok hv; obtain ⟨lo, hlo, hv⟩ := hv
    replace hv := Ev.bind_ok hv; obtain ⟨hi, hhi, hv⟩ := hv
    replace hv := Ev.bind_ok hv; obtain ⟨mx, hmx, hv⟩ := hv
    have hav := ov_ok he (by simp [Op.operands]) ha
    have h1 := ovo_ok he (fun y hy => by subst hy; simp [Op.operands]) hlo
    have h2 := ovo_ok he (fun y hy => by subst hy; simp [Op.operands]) hhi
    have h3 := ovo_ok he (fun y hy => by subst hy; simp [Op.operands]) hmx
    exact nV_ok hw (fun a ha => sliceOf_ok hC hF hw hav h1 h2 h3 ha) hv
  · -- fieldAddr
    unfold oFieldAddr at hv
    replace hv := Ev.bind_ok hv; obtain ⟨a, ha, hv⟩ := hv
    have hav := ov_ok he (by simp [Op.operands]) ha
    exact nV_ok hw (fun a ha => fieldAt_ok hC hav ha) hv
  · unfold oField at hv
    replace hv := Ev.bind_ok hv; obtain ⟨a, ha, hv⟩ := hv
    have hav := ov_ok he (by simp [Op.operands]) ha
    exact nV_ok hw (fun a ha => fieldOf_ok hC hav ha) hv
  · unfold oIndexAddr at hv
    replace hv := Ev.bind_ok hv; obtain ⟨a, ha, hv⟩ := hv
    replace hv := Ev.bind_ok hv; obtain ⟨x, hx, hv⟩ := hv
    have hav := ov_ok he (by simp [Op.operands]) ha
    have hxv := ov_ok he (by simp [Op.operands]) hx
    exact nV_ok hw (fun a ha => indexAddr_ok hC hF hav hxv ha) hv
  · unfold oIndex at hv
    replace hv := Ev.bind_ok hv; obtain ⟨a, ha, hv⟩ := hv
    replace hv := Ev.bind_ok hv; obtain ⟨x, hx, hv⟩ := hv
    have hav := ov_ok he (by simp [Op.operands]) ha
    have hxv := ov_ok he (by simp [Op.operands]) hx
    exact nV_ok hw (fun a ha => indexOf_ok hC hF hav hxv ha) hv
  · unfold oAssert at hv
    replace hv := Ev.bind_ok hv; obtain ⟨a, ha, hv⟩ := hv
    have hav := ov_ok he (by simp [Op.operands]) ha
    exact nV_ok hw (fun a ha => typeAssertA_ok hC hav ha) hv
  · -- extract
    unfold oExtract at hv
    replace hv := Ev.bind_ok hv; obtain ⟨a, ha, hv⟩ := hv
    have hav := ov_ok he (by simp [Op.operands]) ha
    unfold extractA at hv
    split at hv
    · split at hv
      · rename_i hget
        cases hv
        simp only [VR] at hav; obtain ⟨xs, hx, hvs⟩ := hav
        obtain ⟨y, hy, hyv⟩ := VRs.get hvs _ _ hget
        refine ⟨φ, w, _, y, run_val ?_, Evo.refl hw, .inl rfl, hyv⟩
        rw [hx]
        simp [Instr.extract, hy]
      · cases hv
    · cases hv
  · -- call
    exact oCall_ok hC hF hw (by simpa [Op.operands] using he) hv
  · -- defer
    rename_i c
    unfold oDefer at hv
    replace hv := Ev.bind_ok hv; obtain ⟨args, hargs, hv⟩ := hv
    have hargs := Ev.ofOpt_ok hargs
    have he2 : EvR ρ φ tm env c.operands.toList := by simpa [Op.operands] using he
    have hvs := opnds_ok (ρ := ρ) (φ := φ) (env := env) (fun x hx => he2 x (by simp only [Call.operands, Array.toList_append, List.mem_append]; exact .inr hx)) hargs
    split at hv
    · rename_i f hcal
      replace hv := Ev.bind_ok hv; obtain ⟨fv, hf, hv⟩ := hv
      replace hv := Ev.bind_ok hv; obtain ⟨d, hd, hv⟩ := hv
      cases hv
      have hfv := ov_ok he2 (by simp only [Call.operands, hcal]; simp) hf
      obtain ⟨e, h1, h2⟩ := resolveA_ok (P := P) hfv hvs hd
      have e' : (⟨c.args.toList.map env⟩ : Array Value) = c.args.map env := by apply Array.ext'; simp
      rw [e'] at h1
      refine ⟨e, ?_, h2⟩
      simp only [resolve, hcal, Sem.run_bind, h1, Result.andThen_ok, Sem.run_pure]
    · cases hv
include hC hF hw in
/-- what is reckoned of one operation, the operation does -/
theorem opA_ok {o : Oper} (he : EvR ρ φ tm env o.op.operands.toList) : match opA C F h tm o.op with
    | .ok r => NextG P ρ φ h w r (execOp env o)
    | .panic v h' => h' = h ∧ ∃ z, (execOp env o).run P w = .halt (.panic z) w ∧ VR ρ φ v z
    | _ => True := by
  have key : ∀ r, opA C F h tm o.op = .ok r → (∃ x, o.op = .panic x) ∨ opB C F h tm o.op = .ok r := by
    intro r hr
    unfold opA at hr
    split at hr
    · rename_i x hx; exact .inl ⟨x, hx⟩
    · right
      cases hb : opB C F h tm o.op <;> rw [hb] at hr <;> simp [still] at hr
      rw [hr]
  split
  · rename_i r hr
    rcases key r hr with ⟨x, hx⟩ | hb
    · rw [hx] at hr
      unfold opA oPanic at hr
      replace hr := Ev.bind_ok hr; obtain ⟨a, ha, hr⟩ := hr
      unfold panicA at hr
      split at hr <;> cases hr
    · exact opB_ok hC hF hw he hb
  · rename_i v h' hr
    unfold opA at hr
    split at hr
    · rename_i x hx
      rw [hx] at he
      unfold oPanic at hr
      cases hov : ov tm x with
      | ok a =>
        rw [hov] at hr
        have hav := ov_ok he (by simp [Op.operands]) hov
        simp only [Ev.bind] at hr
        unfold panicA at hr
        split at hr
        · cases hr
          have hav' := hav
          simp only [VR] at hav; obtain ⟨y, hy, _⟩ := hav
          refine ⟨rfl, _, ?_, hav'⟩
          unfold execOp
          rw [hx]
          simp [Instr.panic, hy, goPanic]
        · cases hr
      | fork c => rw [hov] at hr; cases hr
      | panic v h' => exfalso; unfold ov Ev.ofOpt at hov; split at hov <;> cases hov
      | fail s => rw [hov] at hr; cases hr
    · cases hb : opB C F h tm o.op <;> rw [hb] at hr <;> simp [still] at hr
  · trivial
end
end Go.Sx
namespace Go.Sx
section
variable {C : Ctx} {P : Program} {ρ : Env} (hC : CtxOK C P ρ) {φ : Pl} {F : Facts} (hF : F.ok ρ) {h : Heap} {w : World} (hw : WR ρ φ h w) {tm : PT AV} {env : Operand → Value}
/-- an operation that only computes or reads -/
def QuietG (P : Program) (ρ : Env) (φ : Pl) (h : Heap) (w : World) (r : ANext) (s : Sem Next) : Prop := ∃ v z, r = .value v h ∧ s.run P w = .ok (.value z) w ∧ VR ρ φ v z
theorem nVQ_ok {s : Sem Value} {x : Ev AV} {r : ANext} (hx : ∀ a, x = .ok a → ∃ z, s.run P w = .ok z w ∧ VR ρ φ a z) (hv : nV h x = .ok r) : QuietG P ρ φ h w r (do pure (.value (← s))) := by
  unfold nV at hv
  replace hv := Ev.bind_ok hv; obtain ⟨a, ha, hv⟩ := hv
  cases hv
  obtain ⟨z, h1, h2⟩ := hx a ha
  exact ⟨a, z, rfl, by simp [h1], h2⟩
include hC hF hw in
theorem quietBuiltin_ok {b : Builtin} {ts : Array Nat} {ty : Nat} {cs : Array Bool} {args : List AV} {xs : List Value} {r : ANext} (hq : (match b with | .len | .cap | .min | .max | .unsafeSliceData => false | _ => true) = false) (ha : VRs ρ φ args xs) (hv : builtinA C F h b ts.toList args = .ok r) : QuietG P ρ φ h w r (builtin b ts ty cs ⟨xs⟩) := by
  obtain ⟨ts⟩ := ts
  unfold builtinA at hv
  split at hv
  all_goals first | (cases hq; done) | (cases hv; done) | skip
  · -- len
    unfold bLen at hv
    split at hv
    · rename_i a
      obtain ⟨x, xs', rfl, h1, ha⟩ := VRs.cons_left ha
      have := VRs.nil_left ha; subst this
      split at hv
      · rename_i t ts' hts
        replace hv := Ev.bind_ok hv; obtain ⟨r', hr, hv⟩ := hv
        have hr := row_ok hr
        simp only at hts
        rw [hts]
        exact nVQ_ok (fun v hv => lenA_ok hC hr h1 hv) hv
      · cases hv
    · cases hv
  · unfold bCap at hv
    split at hv
    · rename_i a
      obtain ⟨x, xs', rfl, h1, ha⟩ := VRs.cons_left ha
      have := VRs.nil_left ha; subst this
      split at hv
      · rename_i t ts' hts
        replace hv := Ev.bind_ok hv; obtain ⟨r', hr, hv⟩ := hv
        have hr := row_ok hr
        simp only at hts
        rw [hts]
        exact nVQ_ok (fun v hv => capA_ok hC hr h1 hv) hv
      · cases hv
    · cases hv
  · exact nVQ_ok (fun v hv => by simpa using minA_ok (P := P) (w := w) (ts := ⟨ts⟩) (ty := ty) hF ha hv) hv
  · exact nVQ_ok (fun v hv => by simpa using minA_ok (P := P) (w := w) (ts := ⟨ts⟩) (ty := ty) hF ha hv) hv
  · unfold bSliceData at hv
    split at hv
    · cases hv
      obtain ⟨x, xs', rfl, h1, ha⟩ := VRs.cons_left ha
      have := VRs.nil_left ha; subst this
      simp only [VR] at h1; subst h1
      exact ⟨_, .pointer none, rfl, rfl, by simp only [VR]⟩
    · rename_i id off n c
      obtain ⟨x, xs', rfl, h1, ha⟩ := VRs.cons_left ha
      have := VRs.nil_left ha; subst this
      simp only [VR] at h1
      obtain ⟨L, hL, h0, hc, rfl⟩ := h1
      have fin : ∀ k, k ≠ 0 → c.val L off (n.den ρ).toNat = k → QuietG P ρ φ h w (.value (.ptr id off) h) (builtin .unsafeSliceData ⟨ts⟩ ty cs ⟨[.slice (some ⟨L.blk, L.base + off, none⟩) (n.den ρ).toNat (c.val L off (n.den ρ).toNat)]⟩) := by
        intro k hk e
        rw [e]
        have hrun := Go.Lib.run_unsafeSliceData_row (P := P) w ⟨ts⟩ ty ⟨L.blk, L.base + off, none⟩ (n.den ρ).toNat k hk
        refine ⟨_, .pointer (some ⟨L.blk, L.base + off, none⟩), rfl, ?_, by simp only [VR]; exact ⟨L, hL, rfl⟩⟩
        exact run_val hrun
      split at hv
      · rename_i k
        cases hk : k.beq 0
        · rw [hk] at hv
          cases hv
          exact fin k (fun e => by rw [nbeq_true e] at hk; cases hk) rfl
        · rw [hk] at hv; cases hv
      · rename_i z
        split at hv
        · rename_i s e fz hb
          replace hv := bif_ok hv; obtain ⟨hok, hv⟩ := hv
          simp only [Bool.and_eq_true] at hok
          have hz := beq_nat hok.1
          have ho := beq_nat hok.2
          subst hz ho
          replace hv := Ev.bind_ok hv; obtain ⟨t, ht, hv⟩ := hv
          have htest := test_ok hF ht
          replace hv := bif_ok hv; obtain ⟨rfl, hv⟩ := hv
          cases hv
          simp only [SB.cmpS_den, intCmp, Option.getD_some, ltInt_iff, SI.den, SS.len_den] at htest
          simp at htest
          obtain ⟨M, o, hM, ho, cc, lo, hi, rest, rfl, hsz, hdrop, _⟩ := hw.blk _ _ hb
          rw [hL] at hM; cases hM
          have hl := congrArg List.length hdrop
          simp [byteVals] at hl
          exact fin _ (by simp only [Cap.val]; simp; omega) rfl
        · cases hv
      · cases hv
    · cases hv
include hC hF hw in
theorem quietB_ok {o : Oper} {r : ANext} (hq : isE o = false) (he : EvR ρ φ tm env o.op.operands.toList) (hv : opB C F h tm o.op = .ok r) : QuietG P ρ φ h w r (execOp env o) := by
  unfold isE at hq
  unfold opB at hv
  unfold execOp
  split at hv
  all_goals first | (cases hv; done) | (rename_i hop; have he := he; rw [hop] at he; rw [hop] at hq; rw [hop]; first | (cases hq; done) | skip)
  all_goals dsimp only
  -- move
  · unfold oMove at hv
    exact nVQ_ok (s := pure (env _)) (fun a ha => ⟨env _, rfl, ov_ok he (by simp [Op.operands]) ha⟩) hv
  · rename_i c a b
    unfold oPick at hv
    replace hv := Ev.bind_ok hv; obtain ⟨cv, hc, hv⟩ := hv
    have hcv := ov_ok he (by simp [Op.operands]) hc
    split at hv
    · rename_i cb
      replace hv := Ev.bind_ok hv; obtain ⟨t, ht, hv⟩ := hv
      have htest := test_ok hF ht
      simp only [VR] at hcv
      cases t
      · simp only [cond_false] at hv
        unfold oMove at hv
        have := nVQ_ok (s := pure (env b)) (P := P) (w := w) (fun a ha => ⟨env b, rfl, ov_ok he (by simp [Op.operands]) ha⟩) hv
        simpa [hcv, asBool, htest] using this
      · simp only [_root_.cond_true] at hv
        unfold oMove at hv
        have := nVQ_ok (s := pure (env a)) (P := P) (w := w) (fun a ha => ⟨env _, rfl, ov_ok he (by simp [Op.operands]) ha⟩) hv
        simpa [hcv, asBool, htest] using this
    · cases hv
  · -- build
    rename_i t ps
    unfold oBuild at hv
    replace hv := Ev.bind_ok hv; obtain ⟨qs, hq, hv⟩ := hv
    have hq := parts_ok (ρ := ρ) (φ := φ) (env := env) (by simpa [Op.operands] using he) (Ev.ofOpt_ok hq)
    exact nVQ_ok (fun a ha => buildA_ok hC (by simpa using hq) ha) hv
  · -- load
    unfold oLoad at hv
    replace hv := Ev.bind_ok hv; obtain ⟨a, ha, hv⟩ := hv
    have hav := ov_ok he (by simp [Op.operands]) ha
    exact nVQ_ok (fun a ha => loadAt_ok hC hF hw hav ha) hv
  · -- nilCheck
    unfold oNilCheck at hv
    replace hv := Ev.bind_ok hv; obtain ⟨a, ha, hv⟩ := hv
    have hav := ov_ok he (by simp [Op.operands]) ha
    unfold nilCheckA at hv
    split at hv
    · cases hv
      have hav' := hav
      simp only [VR] at hav; obtain ⟨L, hL, hx⟩ := hav
      rw [hx]
      exact ⟨_, _, rfl, rfl, by rw [← hx]; exact hav'⟩
    · cases hv
      have hav' := hav
      simp only [VR] at hav; obtain ⟨L, hL, _, hx⟩ := hav
      rw [hx]
      exact ⟨_, _, rfl, rfl, by rw [← hx]; exact hav'⟩
    · split at hv
      · cases hv
        have hav' := hav
        simp only [VR] at hav; obtain ⟨g, x, y, hx, hg, _⟩ := hav
        have hg : g = .func _ := hg
        subst hg
        rw [hx]
        exact ⟨_, _, rfl, rfl, by rw [← hx]; exact hav'⟩
      · cases hv
    · cases hv
  · -- binOp
    unfold oBinOp at hv
    replace hv := Ev.bind_ok hv; obtain ⟨a, ha, hv⟩ := hv
    replace hv := Ev.bind_ok hv; obtain ⟨x, hx, hv⟩ := hv
    have hav := ov_ok he (by simp [Op.operands]) ha
    have hxv := ov_ok he (by simp [Op.operands]) hx
    exact nVQ_ok (fun a ha => binOpA_ok hC hF hav hxv ha) hv
  · unfold oUnOp at hv
    replace hv := Ev.bind_ok hv; obtain ⟨a, ha, hv⟩ := hv
    have hav := ov_ok he (by simp [Op.operands]) ha
    exact nVQ_ok (fun a ha => unOpA_ok hF hav ha) hv
  · unfold oConvert at hv
    replace hv := Ev.bind_ok hv; obtain ⟨a, ha, hv⟩ := hv
    have hav := ov_ok he (by simp [Op.operands]) ha
    exact nVQ_ok (fun a ha => convertA_ok hC hF hw hav ha) hv
  · -- makeInterface
    unfold oMakeI at hv
    replace hv := Ev.bind_ok hv; obtain ⟨a, ha, hv⟩ := hv
    replace hv := Ev.bind_ok hv; obtain ⟨rt, hrt, hv⟩ := hv
    have hav := ov_ok he (by simp [Op.operands]) ha
    have hund := run_under hC (row_ok hrt) w
    split at hv
    · cases hv
    · rename_i hni
      cases hv
      refine ⟨_, .iface _ (env _), rfl, run_val ?_, by simp only [VR]; exact ⟨_, rfl, hav⟩⟩
      simp only [Instr.makeInterface, Sem.run_bind, hund, Result.andThen_ok]
      first | (simp; done) | (split <;> simp_all)
  · -- makeFunc
    rename_i fn fa fb
    unfold oMakeF at hv
    cases hy : isYield fn
    rotate_left
    · rw [hy] at hv; cases hv
    rw [hy] at hv
    simp only [cond_false] at hv
    replace hv := Ev.bind_ok hv; obtain ⟨a, ha, hv⟩ := hv
    replace hv := Ev.bind_ok hv; obtain ⟨b, hb, hv⟩ := hv
    cases hv
    have h1 := opnds_ok (ρ := ρ) (φ := φ) (env := env) (fun x hx => he x (by simp only [Op.operands, Array.toList_append, List.mem_append]; exact .inl hx)) (Ev.ofOpt_ok ha)
    have h2 := opnds_ok (ρ := ρ) (φ := φ) (env := env) (fun x hx => he x (by simp only [Op.operands, Array.toList_append, List.mem_append]; exact .inr hx)) (Ev.ofOpt_ok hb)
    have e1 : fa.map env = ⟨fa.toList.map env⟩ := by apply Array.ext'; simp
    have e2 : fb.map env = ⟨fb.toList.map env⟩ := by apply Array.ext'; simp
    rw [e1, e2]
    refine ⟨_, .func fn ⟨fa.toList.map env⟩ ⟨fb.toList.map env⟩, rfl, rfl, ?_⟩
    simp only [VR]
    refine ⟨fn, _, _, rfl, ?_, h1, h2⟩
    cases fn with
    | yield l => cases hy
    | _ => rfl
  · -- slice
    unfold oSlice at hv
    replace hv := Ev.bind_ok hv; obtain ⟨a, ha, hv⟩ := hv
    replace hv := Ev.bind_ok hv; obtain ⟨lo, hlo, hv⟩ := hv
    replace hv := Ev.bind_ok hv; obtain ⟨hi, hhi, hv⟩ := hv
    replace hv := Ev.bind_ok hv; obtain ⟨mx, hmx, hv⟩ := hv
    have hav := ov_ok he (by simp [Op.operands]) ha
    have h1 := ovo_ok he (fun y hy => by subst hy; simp [Op.operands]) hlo
    have h2 := ovo_ok he (fun y hy => by subst hy; simp [Op.operands]) hhi
    have h3 := ovo_ok he (fun y hy => by subst hy; simp [Op.operands]) hmx
    exact nVQ_ok (fun a ha => sliceOf_ok hC hF hw hav h1 h2 h3 ha) hv
  · -- fieldAddr
    unfold oFieldAddr at hv
    replace hv := Ev.bind_ok hv; obtain ⟨a, ha, hv⟩ := hv
    have hav := ov_ok he (by simp [Op.operands]) ha
    exact nVQ_ok (fun a ha => fieldAt_ok hC hav ha) hv
  · unfold oField at hv
    replace hv := Ev.bind_ok hv; obtain ⟨a, ha, hv⟩ := hv
    have hav := ov_ok he (by simp [Op.operands]) ha
    exact nVQ_ok (fun a ha => fieldOf_ok hC hav ha) hv
  · unfold oIndexAddr at hv
    replace hv := Ev.bind_ok hv; obtain ⟨a, ha, hv⟩ := hv
    replace hv := Ev.bind_ok hv; obtain ⟨x, hx, hv⟩ := hv
    have hav := ov_ok he (by simp [Op.operands]) ha
    have hxv := ov_ok he (by simp [Op.operands]) hx
    exact nVQ_ok (fun a ha => indexAddr_ok hC hF hav hxv ha) hv
  · unfold oIndex at hv
    replace hv := Ev.bind_ok hv; obtain ⟨a, ha, hv⟩ := hv
    replace hv := Ev.bind_ok hv; obtain ⟨x, hx, hv⟩ := hv
    have hav := ov_ok he (by simp [Op.operands]) ha
    have hxv := ov_ok he (by simp [Op.operands]) hx
    exact nVQ_ok (fun a ha => indexOf_ok hC hF hav hxv ha) hv
  · unfold oAssert at hv
    replace hv := Ev.bind_ok hv; obtain ⟨a, ha, hv⟩ := hv
    have hav := ov_ok he (by simp [Op.operands]) ha
    exact nVQ_ok (fun a ha => typeAssertA_ok hC hav ha) hv
  · -- extract
    unfold oExtract at hv
    replace hv := Ev.bind_ok hv; obtain ⟨a, ha, hv⟩ := hv
    have hav := ov_ok he (by simp [Op.operands]) ha
    unfold extractA at hv
    split at hv
    · split at hv
      · rename_i hget
        cases hv
        simp only [VR] at hav; obtain ⟨xs, hx, hvs⟩ := hav
        obtain ⟨y, hy, hyv⟩ := VRs.get hvs _ _ hget
        refine ⟨_, y, rfl, run_val ?_, hyv⟩
        rw [hx]
        simp [Instr.extract, hy]
      · cases hv
    · cases hv
  · -- call
    rename_i c
    dsimp only at hq
    split at hq
    · rename_i b hcal
      unfold oCall at hv
      replace hv := Ev.bind_ok hv; obtain ⟨args, hargs, hv⟩ := hv
      have hargs := Ev.ofOpt_ok hargs
      have he2 : EvR ρ φ tm env c.operands.toList := by simpa [Op.operands] using he
      have hvs := opnds_ok (ρ := ρ) (φ := φ) (env := env) (fun x hx => he2 x (by simp only [Call.operands, Array.toList_append, List.mem_append]; exact .inr hx)) hargs
      rw [hcal] at hv
      dsimp only at hv
      have e : (⟨c.args.toList.map env⟩ : Array Value) = c.args.map env := by apply Array.ext'; simp
      have hr : ∃ cs, ∀ w, (do let d ← resolve env c o.type; invoke d.target d.args : Sem Next).run P w = (builtin b c.argTypes o.type cs (c.args.map env)).run P w := by
        refine ⟨?cs, fun w => ?_⟩
        rotate_left
        · simp only [resolve, hcal, Sem.run_bind, Sem.run_pure, Result.andThen_ok, invoke]
          rfl
      obtain ⟨cs, hr⟩ := hr
      have := quietBuiltin_ok (P := P) (ty := o.type) (cs := cs) hC hF hw hq hvs hv
      rw [e] at this
      obtain ⟨v, z, h1, h2, h3⟩ := this
      exact ⟨v, z, h1, by rw [hr]; exact h2, h3⟩
    · cases hq
include hC hF hw in
theorem quietA_op {o : Oper} {r : ANext} (hq : isE o = false) (he : EvR ρ φ tm env o.op.operands.toList) (hr : opA C F h tm o.op = .ok r) : QuietG P ρ φ h w r (execOp env o) := by
  have hb : opB C F h tm o.op = .ok r := by
    unfold opA at hr
    split at hr
    · rename_i x hx
      unfold isE at hq; rw [hx] at hq; cases hq
    · cases hb : opB C F h tm o.op <;> rw [hb] at hr <;> simp [still] at hr
      rw [hr]
  exact quietB_ok hC hF hw hq he hb
end
end Go.Sx
