import Derived.Test.YtanpkoghglnphaaGreatDoorSuI
import Derived.Test.YtanpkoghglnphaaGreatDoorPost
import Derived.WideShapes
import Derived.Carry
import Derived.Lib.LaidTab
namespace Go.Proofs.YtanpkoghglnphaaGreatDoor
set_option maxRecDepth 100000
open Go.ChangeMaps Go.ChangeShapes Go.WideShapes Go.ChangeAt Go.RowKit Go.Sx
/-- the table that strconv reads is laid -/
theorem tab_of_laid {W : World} (hL : laidMet Tryz.prog Rows.expandSumsRow.laid W) : Lib.TabIs Tryz.prog W "internal/strconv.uint64pow10" .u64 Lib.pow10Tab := by
  obtain ⟨ps, h0, _⟩ := hL
  obtain ⟨_, _, _, _, _, _, _, _, _, _, h1, _⟩ := h0
  obtain ⟨_, _, _, _, _, _, _, _, _, _, h2, _⟩ := h1
  obtain ⟨g', t', cs, fuel, p, q, hg', ht', hvar, hd, _, _⟩ := h2
  have hg : Tryz.prog.globalNamed "internal/strconv.uint64pow10" = some 1 := by kernel_rfl
  obtain rfl := Option.some.inj (hg.symm.trans hg')
  have hty : (Tryz.prog.globals[1]?).map (·.type) = some 218 := by kernel_rfl
  obtain rfl := Option.some.inj (hty.symm.trans ht')
  have ht : Tryz.prog.underlying 218 = some (.array 20 88) := by kernel_rfl
  have he : Tryz.prog.underlying 88 = some (.int .u64) := by kernel_rfl
  have hce : Tryz.prog.cellsOf 88 = 1 := by kernel_rfl
  have hct : Tryz.prog.cellsOf 218 = 20 := by kernel_rfl
  have hd' : DataW.trod (fun _ => ()) Tryz.prog W 0 (fun _ => true) false fuel 218 cs.toList = some (Lib.tabData .u64 Lib.pow10Tab, p) := hd
  unfold Lib.TabIs
  rw [hvar, ← Lib.cells_of_tab ht he hce hct hd']
theorem i64_wf {n : Int} (h : (Lit.int .i64 n).wf = true) : -9223372036854775808 ≤ n ∧ n ≤ 9223372036854775807 := by
  simp [Lit.wf, IntKind.min, IntKind.max, IntKind.signed, IntKind.bits] at h; omega
theorem contract8 (H : Type) (enc : TypeId × Value → H) (W : World) (base : Nat) (args : Array Value) (ds gs : List (DataW H)) (before : List MemPlace)
    (hval : ∀ (j : Nat) t v, Tryz.f8.params[j]? = some t → args[j]? = some v → Value.okWide Tryz.prog W .any base t v)
    (hL : laidMet Tryz.prog Rows.expandSumsRow.laid W)
    (hW : DataW.Whole enc Tryz.prog Tryz.f8.params.toList Rows.expandSumsSpec.vars false W args.toList ds gs before) :
    Calls Tryz.prog 8 args W fun e W' => ∃ v, e = .returned v ∧ Rows.expandSumsSpec.post enc Tryz.prog Tryz.f8 false true false false W args v W' := by
  have hW' := hW
  obtain ⟨p, q, hA0, hV, rfl, hfz, hnd⟩ := hW
  have hA : DataW.TrodAll enc Tryz.prog W 0 (fun _ => true) true Tryz.f8.params.toList args.toList ds p := hA0
  rw [Tryz.params8] at hA hval
  obtain ⟨v0, vs0, d0, ds0, p0, q0, ha0, rfl, rfl, h0, r0⟩ := trodAll_cons hA
  obtain ⟨v1, vs1, d1, ds1, p1, q1, rfl, rfl, rfl, h1, r1⟩ := trodAll_cons r0
  obtain ⟨v2, vs2, d2, ds2, p2, q2, rfl, rfl, rfl, h2, r2⟩ := trodAll_cons r1
  obtain ⟨rfl, rfl, rfl⟩ := trodAll_nil r2
  obtain rfl : args = #[v0, v1, v2] := by cases args; simp_all
  obtain ⟨rfl, rfl⟩ := trodVars_none hV
  obtain ⟨x, rfl, rfl, rfl, hx⟩ := open_int Tryz.underlying2 (hval 0 2 v0 rfl rfl) h0
  obtain ⟨y, rfl, rfl, rfl, hy⟩ := open_int Tryz.underlying2 (hval 1 2 v1 rfl rfl) h1
  obtain ⟨s, rfl, rfl, rfl⟩ := open_bool Tryz.underlying4 (hval 2 4 v2 rfl rfl) h2
  clear hA0
  have fin : ∀ W', Kept W W' → Rows.expandSumsSpec.post enc Tryz.prog Tryz.f8 false true false false W #[.int .i64 x, .int .i64 y, .bool s] (.bool true) W' := fun W' hk =>
    post_of_kept (pa := [] ++ ([] ++ ([] ++ []))) (pv := []) hW' (fun _ _ _ => trodAll_cons_mk (shut_bool Tryz.underlying4 _) trodAll_mk0)
      (fun sp hsp => trodAll_cons_mk (shut_int Tryz.underlying2 hx) (trodAll_cons_mk (shut_int Tryz.underlying2 hy) (trodAll_cons_mk (shut_bool Tryz.underlying4 _) trodAll_mk0)))
      (fun _ _ => rfl) rfl hk (ok_one (by kernel_rfl) rfl (okWide_bool_mk Tryz.underlying4 _))
  obtain ⟨x0, x1⟩ := i64_wf hx
  obtain ⟨y0, y1⟩ := i64_wf hy
  exact (sums_ok x0 x1 y0 y1 s (tab_of_laid hL)).mono fun e W' ⟨he, hk⟩ => ⟨_, he, fin W' hk⟩
end Go.Proofs.YtanpkoghglnphaaGreatDoor
