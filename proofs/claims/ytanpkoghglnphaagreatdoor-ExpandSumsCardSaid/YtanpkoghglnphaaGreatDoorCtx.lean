import Derived.Test.YtanpkoghglnphaaGreatDoorSxH
import Derived.Test.YtanpkoghglnphaaGreatDoorProg
import Derived.KernelRfl
namespace Go.Sx
open Go.Proofs
set_option maxRecDepth 1000000
theorem num18 : Tryz.prog.funcs.toList.all (fun f => f.body.isNone || !(f.name == "runtime.NumGoroutine")) = true := by kernel_rfl
theorem und18 : (List.range Tryz.prog.types.size).all (fun t => (Tryz.prog.underlying t).isSome) = true := by kernel_rfl
theorem mix18 : Tryz.prog.follows .mixedOrders = true := by kernel_rfl
theorem lie1 (k : Nat) : liesAt Tryz.prog Tryz.prog.depth 70 (k + 1) 0 70 1 = true := by kernel_rfl
theorem lie2 (k : Nat) : liesAt Tryz.prog Tryz.prog.depth 72 (k + 1) 1 70 1 = true := by kernel_rfl
theorem a61 : Tryz.prog.funcs[61]? = some ((Tryz.prog.funcs[61]?).getD default) := by kernel_rfl
theorem b61 : (((Tryz.prog.funcs[61]?).getD default).name == "runtime.NumGoroutine") = false := by kernel_rfl
theorem c61 : ((Tryz.prog.funcs[61]?).getD default).body = none := by kernel_rfl
theorem d61 : Extern.findNext ((Tryz.prog.funcs[61]?).getD default) = none := by kernel_rfl
theorem a76 : Tryz.prog.funcs[76]? = some ((Tryz.prog.funcs[76]?).getD default) := by kernel_rfl
theorem b76 : (((Tryz.prog.funcs[76]?).getD default).name == "runtime.NumGoroutine") = false := by kernel_rfl
theorem c76 : ((Tryz.prog.funcs[76]?).getD default).body = none := by kernel_rfl
theorem d76 : Extern.findNext ((Tryz.prog.funcs[76]?).getD default) = none := by kernel_rfl
theorem e76 : Extern.find ((Tryz.prog.funcs[76]?).getD default) = some Extern.AbiNoEscape.same := by kernel_rfl
theorem a92 : Tryz.prog.funcs[92]? = some ((Tryz.prog.funcs[92]?).getD default) := by kernel_rfl
theorem b92 : (((Tryz.prog.funcs[92]?).getD default).name == "runtime.NumGoroutine") = false := by kernel_rfl
theorem c92 : ((Tryz.prog.funcs[92]?).getD default).body = none := by kernel_rfl
theorem d92 : Extern.findNext ((Tryz.prog.funcs[92]?).getD default) = none := by kernel_rfl
theorem e92 : Extern.find ((Tryz.prog.funcs[92]?).getD default) = some Extern.BytealgIndexByte.indexByte := by kernel_rfl
theorem a95 : Tryz.prog.funcs[95]? = some ((Tryz.prog.funcs[95]?).getD default) := by kernel_rfl
theorem b95 : (((Tryz.prog.funcs[95]?).getD default).name == "runtime.NumGoroutine") = false := by kernel_rfl
theorem c95 : ((Tryz.prog.funcs[95]?).getD default).body = none := by kernel_rfl
theorem d95 : Extern.findNext ((Tryz.prog.funcs[95]?).getD default) = none := by kernel_rfl
theorem e95 : Extern.find ((Tryz.prog.funcs[95]?).getD default) = some Extern.BytealgCompare.compare := by kernel_rfl
theorem a164 : Tryz.prog.funcs[164]? = some ((Tryz.prog.funcs[164]?).getD default) := by kernel_rfl
theorem b164 : (((Tryz.prog.funcs[164]?).getD default).name == "runtime.NumGoroutine") = false := by kernel_rfl
theorem c164 : ((Tryz.prog.funcs[164]?).getD default).body = none := by kernel_rfl
theorem d164 : Extern.findNext ((Tryz.prog.funcs[164]?).getD default) = none := by kernel_rfl
theorem e164 : Extern.find ((Tryz.prog.funcs[164]?).getD default) = some Extern.BytealgCount.count := by kernel_rfl
theorem e61 : Extern.find ((Tryz.prog.funcs[61]?).getD default) = some (Extern.SlicesOverlaps.overlaps #[25, 25] #[4]) := by kernel_rfl
theorem u25 : Tryz.prog.underlying 25 = some (.slice 61) := by kernel_rfl
theorem i61 : Tryz.prog.info? 61 = some ((Tryz.prog.info? 61).getD default) := by kernel_rfl
noncomputable def lies18 : List (Nat × Nat × Nat) := [(70, 0, 70), (72, 1, 70)]
noncomputable def exts18 : List (Nat × Ext) := [(61, .overlaps), (76, .noEscape), (92, .indexByteString), (95, .cmpstring), (164, .countString)]
theorem dep18 : ∃ d, Tryz.prog.depth = d + 1 := ⟨_, rfl⟩
theorem ctx18 {ρ : Env} {orc : List Orc} {por : List POrc} (horc : ∀ o ∈ orc, OrcOK Tryz.prog ρ o) (hpor : ∀ o ∈ por, POrcOK Tryz.prog ρ o) : CtxOK (ctxOf Tryz.prog lies18 exts18 orc por) Tryz.prog ρ := by
  refine ctxOf_ok ?_ num18 und18 ?_ mix18 dep18 horc hpor
  · intro f e h
    simp only [exts18, List.mem_cons, Prod.mk.injEq, List.not_mem_nil, or_false] at h
    rcases h with ⟨rfl, rfl⟩ | ⟨rfl, rfl⟩ | ⟨rfl, rfl⟩ | ⟨rfl, rfl⟩ | ⟨rfl, rfl⟩
    · exact ⟨_, _, a61, b61, c61, d61, e61, 25, 4, 61, _, rfl, u25, i61⟩
    · exact ⟨_, _, a76, b76, c76, d76, e76, rfl⟩
    · exact ⟨_, _, a92, b92, c92, d92, e92, rfl⟩
    · exact ⟨_, _, a95, b95, c95, d95, e95, rfl⟩
    · exact ⟨_, _, a164, b164, c164, d164, e164, rfl⟩
  · intro e o t h count hc
    obtain ⟨k, rfl⟩ : ∃ k, count = k + 1 := ⟨count - 1, by omega⟩
    simp only [lies18, List.mem_cons, Prod.mk.injEq, List.not_mem_nil, or_false] at h
    rcases h with ⟨rfl, rfl, rfl⟩ | ⟨rfl, rfl, rfl⟩
    · exact lie1 k
    · exact lie2 k
end Go.Sx
namespace Go.Sx
open Go.Proofs
def pl0 : Pl := fun g => if g < 64 then some ⟨g, 0, 20⟩ else none
theorem glob0 : Glob pl0 := fun g hg => by simp [pl0, hg]
theorem wr0 (ρ : Env) (W : World) : WR ρ pl0 (heapOf' [] 64) W := by
  refine ⟨(fun i b h => by cases h), (fun i j b c L M h => by cases h), fun i hi => ?_, fun i b L h => by cases h⟩
  have hi : 64 ≤ i := hi
  have : ¬ i < 64 := by omega
  simp [pl0, this]
theorem kept0 {o : Orc} {P : Program} {ρ : Env} (ho : OrcOK P ρ o) (hpre : o.pre = []) (hnext : o.next = 64) (hv : o.v = .bool (.lit true)) (hF : o.facts.ok ρ) {xs : List Value} (ha : VRs ρ pl0 o.args xs) (W : World) :
    Calls P o.f ⟨xs⟩ W fun e W' => e = .returned (.bool true) ∧ Kept W W' := by
  have h := ho.calls pl0 W xs (by rw [hpre, hnext]; exact wr0 ρ W) glob0 hF ha
  refine h.mono fun e W' ⟨φ', z, he, hz, hev⟩ => ?_
  rw [hv] at hz
  simp only [VR, SB.den] at hz
  subst hz
  refine ⟨he, hev.kept fun b ⟨id, bb, L, h1, _⟩ => ?_⟩
  rw [hpre] at h1
  cases h1
def envS (v : List UInt8) : Env := { int := fun _ => 0, str := fun _ => v, boo := fun _ => false, rows := fun _ => [] }
theorem str0 (v : ByteArray) (φ : Pl) : VR (envS v.data.toList) φ (.str [.var 0]) (.string v) := by
  simp only [VR, SS.den, SP.den, List.append_nil]
  rfl
theorem strE (ρ : Env) (φ : Pl) : VR ρ φ (.str []) (.string ⟨⟨[]⟩⟩) := by
  simp only [VR, SS.den]
theorem boo0 (ρ : Env) (φ : Pl) (b : Bool) : VR ρ φ (.bool (.lit b)) (.bool b) := by simp only [VR, SB.den]
def env (ints : List Int) (strs : List (List UInt8)) : Env := { int := fun i => ints.getD i 0, str := fun i => strs.getD i [], boo := fun _ => false, rows := fun _ => [] }
theorem str0' {ints : List Int} {l : List (List UInt8)} (v : ByteArray) {φ : Pl} : VR (env ints (v.data.toList :: l)) φ (.str [.var 0]) (.string v) := by
  simp only [VR, SS.den, SP.den, List.append_nil]
  rfl
/-- a graph's result, where nothing was owned ahead -/
theorem kept_of {J : Env → Prop} {v : AV} {h' : Heap} {N : Nat} {w w' : World} {e : Ending} {z0 : Value} (h : ∃ ρ' ψ z, e = .returned z ∧ J ρ' ∧ VR ρ' ψ v z ∧ WR ρ' ψ h' w' ∧ EvoN N pl0 ⟨.nil, 64⟩ w ψ h' w') (hz : ∀ ρ' ψ z, J ρ' → VR ρ' ψ v z → z = z0) (hh : h' = ⟨.nil, 64⟩) :
    e = .returned z0 ∧ Kept w w' := by
  obtain ⟨ρ', ψ, z, he, hJ, hv, _, hev⟩ := h
  refine ⟨by rw [he, hz _ _ _ hJ hv], ⟨fun b hb => hev.keep b hb (fun ⟨_, _, _, h1, _⟩ => by cases h1), hev.same, hev.size⟩⟩
end Go.Sx
