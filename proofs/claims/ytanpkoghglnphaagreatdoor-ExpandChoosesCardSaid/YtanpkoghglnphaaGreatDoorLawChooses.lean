import Derived.Test.YtanpkoghglnphaaGreatDoorChoose
namespace Go.Sx
open Go.Proofs
def pl0 : Pl := fun g => if g < 64 then some ⟨g, 0, 0⟩ else none
theorem glob0 : Glob pl0 := fun g hg => ⟨0, by simp [pl0, hg]⟩
theorem wr0 (ρ : Env) (W : World) : WR ρ pl0 (heapOf' [] 64) W := by
  refine ⟨(fun i b h => by cases h), (fun i j b c L M h => by cases h), fun i hi => ?_, fun i b L h => by cases h⟩
  have hi : 64 ≤ i := hi
  have : ¬ i < 64 := by omega
  simp [pl0, this]
theorem kept0 {o : Orc} {P : Program} {ρ : Env} (ho : OrcOK P ρ o) (hpre : o.pre = []) (hnext : o.next = 64) (hv : o.v = .bool (.lit true)) (hF : o.facts.ok ρ) {xs : List Value} (ha : VRs ρ pl0 o.args xs) (W : World) :
    Calls P o.f ⟨xs⟩ W fun e W' => e = .returned (.bool true) ∧ Kept W W' := by
  have h := ho.calls pl0 W xs (by rw [hpre, hnext]; exact wr0 ρ W) glob0 hF ha
  refine h.mono fun e W' ⟨φ', z, he, hz, hev⟩ => ?_
  rw [hv] at hz
  simp only [VR, SB.den] at hz
  subst hz
  refine ⟨he, hev.kept fun b ⟨id, bb, L, h1, _⟩ => ?_⟩
  rw [hpre] at h1
  cases h1
def envS (v : List UInt8) : Env := { int := fun _ => 0, str := fun _ => v, boo := fun _ => false, rows := fun _ => [] }
theorem str0 (v : ByteArray) (φ : Pl) : VR (envS v.data.toList) φ (.str [.var 0]) (.string v) := by
  simp only [VR, SS.den, SP.den, List.append_nil]
  rfl
theorem strE (ρ : Env) (φ : Pl) : VR ρ φ (.str []) (.string ⟨⟨[]⟩⟩) := by
  simp only [VR, SS.den]
theorem boo0 (ρ : Env) (φ : Pl) (b : Bool) : VR ρ φ (.bool (.lit b)) (.bool b) := by simp only [VR, SB.den]
theorem chooses (v : ByteArray) (set ro : Bool) (W : World) : Calls Tryz.prog 4 #[.string v, .bool set, .bool ro] W fun e W' => e = .returned (.bool true) ∧ Kept W W' := by
  have nf : Facts.ok (envS v.data.toList) [] := fun p hp => by cases hp
  have e0 : v.data.toList.length = v.size := by simp
  cases set with
  | false =>
    cases ro with
    | false => exact kept0 ca5_ok rfl rfl rfl nf (VRs.cons (str0 v _) (VRs.cons (boo0 _ _ _) (VRs.cons (boo0 _ _ _) VRs.nil))) W
    | true => exact kept0 cb5_ok rfl rfl rfl nf (VRs.cons (str0 v _) (VRs.cons (boo0 _ _ _) (VRs.cons (boo0 _ _ _) VRs.nil))) W
  | true =>
    by_cases hlong : 1024 < v.data.toList.length
    · have hf : Facts.ok (envS v.data.toList) [(.cmp .gtr (.slen 0) (.lit 1024), true)] := fun p hp => by
        simp only [List.mem_singleton] at hp; subst hp
        simp [SB.den, SI.den, envS, intCmp, ltInt_iff]
        omega
      cases ro with
      | false => exact kept0 cc0_ok rfl rfl rfl hf (VRs.cons (str0 v _) (VRs.cons (boo0 _ _ _) (VRs.cons (boo0 _ _ _) VRs.nil))) W
      | true => exact kept0 cd0_ok rfl rfl rfl hf (VRs.cons (str0 v _) (VRs.cons (boo0 _ _ _) (VRs.cons (boo0 _ _ _) VRs.nil))) W
    · by_cases hemp : v.data.toList = []
      · have hv : v = ⟨⟨[]⟩⟩ := by
          apply ByteArray.ext; apply Array.ext'; simpa using hemp
        subst hv
        cases ro with
        | false => exact kept0 ce5_ok rfl rfl rfl (ρ := envS []) (fun p hp => by cases hp) (VRs.cons (strE _ _) (VRs.cons (boo0 _ _ _) (VRs.cons (boo0 _ _ _) VRs.nil))) W
        | true => exact kept0 cf5_ok rfl rfl rfl (ρ := envS []) (fun p hp => by cases hp) (VRs.cons (strE _ _) (VRs.cons (boo0 _ _ _) (VRs.cons (boo0 _ _ _) VRs.nil))) W
      · have hpos : 1 ≤ v.data.toList.length := by
          cases h : v.data.toList with
          | nil => exact absurd h hemp
          | cons a l => simp
        have hf : Facts.ok (envS v.data.toList) [(.cmp .gtr (.slen 0) (.lit 1024), false), (.cmp .leq (.lit 1) (.slen 0), true)] := fun p hp => by
          simp only [List.mem_cons, List.not_mem_nil, or_false] at hp
          rcases hp with rfl | rfl
          · simp [SB.den, SI.den, envS, intCmp, ltInt_iff]; omega
          · simp [SB.den, SI.den, envS, intCmp, ltInt_iff]; omega
        cases ro with
        | false => exact kept0 cg5_ok rfl rfl rfl hf (VRs.cons (str0 v _) (VRs.cons (boo0 _ _ _) (VRs.cons (boo0 _ _ _) VRs.nil))) W
        | true => exact kept0 ch5_ok rfl rfl rfl hf (VRs.cons (str0 v _) (VRs.cons (boo0 _ _ _) (VRs.cons (boo0 _ _ _) VRs.nil))) W
end Go.Sx
