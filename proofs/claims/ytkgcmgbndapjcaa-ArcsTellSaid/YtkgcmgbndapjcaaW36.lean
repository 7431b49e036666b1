/- Contracts: a greatest matching. -/
import Derived.Test.YtkgcmgbndapjcaaW35
namespace Go.Am
open Go Go.Proofs
set_option linter.unusedVariables false
set_option linter.unusedSimpArgs false
variable {w0 : World}
attribute [local irreducible] AWP ACalls
attribute [local congr] acalls_congr

theorem labI_rep (n : Nat) (x : Int) : (List.replicate n x).map I = labI n (fun _ => x) := by
  rw [labI, List.map_replicate]
  have : (upto n).length = n := upto_length n
  generalize upto n = l at this
  subst this
  induction l with
  | nil => rfl
  | cons a l ih => simp only [List.length_cons, List.replicate_succ, List.map_cons, ih]
theorem labB_rep (n : Nat) (x : Bool) : List.replicate n (B x) = labB n (fun _ => x) := by
  rw [labB]
  have : (upto n).length = n := upto_length n
  generalize upto n = l at this
  subst this
  induction l with
  | nil => rfl
  | cons a l ih => simp only [List.length_cons, List.replicate_succ, List.map_cons, ih]

/-- The matching's blocks, with anything for what is seen. -/
def mf (H : Heap) (F L R : Nat) (adj : List (List Int)) (m : Nat) (f g : Int → Int) (z : AV) : Heap :=
  upd (upd (upd H L (some (.arr 1 3 (labI adj.length f) adj.length))) R (some (.arr 1 3 (labI m g) m))) F (some (.box [rows adj, .ref L 0 adj.length adj.length, .ref R 0 m m, z]))
structure Dt (H : Heap) (F L R : Nat) : Prop where
  lr : L ≠ R
  lf : L ≠ F
  rf : R ≠ F
  hF : H F = none
  hL : H L = none
  hR : H R = none
section
variable {H : Heap} {F L R S m : Nat} {adj : List (List Int)} {f g : Int → Int} {s : Int → Bool} {z : AV} (d : Dt H F L R)
theorem mf_F : mf H F L R adj m f g z F = some (.box [rows adj, .ref L 0 adj.length adj.length, .ref R 0 m m, z]) := by simp [mf]
include d
theorem mf_R : mf H F L R adj m f g z R = some (.arr 1 3 (labI m g) m) := by simp [mf, d.rf]
theorem mf_L : mf H F L R adj m f g z L = some (.arr 1 3 (labI adj.length f) adj.length) := by simp [mf, d.lf, d.lr]
theorem mf_none (h : mf H F L R adj m f g z S = none) : S ≠ F ∧ S ≠ L ∧ S ≠ R ∧ H S = none := by
  unfold mf at h
  by_cases e1 : S = F
  · subst e1; simp [upd_same] at h
  rw [upd_ne _ _ _ e1] at h
  by_cases e2 : S = R
  · subst e2; simp [upd_same] at h
  rw [upd_ne _ _ _ e2] at h
  by_cases e3 : S = L
  · subst e3; simp [upd_same] at h
  rw [upd_ne _ _ _ e3] at h
  exact ⟨e1, e3, e2, h⟩
theorem mf_sub : Sub H (mf H F L R adj m f g z) := (((Sub.refl H).upd d.hL _).upd d.hR _).upd d.hF _
theorem Dt.ds (h : mf H F L R adj m f g z S = none) : Ds F L R S := by
  obtain ⟨a, b, c, e⟩ := mf_none d h
  exact ⟨d.lr, d.lf, Ne.symm b, d.rf, Ne.symm c, Ne.symm a⟩
theorem mf_ms (h : mf H F L R adj m f g z S = none) : upd (upd (mf H F L R adj m f g z) S (some (.arr 1 4 (labB m s) m))) F (some (.box [rows adj, .ref L 0 adj.length adj.length, .ref R 0 m m, .ref S 0 m m])) = ms H F L R S adj m f g s := by
  obtain ⟨a, b, c, e⟩ := mf_none d h
  unfold mf ms
  rw [upd_comm _ _ _ a, upd_upd]
theorem ms_sub (h : mf H F L R adj m f g z S = none) {f' g' : Int → Int} {s' : Int → Bool} : Sub (mf H F L R adj m f' g' (.ref S 0 m m)) (ms H F L R S adj m f' g' s') := by
  obtain ⟨a, b, c, e⟩ := mf_none d h
  have : mf H F L R adj m f' g' (.ref S 0 m m) S = none := by
    unfold mf
    rw [upd_ne _ _ _ a, upd_ne _ _ _ c, upd_ne _ _ _ b, e]
  exact sub_new this
end

end Go.Am
