/- Contracts: a greatest matching. -/
import Derived.Test.YtbcgjjkchmgeoaaW35
namespace Go.Am
open Go Go.Proofs
set_option linter.unusedVariables false
set_option linter.unusedSimpArgs false
variable {w0 : World}
attribute [local irreducible] AWP ACalls
attribute [local congr] acalls_congr

theorem labI_rep (n : Nat) (x : Int) : (List.replicate n x).map I = labI n (fun _ => x) := by
  rw [labI, List.map_replicate]
  have : (upto n).length = n := upto_length n
  generalize upto n = l at this
  subst this
  induction l with
  | nil => rfl
  | cons a l ih => simp only [List.length_cons, List.replicate_succ, List.map_cons, ih]
theorem labB_rep (n : Nat) (x : Bool) : List.replicate n (B x) = labB n (fun _ => x) := by
  rw [labB]
  have : (upto n).length = n := upto_length n
  generalize upto n = l at this
  subst this
  induction l with
  | nil => rfl
  | cons a l ih => simp only [List.length_cons, List.replicate_succ, List.map_cons, ih]

/-- The matching's blocks, with anything for what is seen. -/
def mf (H : Heap) (F L R : Nat) (adj : List (List Int)) (m : Nat) (f g : Int → Int) (z : AV) : Heap :=
  upd (upd (upd H L (some (.arr 1 3 (labI adj.length f) adj.length))) R (some (.arr 1 3 (labI m g) m))) F (some (.box [rows adj, .ref L 0 adj.length adj.length, .ref R 0 m m, z]))
structure Dt (H : Heap) (F L R : Nat) : Prop where
  lr : L ≠ R
  lf : L ≠ F
  rf : R ≠ F
  hF : H F = none
  hL : H L = none
  hR : H R = none
section
variable {H : Heap} {F L R S m : Nat} {adj : List (List Int)} {f g : Int → Int} {s : Int → Bool} {z : AV} (d : Dt H F L R)
theorem mf_F : mf H F L R adj m f g z F = some (.box [rows adj, .ref L 0 adj.length adj.length, .ref R 0 m m, z]) := by simp [mf]
include d
theorem mf_R : mf H F L R adj m f g z R = some (.arr 1 3 (labI m g) m) := by simp [mf, d.rf]
theorem mf_L : mf H F L R adj m f g z L = some (.arr 1 3 (labI adj.length f) adj.length) := by simp [mf, d.lf, d.lr]
theorem mf_none (h : mf H F L R adj m f g z S = none) : S ≠ F ∧ S ≠ L ∧ S ≠ R ∧ H S = none := by
  unfold mf at h
  by_cases e1 : S = F
  · subst e1; simp [upd_same] at h
  rw [upd_ne _ _ _ e1] at h
  by_cases e2 : S = R
  · subst e2; simp [upd_same] at h
  rw [upd_ne _ _ _ e2] at h
  by_cases e3 : S = L
  · subst e3; simp [upd_same] at h
  rw [upd_ne _ _ _ e3] at h
  exact ⟨e1, e3, e2, h⟩
theorem mf_sub : Sub H (mf H F L R adj m f g z) := (((Sub.refl H).upd d.hL _).upd d.hR _).upd d.hF _
theorem Dt.ds (h : mf H F L R adj m f g z S = none) : Ds F L R S := by
  obtain ⟨a, b, c, e⟩ := mf_none d h
  exact ⟨d.lr, d.lf, Ne.symm b, d.rf, Ne.symm c, Ne.symm a⟩
theorem mf_ms (h : mf H F L R adj m f g z S = none) : upd (upd (mf H F L R adj m f g z) S (some (.arr 1 4 (labB m s) m))) F (some (.box [rows adj, .ref L 0 adj.length adj.length, .ref R 0 m m, .ref S 0 m m])) = ms H F L R S adj m f g s := by
  obtain ⟨a, b, c, e⟩ := mf_none d h
  unfold mf ms
  rw [upd_comm _ _ _ a, upd_upd]
theorem ms_sub (h : mf H F L R adj m f g z S = none) {f' g' : Int → Int} {s' : Int → Bool} : Sub (mf H F L R adj m f' g' (.ref S 0 m m)) (ms H F L R S adj m f' g' s') := by
  obtain ⟨a, b, c, e⟩ := mf_none d h
  have : mf H F L R adj m f' g' (.ref S 0 m m) S = none := by
    unfold mf
    rw [upd_ne _ _ _ a, upd_ne _ _ _ c, upd_ne _ _ _ b, e]
  exact sub_new this
end

set_option maxHeartbeats 4000000 in
theorem greatest_use {H : Heap} {m : Nat} {adj : List (List Int)} (hG : GrM m adj) {K : AV → Heap → Prop}
    (k : ∀ F L R f g z, Dt H F L R → MInv m adj adj.length f g → K (.ptr F 0 0) (mf H F L R adj m f g z)) : ACalls Try.prog w0 80 [I m, rows adj] H K := by
  refine (?_ : ACalls Try.prog w0 80 [I m, rows adj] H (fun v H' => ∃ F L R f g z, Dt H F L R ∧ MInv m adj adj.length f g ∧ v = .ptr F 0 0 ∧ Sub (mf H F L R adj m f g z) H')).drop ?_
  rotate_left
  · rintro v H' ⟨F, L, R, f, g, z, d, hi, rfl, s⟩
    exact ⟨_, s, k F L R f g z d hi⟩
  clear k K
  have hn := hG.nle
  have hm := hG.mle
  refine w_enter Try.func80 rfl Try.ntmps80 (ts := [4]) rfl (by simp) (by kernel_rfl) ?_
  repeat' (first
    | (with_reducible refine awp_skip ?_)
    | (with_reducible refine then_any ?_)
    | (with_reducible refine then_ret ?_)
    | (with_reducible refine then_exit ?_)
    | (with_reducible refine inBlock_normal ?_)
    | (with_reducible refine inBlock_ret ?_)
    | (with_reducible refine inBlock_hit ?_)
    | (with_reducible refine inBlock_miss (by decide) ?_)
    | (with_reducible refine awp_ret ?_)
    | (with_reducible refine awp_exit ?_)
    | (with_reducible refine post_ret ?_)
    | (with_reducible refine post_normal ?_)
    | (with_reducible refine awp_block ?_)
    | (with_reducible refine v_reg [] (fun K hK => ?_))
    | (with_reducible refine v_reg1 [] (fun K hK => ?_))
    | (with_reducible refine v_draw mixed [] [] (by kernel_rfl) (fun K hK => ?_))
    | (with_reducible refine v_draw1 mixed [] [] (by kernel_rfl) (fun K hK => ?_))
    | (with_reducible refine ev_nil (hK _ _ ?_); clear hK K)
    | (with_reducible refine ed_nil (hK _ _ ?_); clear hK K)
    | ((first | with_reducible refine ev_cons (fun K' hK' => ?_) | with_reducible refine ed_cons (fun K' hK' => ?_) | (with_reducible refine ev_id ?_; refine ev_guard rfl (fun K' hK' => ?_)) | (with_reducible refine ed_id ?_; refine ed_guard rfl (fun K' hK' => ?_))); simp [rows]; repeat' (first | (with_reducible refine hK' _ _ ?_; clear hK' K') | ((with_reducible refine RetNew.use (repeat_new (x := -1) (n := adj.length) (by omega)) (fun L hL => ?_)); try simp [rows]) | ((with_reducible refine RetNew.use (repeat_new (x := -1) (n := m) (by omega)) (fun R hR => ?_)); try simp [rows]) | (with_reducible refine And.intro ?_ ?_) | (with_reducible intro hg) | (clear hK' K'; omega)))
    | (with_reducible refine w_cond (fun A B hA hB => ?_); simp [rows]; repeat' (first | (with_reducible refine hA ?_; clear hA hB A B) | (with_reducible refine hB ?_; clear hA hB A B) | (with_reducible refine And.intro ?_ ?_) | (with_reducible intro hc)))
    | (with_reducible refine awp_seq ?_))
  rename_i F
  have hRL : R ≠ L := by rintro rfl; simp at hR
  have hR0 : H R = none := by rw [upd_ne _ _ _ hRL] at hR; exact hR
  have hFR : F ≠ R := by rintro rfl; simp at hg
  have hFL : F ≠ L := by rintro rfl; simp [hFR] at hg
  have hF0 : H F = none := by
    rw [if_neg hFR, if_neg hFL] at hg
    exact hg
  clear hg hR
  have d : Dt H F L R := ⟨Ne.symm hRL, Ne.symm hFL, Ne.symm hFR, hF0, hL, hR0⟩
  refine awp_loop_prep (fun env h => ∃ (i : Nat) (f g : Int → Int) (z : AV), i ≤ adj.length ∧ MInv m adj i f g ∧ env 19 = I i ∧ env 18 = I adj.length ∧ env 5 = .ptr F 0 0 ∧ env 0 = I m ∧ h = mf H F L R adj m f g z)
    (fun env h => ∃ (i : Nat) (f g : Int → Int) (z : AV), i ≤ adj.length ∧ MInv m adj i f g ∧ env 19 = I i ∧ env 18 = I adj.length ∧ env 5 = .ptr F 0 0 ∧ env 0 = I m ∧ Sub (mf H F L R adj m f g z) h) (fun env _ => adj.length - natA (env 19)) ?_ ?_ ?_
  · refine ⟨0, fun _ => -1, fun _ => -1, .sc (.slice none 0 0), by omega, .start m adj, by simp, by simp, by simp, by simp, ?_⟩
    rw [mf, ← labI_rep, ← labI_rep]
    simp only [List.map_replicate, rows]
    exact .refl _
  · rintro env h ⟨i, f, g, z, a1, a2, a3, a4, a5, a6, s⟩ Q' q
    exact AWP.sub s (q env _ ⟨i, f, g, z, a1, a2, a3, a4, a5, a6, rfl⟩ rfl)
  rintro env h ⟨i, f, g, z, hi, hinv, h19, h18, h5, h0, rfl⟩
  have hnat : natA (env 19) = i := by simp [h19]
  rw [hnat]; clear hnat
  by_cases hlt : i < adj.length
  · repeat' (first
      | (with_reducible refine awp_skip ?_)
      | (with_reducible refine then_any ?_)
      | (with_reducible refine then_ret ?_)
      | (with_reducible refine then_exit ?_)
      | (with_reducible refine inBlock_normal ?_)
      | (with_reducible refine inBlock_ret ?_)
      | (with_reducible refine inBlock_hit ?_)
      | (with_reducible refine inBlock_miss (by decide) ?_)
      | (with_reducible refine awp_ret ?_)
      | (with_reducible refine awp_exit ?_)
      | (with_reducible refine post_ret ?_)
      | (with_reducible refine post_normal ?_)
      | (with_reducible refine awp_block ?_)
      | ((fail_if_success (with_reducible refine at_reg 6 ?_)); with_reducible refine v_reg [] (fun K hK => ?_))
      | (with_reducible refine v_reg1 [] (fun K hK => ?_))
      | ((fail_if_success (with_reducible refine at_reg 6 ?_)); with_reducible refine v_draw mixed [] [] (by kernel_rfl) (fun K hK => ?_))
      | (with_reducible refine v_draw1 mixed [] [] (by kernel_rfl) (fun K hK => ?_))
      | (with_reducible refine ev_nil (hK _ _ ?_); clear hK K)
      | (with_reducible refine ed_nil (hK _ _ ?_); clear hK K)
      | ((first | with_reducible refine ev_cons (fun K' hK' => ?_) | with_reducible refine ed_cons (fun K' hK' => ?_) | (with_reducible refine ev_id ?_; refine ev_guard rfl (fun K' hK' => ?_)) | (with_reducible refine ed_id ?_; refine ed_guard rfl (fun K' hK' => ?_))); simp [h19, h18, h5, h0, hlt, mf_F]; repeat' (first | (with_reducible refine hK' _ _ ?_; clear hK' K') | (with_reducible refine And.intro ?_ ?_) | (with_reducible intro hg) | (clear hK' K'; omega)))
      | (with_reducible refine w_cond (fun A B hA hB => ?_); simp [h19, h18, h5, h0, hlt, mf_F]; repeat' (first | (with_reducible refine hA ?_; clear hA hB A B) | (with_reducible refine hB ?_; clear hA hB A B) | (with_reducible refine And.intro ?_ ?_) | (with_reducible intro hc)))
      | ((fail_if_success (with_reducible refine at_reg 6 ?_)); with_reducible refine awp_seq ?_))
    rename_i S
    have hSn := mf_none d hg
    have hFS : F ≠ S := Ne.symm hSn.1
    have hms := mf_ms (s := fun _ => false) d hg
    rw [← labB_rep] at hms
    simp [hFS]
    rw [hms]
    with_reducible refine hK' _ _ ?_
    clear hK' K'
    have hreach := fun K => reach_use (w0 := w0) (H := H) (Dt.ds d hg) hG (unseen m fun _ => false) (i := i) (f := f) (g := g) (s := fun _ => false) (K := K) hinv.good (by omega) (by omega) (.inl (hinv.later i (by omega) (by omega))) (Nat.le_refl _)
    repeat' (first
      | (with_reducible refine awp_skip ?_)
      | (with_reducible refine then_any ?_)
      | (with_reducible refine then_ret ?_)
      | (with_reducible refine then_exit ?_)
      | (with_reducible refine inBlock_normal ?_)
      | (with_reducible refine inBlock_ret ?_)
      | (with_reducible refine inBlock_hit ?_)
      | (with_reducible refine inBlock_miss (by decide) ?_)
      | (with_reducible refine awp_ret ?_)
      | (with_reducible refine awp_exit ?_)
      | (with_reducible refine post_ret ?_)
      | (with_reducible refine post_normal ?_)
      | (with_reducible refine awp_block ?_)
      | (with_reducible refine v_reg [] (fun K hK => ?_))
      | (with_reducible refine v_reg1 [] (fun K hK => ?_))
      | (with_reducible refine v_draw mixed [] [] (by kernel_rfl) (fun K hK => ?_))
      | (with_reducible refine v_draw1 mixed [] [] (by kernel_rfl) (fun K hK => ?_))
      | (with_reducible refine ev_nil (hK _ _ ?_); clear hK K)
      | (with_reducible refine ed_nil (hK _ _ ?_); clear hK K)
      | ((first | with_reducible refine ev_cons (fun K' hK' => ?_) | with_reducible refine ed_cons (fun K' hK' => ?_) | (with_reducible refine ev_id ?_; refine ev_guard rfl (fun K' hK' => ?_)) | (with_reducible refine ed_id ?_; refine ed_guard rfl (fun K' hK' => ?_))); simp [h19, h18, h5, h0, hlt, mf_F]; repeat' (first | (with_reducible refine hK' _ _ ?_; clear hK' K') | ((with_reducible refine hreach _ (fun s2 r2 n2 => ?_) (fun f2 g2 s2 r2 => ?_)); try simp [h19, h18, h5, h0, hlt, mf_F]) | (with_reducible refine And.intro ?_ ?_) | (with_reducible intro hg) | (clear hK' K'; omega)))
      | (with_reducible refine w_cond (fun A B hA hB => ?_); simp [h19, h18, h5, h0, hlt, mf_F]; repeat' (first | (with_reducible refine hA ?_; clear hA hB A B) | (with_reducible refine hB ?_; clear hA hB A B) | (with_reducible refine And.intro ?_ ?_) | (with_reducible intro hc)))
      | (with_reducible refine awp_seq ?_))
    · exact ⟨⟨i + 1, f, g, _, by omega, hinv.no hlt r2 n2, by simp, by simp [h18], by simp [h5], by simp [h0], ms_sub d hg⟩, by simp; omega⟩
    · exact ⟨⟨i + 1, f2, g2, _, by omega, hinv.yes hlt r2, by simp, by simp [h18], by simp [h5], by simp [h0], ms_sub d hg⟩, by simp; omega⟩
  · have : i = adj.length := by omega
    subst this
    repeat' (first
      | (with_reducible refine awp_skip ?_)
      | (with_reducible refine then_any ?_)
      | (with_reducible refine then_ret ?_)
      | (with_reducible refine then_exit ?_)
      | (with_reducible refine inBlock_normal ?_)
      | (with_reducible refine inBlock_ret ?_)
      | (with_reducible refine inBlock_hit ?_)
      | (with_reducible refine inBlock_miss (by decide) ?_)
      | (with_reducible refine awp_ret ?_)
      | (with_reducible refine awp_exit ?_)
      | (with_reducible refine post_ret ?_)
      | (with_reducible refine post_normal ?_)
      | (with_reducible refine awp_block ?_)
      | (with_reducible refine v_reg [] (fun K hK => ?_))
      | (with_reducible refine v_reg1 [] (fun K hK => ?_))
      | (with_reducible refine v_draw mixed [] [] (by kernel_rfl) (fun K hK => ?_))
      | (with_reducible refine v_draw1 mixed [] [] (by kernel_rfl) (fun K hK => ?_))
      | (with_reducible refine ev_nil (hK _ _ ?_); clear hK K)
      | (with_reducible refine ed_nil (hK _ _ ?_); clear hK K)
      | ((first | with_reducible refine ev_cons (fun K' hK' => ?_) | with_reducible refine ed_cons (fun K' hK' => ?_) | (with_reducible refine ev_id ?_; refine ev_guard rfl (fun K' hK' => ?_)) | (with_reducible refine ed_id ?_; refine ed_guard rfl (fun K' hK' => ?_))); simp [h19, h18, h5, h0]; repeat' (first | (with_reducible refine hK' _ _ ?_; clear hK' K') | (with_reducible refine And.intro ?_ ?_) | (with_reducible intro hg) | (clear hK' K'; omega)))
      | (with_reducible refine w_cond (fun A B hA hB => ?_); simp [h19, h18, h5, h0]; repeat' (first | (with_reducible refine hA ?_; clear hA hB A B) | (with_reducible refine hB ?_; clear hA hB A B) | (with_reducible refine And.intro ?_ ?_) | (with_reducible intro hc)))
      | (with_reducible refine awp_seq ?_))
    exact ⟨F, L, R, f, g, z, d, hinv, by simp, .refl _⟩
end Go.Am
