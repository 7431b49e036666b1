/- Contracts and plain laws that the law ArborTrees needs, part 7. -/
import Derived.Test.YtkgcmgbndapjcaaZArborTrees6
namespace Go.Am
open Go Go.Proofs
set_option linter.unusedVariables false
set_option linter.unusedSimpArgs false
variable {w0 : World}
attribute [local irreducible] AWP ACalls
attribute [local congr] acalls_congr
theorem far_ret {adj : List (List Int)} {l : List Int} (hg : Gr adj) (hl : Pts adj.length l) : Ret Try.prog w0 81 [rows adj, ints l] (.sl (labI adj.length (distL adj l)) adj.length) :=
  (far_new hg hl).ret (cut_all (by rw [labI_length]; omega))
def fromL (adj : List (List Int)) (l : List Int) : List Int := if mayG adj && ptsB l adj.length then levL adj l adj.length else []
theorem from_filter {adj : List (List Int)} {l : List Int} (hg : Gr adj) (hl : Pts adj.length l) : (upto adj.length).filter (fun v => !decide (distL adj l v = -1)) = levL adj l adj.length := by
  have hp := lev_pts hg hl adj.length
  refine up_ext ((up_upto _).filter _) hp.set.up fun x => ?_
  rw [List.mem_filter, mem_upto]
  simp only [Bool.not_eq_true', decide_eq_false_iff_not, dist_neg hg hl, Classical.not_not]
  exact ⟨fun h => h.2, fun h => ⟨hp.lt x h, h⟩⟩
theorem from_ret {adj : List (List Int)} {l : List Int} (ha : okLen adj) (hin : ∀ p ∈ adj, okLen p) (hl : okLen l) : Ret Try.prog w0 62 [rows adj, ints l] (ints (fromL adj l)) := by
  intro H
  refine w_enter Try.func62 rfl Try.ntmps62 (ts := [4]) rfl (by simp) (by kernel_rfl) ?_ |> ret_frz
  cases hm : mayG adj with
  | false =>
    repeat' (first
      | (with_reducible refine awp_skip ?_)
      | (with_reducible refine then_any ?_)
      | (with_reducible refine then_ret ?_)
      | (with_reducible refine then_exit ?_)
      | (with_reducible refine inBlock_normal ?_)
      | (with_reducible refine inBlock_ret ?_)
      | (with_reducible refine inBlock_hit ?_)
      | (with_reducible refine inBlock_miss (by decide) ?_)
      | (with_reducible refine awp_ret ?_)
      | (with_reducible refine awp_exit ?_)
      | (with_reducible refine post_ret ?_)
      | (with_reducible refine post_normal ?_)
      | (with_reducible refine awp_block ?_)
      | (with_reducible refine awp_scope_ret ?_)
      | (with_reducible refine awp_label ?_)
      | (with_reducible refine v_reg [] (fun K hK => ?_))
      | (with_reducible refine v_reg1 [] (fun K hK => ?_))
      | (with_reducible refine v_draw mixed [] [] (by kernel_rfl) (fun K hK => ?_))
      | (with_reducible refine v_draw1 mixed [] [] (by kernel_rfl) (fun K hK => ?_))
      | (with_reducible refine ev_nil (hK _ _ ?_); clear hK K)
      | (with_reducible refine ed_nil (hK _ _ ?_); clear hK K)
      | ((first | with_reducible refine ev_cons (fun K' hK' => ?_) | with_reducible refine ed_cons (fun K' hK' => ?_) | (with_reducible refine ev_id ?_; refine ev_guard rfl (fun K' hK' => ?_)) | (with_reducible refine ed_id ?_; refine ed_guard rfl (fun K' hK' => ?_))); simp [rows, ints, hm]; repeat' (first | (with_reducible refine hK' _ _ ?_; clear hK' K') | (with_reducible refine Ret.use (reachMay_ret ha hin) ?_; try simp [rows, ints, hm]) | (with_reducible refine And.intro ?_ ?_) | (with_reducible intro hg) | (clear hK' K'; omega)))
      | (with_reducible refine w_cond (fun A B hA hB => ?_); simp [rows, ints, hm]; repeat' (first | (with_reducible refine hA ?_; clear hA hB A B) | (with_reducible refine hB ?_; clear hA hB A B) | (with_reducible refine And.intro ?_ ?_) | (with_reducible intro hc)))
      | (with_reducible refine awp_seq ?_))
    exact .inl ⟨by simp [fromL, hm], .refl _⟩
  | true =>
  cases hb : ptsB l adj.length with
  | false =>
    repeat' (first
      | (with_reducible refine awp_skip ?_)
      | (with_reducible refine then_any ?_)
      | (with_reducible refine then_ret ?_)
      | (with_reducible refine then_exit ?_)
      | (with_reducible refine inBlock_normal ?_)
      | (with_reducible refine inBlock_ret ?_)
      | (with_reducible refine inBlock_hit ?_)
      | (with_reducible refine inBlock_miss (by decide) ?_)
      | (with_reducible refine awp_ret ?_)
      | (with_reducible refine awp_exit ?_)
      | (with_reducible refine post_ret ?_)
      | (with_reducible refine post_normal ?_)
      | (with_reducible refine awp_block ?_)
      | (with_reducible refine awp_scope_ret ?_)
      | (with_reducible refine awp_label ?_)
      | (with_reducible refine v_reg [] (fun K hK => ?_))
      | (with_reducible refine v_reg1 [] (fun K hK => ?_))
      | (with_reducible refine v_draw mixed [] [] (by kernel_rfl) (fun K hK => ?_))
      | (with_reducible refine v_draw1 mixed [] [] (by kernel_rfl) (fun K hK => ?_))
      | (with_reducible refine ev_nil (hK _ _ ?_); clear hK K)
      | (with_reducible refine ed_nil (hK _ _ ?_); clear hK K)
      | ((first | with_reducible refine ev_cons (fun K' hK' => ?_) | with_reducible refine ed_cons (fun K' hK' => ?_) | (with_reducible refine ev_id ?_; refine ev_guard rfl (fun K' hK' => ?_)) | (with_reducible refine ed_id ?_; refine ed_guard rfl (fun K' hK' => ?_))); simp [rows, ints, hm, hb]; repeat' (first | (with_reducible refine hK' _ _ ?_; clear hK' K') | (with_reducible refine Ret.use (reachMay_ret ha hin) ?_; try simp [rows, ints, hm, hb]) | (with_reducible refine Ret.use (points_ret hl) ?_; try simp [rows, ints, hm, hb]) | (with_reducible refine And.intro ?_ ?_) | (with_reducible intro hg) | (clear hK' K'; omega)))
      | (with_reducible refine w_cond (fun A B hA hB => ?_); simp [rows, ints, hm, hb]; repeat' (first | (with_reducible refine hA ?_; clear hA hB A B) | (with_reducible refine hB ?_; clear hA hB A B) | (with_reducible refine And.intro ?_ ?_) | (with_reducible intro hc)))
      | (with_reducible refine awp_seq ?_))
    exact .inl ⟨by simp [fromL, hm, hb], .refl _⟩
  | true =>
  have hG := gr_iff.1 hm
  have hp := pts_iff.1 hb
  have hlen := hG.len
  have hfin := from_filter hG hp
  have hff : fromL adj l = levL adj l adj.length := by simp [fromL, hm, hb]
  repeat' (first
    | (with_reducible refine awp_skip ?_)
    | (with_reducible refine then_any ?_)
    | (with_reducible refine then_ret ?_)
    | (with_reducible refine then_exit ?_)
    | (with_reducible refine inBlock_normal ?_)
    | (with_reducible refine inBlock_ret ?_)
    | (with_reducible refine inBlock_hit ?_)
    | (with_reducible refine inBlock_miss (by decide) ?_)
    | (with_reducible refine awp_ret ?_)
    | (with_reducible refine awp_exit ?_)
    | (with_reducible refine post_ret ?_)
    | (with_reducible refine post_normal ?_)
    | (with_reducible refine awp_block ?_)
    | (with_reducible refine awp_scope_ret ?_)
    | (with_reducible refine awp_label ?_)
    | (with_reducible refine v_reg [5] (fun K hK => ?_))
    | (with_reducible refine v_reg1 [5] (fun K hK => ?_))
    | (with_reducible refine v_draw mixed [5] [] (by kernel_rfl) (fun K hK => ?_))
    | (with_reducible refine v_draw1 mixed [5] [] (by kernel_rfl) (fun K hK => ?_))
    | (with_reducible refine ev_nil (hK _ _ ?_); clear hK K)
    | (with_reducible refine ed_nil (hK _ _ ?_); clear hK K)
    | ((first | with_reducible refine ev_cons (fun K' hK' => ?_) | with_reducible refine ed_cons (fun K' hK' => ?_) | (with_reducible refine ev_id ?_; refine ev_guard rfl (fun K' hK' => ?_)) | (with_reducible refine ed_id ?_; refine ed_guard rfl (fun K' hK' => ?_))); simp [rows, ints, hm, hb]; repeat' (first | (with_reducible refine hK' _ _ ?_; clear hK' K') | (with_reducible refine Ret.use (reachMay_ret ha hin) ?_; try simp [rows, ints, hm, hb]) | (with_reducible refine Ret.use (points_ret hl) ?_; try simp [rows, ints, hm, hb]) | (with_reducible refine Ret.use (far_ret hG hp) ?_; try simp [rows, ints, hm, hb]) | (with_reducible refine And.intro ?_ ?_) | (with_reducible intro hg) | (clear hK' K'; omega)))
    | (with_reducible refine w_cond (fun A B hA hB => ?_); simp [rows, ints, hm, hb]; repeat' (first | (with_reducible refine hA ?_; clear hA hB A B) | (with_reducible refine hB ?_; clear hA hB A B) | (with_reducible refine And.intro ?_ ?_) | (with_reducible intro hc)))
    | (with_reducible refine awp_seq ?_))
  rename_i r
  have hr : H r = none := hg
  clear hg
  generalize hd : distL adj l = d at *
  refine awp_loop (fun env h => ∃ i : Nat, i ≤ adj.length ∧ env 22 = I i ∧ env 21 = I adj.length ∧ env 20 = .sl (labI adj.length d) adj.length ∧
      env 5 = .ref r 0 ((upto i).filter fun v => !decide (d v = -1)).length ((upto i).filter fun v => !decide (d v = -1)).length ∧
      h = upd H r (some (.arr 1 3 (((upto i).filter fun v => !decide (d v = -1)).map I) ((upto i).filter fun v => !decide (d v = -1)).length))) (fun env _ => adj.length - natA (env 22)) ?_ ?_
  · exact ⟨0, by omega, by simp, by simp, by simp, by simp [upto_zero], by simp [upto_zero]⟩
  rintro env h ⟨i, hi, h22, h21, h20, h5, rfl⟩
  have hnat : natA (env 22) = i := by simp [h22]
  rw [hnat]; clear hnat
  by_cases hlt : i < adj.length
  · have hlab := labI_length adj.length d
    have hat : ∀ h : i < (labI adj.length d).length, (labI adj.length d)[i]'h = I (d i) := fun h => by
      have := labI_at (n := adj.length) (f := d) (x := (i : Int)) (by omega) (by simpa using h)
      simpa using this
    have hfs : (upto (i + 1)).filter (fun v => !decide (d v = -1)) = (upto i).filter (fun v => !decide (d v = -1)) ++ if d i = -1 then [] else [(i : Int)] := by
      rw [upto_succ, List.filter_append, List.filter_cons]
      by_cases h : d i = -1 <;> simp [h]
    have hle := List.length_filter_le (fun v => !decide (d v = -1)) (upto i)
    rw [upto_length] at hle
    generalize (upto i).filter (fun v => !decide (d v = -1)) = o at *
    by_cases hdi : d i = -1
    · rw [if_pos hdi, List.append_nil] at hfs
      repeat' (first
        | (with_reducible refine awp_skip ?_)
        | (with_reducible refine then_any ?_)
        | (with_reducible refine then_ret ?_)
        | (with_reducible refine then_exit ?_)
        | (with_reducible refine inBlock_normal ?_)
        | (with_reducible refine inBlock_ret ?_)
        | (with_reducible refine inBlock_hit ?_)
        | (with_reducible refine inBlock_miss (by decide) ?_)
        | (with_reducible refine awp_ret ?_)
        | (with_reducible refine awp_exit ?_)
        | (with_reducible refine post_ret ?_)
        | (with_reducible refine post_normal ?_)
        | (with_reducible refine awp_block ?_)
        | (with_reducible refine awp_scope_ret ?_)
        | (with_reducible refine awp_label ?_)
        | (with_reducible refine v_reg [] (fun K hK => ?_))
        | (with_reducible refine v_reg1 [] (fun K hK => ?_))
        | (with_reducible refine v_draw mixed [] [] (by kernel_rfl) (fun K hK => ?_))
        | (with_reducible refine v_draw1 mixed [] [] (by kernel_rfl) (fun K hK => ?_))
        | (with_reducible refine ev_nil (hK _ _ ?_); clear hK K)
        | (with_reducible refine ed_nil (hK _ _ ?_); clear hK K)
        | ((first | with_reducible refine ev_cons (fun K' hK' => ?_) | with_reducible refine ed_cons (fun K' hK' => ?_) | (with_reducible refine ev_id ?_; refine ev_guard rfl (fun K' hK' => ?_)) | (with_reducible refine ed_id ?_; refine ed_guard rfl (fun K' hK' => ?_))); simp [h22, h21, h20, h5, hlt, hlab, hat, hdi]; repeat' (first | (with_reducible refine hK' _ _ ?_; clear hK' K') | (with_reducible refine And.intro ?_ ?_) | (with_reducible intro hg) | (clear hK' K'; omega)))
        | (with_reducible refine w_cond (fun A B hA hB => ?_); simp [h22, h21, h20, h5, hlt, hlab, hat, hdi]; repeat' (first | (with_reducible refine hA ?_; clear hA hB A B) | (with_reducible refine hB ?_; clear hA hB A B) | (with_reducible refine And.intro ?_ ?_) | (with_reducible intro hc)))
        | (with_reducible refine awp_seq ?_))
      exact ⟨⟨i + 1, by omega, by simp, by simp [h21], by simp [h20], by rw [hfs]; simp [h5], by rw [hfs]⟩, by simp; omega⟩
    · rw [if_neg hdi] at hfs
      repeat' (first
        | (with_reducible refine awp_skip ?_)
        | (with_reducible refine then_any ?_)
        | (with_reducible refine then_ret ?_)
        | (with_reducible refine then_exit ?_)
        | (with_reducible refine inBlock_normal ?_)
        | (with_reducible refine inBlock_ret ?_)
        | (with_reducible refine inBlock_hit ?_)
        | (with_reducible refine inBlock_miss (by decide) ?_)
        | (with_reducible refine awp_ret ?_)
        | (with_reducible refine awp_exit ?_)
        | (with_reducible refine post_ret ?_)
        | (with_reducible refine post_normal ?_)
        | (with_reducible refine awp_block ?_)
        | (with_reducible refine awp_scope_ret ?_)
        | (with_reducible refine awp_label ?_)
        | (with_reducible refine v_reg [] (fun K hK => ?_))
        | (with_reducible refine v_reg1 [] (fun K hK => ?_))
        | (with_reducible refine v_draw mixed [] [] (by kernel_rfl) (fun K hK => ?_))
        | (with_reducible refine v_draw1 mixed [] [] (by kernel_rfl) (fun K hK => ?_))
        | (with_reducible refine ev_nil (hK _ _ ?_); clear hK K)
        | (with_reducible refine ed_nil (hK _ _ ?_); clear hK K)
        | ((first | with_reducible refine ev_cons (fun K' hK' => ?_) | with_reducible refine ed_cons (fun K' hK' => ?_) | (with_reducible refine ev_id ?_; refine ev_guard rfl (fun K' hK' => ?_)) | (with_reducible refine ed_id ?_; refine ed_guard rfl (fun K' hK' => ?_))); simp [h22, h21, h20, h5, hlt, hlab, hat, hdi]; repeat' (first | (with_reducible refine hK' _ _ ?_; clear hK' K') | (with_reducible refine And.intro ?_ ?_) | (with_reducible intro hg) | (clear hK' K'; omega)))
        | (with_reducible refine w_cond (fun A B hA hB => ?_); simp [h22, h21, h20, h5, hlt, hlab, hat, hdi]; repeat' (first | (with_reducible refine hA ?_; clear hA hB A B) | (with_reducible refine hB ?_; clear hA hB A B) | (with_reducible refine And.intro ?_ ?_) | (with_reducible intro hc)))
        | (with_reducible refine awp_seq ?_))
      exact ⟨⟨i + 1, by omega, by simp, by simp [h21], by simp [h20], by rw [hfs]; simp, by rw [hfs]; simp⟩, by simp; omega⟩
  · have : i = adj.length := by omega
    subst this
    rw [hfin] at h5 ⊢
    repeat' (first
      | (with_reducible refine awp_skip ?_)
      | (with_reducible refine then_any ?_)
      | (with_reducible refine then_ret ?_)
      | (with_reducible refine then_exit ?_)
      | (with_reducible refine inBlock_normal ?_)
      | (with_reducible refine inBlock_ret ?_)
      | (with_reducible refine inBlock_hit ?_)
      | (with_reducible refine inBlock_miss (by decide) ?_)
      | (with_reducible refine awp_ret ?_)
      | (with_reducible refine awp_exit ?_)
      | (with_reducible refine post_ret ?_)
      | (with_reducible refine post_normal ?_)
      | (with_reducible refine awp_block ?_)
      | (with_reducible refine awp_scope_ret ?_)
      | (with_reducible refine awp_label ?_)
      | (with_reducible refine v_reg [] (fun K hK => ?_))
      | (with_reducible refine v_reg1 [] (fun K hK => ?_))
      | (with_reducible refine v_draw mixed [] [] (by kernel_rfl) (fun K hK => ?_))
      | (with_reducible refine v_draw1 mixed [] [] (by kernel_rfl) (fun K hK => ?_))
      | (with_reducible refine ev_nil (hK _ _ ?_); clear hK K)
      | (with_reducible refine ed_nil (hK _ _ ?_); clear hK K)
      | ((first | with_reducible refine ev_cons (fun K' hK' => ?_) | with_reducible refine ed_cons (fun K' hK' => ?_) | (with_reducible refine ev_id ?_; refine ev_guard rfl (fun K' hK' => ?_)) | (with_reducible refine ed_id ?_; refine ed_guard rfl (fun K' hK' => ?_))); simp [h22, h21, h5]; repeat' (first | (with_reducible refine hK' _ _ ?_; clear hK' K') | (with_reducible refine And.intro ?_ ?_) | (with_reducible intro hg) | (clear hK' K'; omega)))
      | (with_reducible refine w_cond (fun A B hA hB => ?_); simp [h22, h21, h5]; repeat' (first | (with_reducible refine hA ?_; clear hA hB A B) | (with_reducible refine hB ?_; clear hA hB A B) | (with_reducible refine And.intro ?_ ?_) | (with_reducible intro hc)))
      | (with_reducible refine awp_seq ?_))
    refine frz hr (by simp) rfl ?_
    rw [cut_map, hff]
end Go.Am
namespace Go.Am
open Go Go.Proofs
set_option linter.unusedVariables false
set_option linter.unusedSimpArgs false
variable {w0 : World}
attribute [local irreducible] AWP ACalls
attribute [local congr] acalls_congr
abbrev PredI (w0 : World) (f : FuncId) (caps : List AV) (l : List Int) (p : Int → Bool) (H : Heap) : Prop := ∀ x ∈ l, RetAt Try.prog w0 f (I x :: caps) (B (p x)) H
theorem indexInts_at {l : List Int} {f : FuncId} {caps : List AV} {p : Int → Bool} {H : Heap} (hl : okLen l) (hp : PredI w0 f caps l p H) :
    RetAt Try.prog w0 84 [ints l, .clo f [] caps] (I (idxI p l)) H := by
  refine .of ?_
  refine w_enter Try.func84 rfl Try.ntmps84 (ts := [4]) rfl (by simp) (by kernel_rfl) ?_
  repeat' (first
    | (with_reducible refine awp_skip ?_)
    | (with_reducible refine then_any ?_)
    | (with_reducible refine then_ret ?_)
    | (with_reducible refine then_exit ?_)
    | (with_reducible refine inBlock_normal ?_)
    | (with_reducible refine inBlock_ret ?_)
    | (with_reducible refine inBlock_hit ?_)
    | (with_reducible refine inBlock_miss (by decide) ?_)
    | (with_reducible refine awp_ret ?_)
    | (with_reducible refine awp_exit ?_)
    | (with_reducible refine post_ret ?_)
    | (with_reducible refine post_normal ?_)
    | (with_reducible refine awp_block ?_)
    | (with_reducible refine awp_scope_ret ?_)
    | (with_reducible refine awp_label ?_)
    | (with_reducible refine v_reg [] (fun K hK => ?_))
    | (with_reducible refine v_reg1 [] (fun K hK => ?_))
    | (with_reducible refine v_draw mixed [] [] (by kernel_rfl) (fun K hK => ?_))
    | (with_reducible refine v_draw1 mixed [] [] (by kernel_rfl) (fun K hK => ?_))
    | (with_reducible refine ev_nil (hK _ _ ?_); clear hK K)
    | (with_reducible refine ed_nil (hK _ _ ?_); clear hK K)
    | ((first | with_reducible refine ev_cons (fun K' hK' => ?_) | with_reducible refine ed_cons (fun K' hK' => ?_) | (with_reducible refine ev_id ?_; refine ev_guard rfl (fun K' hK' => ?_)) | (with_reducible refine ed_id ?_; refine ed_guard rfl (fun K' hK' => ?_))); simp [ints]; repeat' (first | (with_reducible refine hK' _ _ ?_; clear hK' K') | (with_reducible refine And.intro ?_ ?_) | (with_reducible intro hg) | (clear hK' K'; omega)))
    | (with_reducible refine w_cond (fun A B hA hB => ?_); simp [ints]; repeat' (first | (with_reducible refine hA ?_; clear hA hB A B) | (with_reducible refine hB ?_; clear hA hB A B) | (with_reducible refine And.intro ?_ ?_) | (with_reducible intro hc)))
    | (with_reducible refine awp_seq ?_))
  refine awp_loop (fun env h => ∃ k : Nat, k ≤ l.length ∧ env 8 = I k ∧ env 7 = I l.length ∧ env 0 = ints l ∧ env 1 = .clo f [] caps ∧ (∀ x ∈ l.take k, p x = false) ∧ h = H) (fun env _ => l.length - natA (env 8)) ?_ ?_
  · exact ⟨0, by omega, by simp, by simp, by simp [ints], by simp, by simp, rfl⟩
  rintro env h ⟨k, hk, h8, h7, h0, h1, ht, rfl⟩
  have hnat : natA (env 8) = k := by simp [h8]
  rw [hnat]; clear hnat
  by_cases hlt : k < l.length
  · have hpk := hp l[k] (List.getElem_mem _)
    cases hb : p l[k] with
    | true =>
      have := idxI_take hlt ht hb
      repeat' (first
        | (with_reducible refine awp_skip ?_)
        | (with_reducible refine then_any ?_)
        | (with_reducible refine then_ret ?_)
        | (with_reducible refine then_exit ?_)
        | (with_reducible refine inBlock_normal ?_)
        | (with_reducible refine inBlock_ret ?_)
        | (with_reducible refine inBlock_hit ?_)
        | (with_reducible refine inBlock_miss (by decide) ?_)
        | (with_reducible refine awp_ret ?_)
        | (with_reducible refine awp_exit ?_)
        | (with_reducible refine post_ret ?_)
        | (with_reducible refine post_normal ?_)
        | (with_reducible refine awp_block ?_)
        | (with_reducible refine awp_scope_ret ?_)
        | (with_reducible refine awp_label ?_)
        | (with_reducible refine v_reg [] (fun K hK => ?_))
        | (with_reducible refine v_reg1 [] (fun K hK => ?_))
        | (with_reducible refine v_draw mixed [] [] (by kernel_rfl) (fun K hK => ?_))
        | (with_reducible refine v_draw1 mixed [] [] (by kernel_rfl) (fun K hK => ?_))
        | (with_reducible refine ev_nil (hK _ _ ?_); clear hK K)
        | (with_reducible refine ed_nil (hK _ _ ?_); clear hK K)
        | ((first | with_reducible refine ev_cons (fun K' hK' => ?_) | with_reducible refine ed_cons (fun K' hK' => ?_) | (with_reducible refine ev_id ?_; refine ev_guard rfl (fun K' hK' => ?_)) | (with_reducible refine ed_id ?_; refine ed_guard rfl (fun K' hK' => ?_))); simp [h8, h7, h0, h1, ints, hlt]; repeat' (first | (with_reducible refine hK' _ _ ?_; clear hK' K') | ((with_reducible refine RetAt.use hpk ?_; simp only [hb]); try simp [h8, h7, h0, h1, ints, hlt]) | (with_reducible refine And.intro ?_ ?_) | (with_reducible intro hg) | (clear hK' K'; omega)))
        | (with_reducible refine w_cond (fun A B hA hB => ?_); simp [h8, h7, h0, h1, ints, hlt]; repeat' (first | (with_reducible refine hA ?_; clear hA hB A B) | (with_reducible refine hB ?_; clear hA hB A B) | (with_reducible refine And.intro ?_ ?_) | (with_reducible intro hc)))
        | (with_reducible refine awp_seq ?_))
      simp [this]
    | false =>
      repeat' (first
        | (with_reducible refine awp_skip ?_)
        | (with_reducible refine then_any ?_)
        | (with_reducible refine then_ret ?_)
        | (with_reducible refine then_exit ?_)
        | (with_reducible refine inBlock_normal ?_)
        | (with_reducible refine inBlock_ret ?_)
        | (with_reducible refine inBlock_hit ?_)
        | (with_reducible refine inBlock_miss (by decide) ?_)
        | (with_reducible refine awp_ret ?_)
        | (with_reducible refine awp_exit ?_)
        | (with_reducible refine post_ret ?_)
        | (with_reducible refine post_normal ?_)
        | (with_reducible refine awp_block ?_)
        | (with_reducible refine awp_scope_ret ?_)
        | (with_reducible refine awp_label ?_)
        | (with_reducible refine v_reg [] (fun K hK => ?_))
        | (with_reducible refine v_reg1 [] (fun K hK => ?_))
        | (with_reducible refine v_draw mixed [] [] (by kernel_rfl) (fun K hK => ?_))
        | (with_reducible refine v_draw1 mixed [] [] (by kernel_rfl) (fun K hK => ?_))
        | (with_reducible refine ev_nil (hK _ _ ?_); clear hK K)
        | (with_reducible refine ed_nil (hK _ _ ?_); clear hK K)
        | ((first | with_reducible refine ev_cons (fun K' hK' => ?_) | with_reducible refine ed_cons (fun K' hK' => ?_) | (with_reducible refine ev_id ?_; refine ev_guard rfl (fun K' hK' => ?_)) | (with_reducible refine ed_id ?_; refine ed_guard rfl (fun K' hK' => ?_))); simp [h8, h7, h0, h1, ints, hlt]; repeat' (first | (with_reducible refine hK' _ _ ?_; clear hK' K') | ((with_reducible refine RetAt.use hpk ?_; simp only [hb]); try simp [h8, h7, h0, h1, ints, hlt]) | (with_reducible refine And.intro ?_ ?_) | (with_reducible intro hg) | (clear hK' K'; omega)))
        | (with_reducible refine w_cond (fun A B hA hB => ?_); simp [h8, h7, h0, h1, ints, hlt]; repeat' (first | (with_reducible refine hA ?_; clear hA hB A B) | (with_reducible refine hB ?_; clear hA hB A B) | (with_reducible refine And.intro ?_ ?_) | (with_reducible intro hc)))
        | (with_reducible refine awp_seq ?_))
      refine ⟨⟨k + 1, by omega, by simp, by simp [h7], by simp [h0], by simp [h1], fun x hx => ?_, rfl⟩, by simp; omega⟩
      rw [List.take_succ_eq_append_getElem hlt, List.mem_append, List.mem_singleton] at hx
      rcases hx with hx | rfl
      · exact ht x hx
      · exact hb
  · have : k = l.length := by omega
    subst this
    rw [List.take_length] at ht
    have := idxI_none ht
    repeat' (first
      | (with_reducible refine awp_skip ?_)
      | (with_reducible refine then_any ?_)
      | (with_reducible refine then_ret ?_)
      | (with_reducible refine then_exit ?_)
      | (with_reducible refine inBlock_normal ?_)
      | (with_reducible refine inBlock_ret ?_)
      | (with_reducible refine inBlock_hit ?_)
      | (with_reducible refine inBlock_miss (by decide) ?_)
      | (with_reducible refine awp_ret ?_)
      | (with_reducible refine awp_exit ?_)
      | (with_reducible refine post_ret ?_)
      | (with_reducible refine post_normal ?_)
      | (with_reducible refine awp_block ?_)
      | (with_reducible refine awp_scope_ret ?_)
      | (with_reducible refine awp_label ?_)
      | (with_reducible refine v_reg [] (fun K hK => ?_))
      | (with_reducible refine v_reg1 [] (fun K hK => ?_))
      | (with_reducible refine v_draw mixed [] [] (by kernel_rfl) (fun K hK => ?_))
      | (with_reducible refine v_draw1 mixed [] [] (by kernel_rfl) (fun K hK => ?_))
      | (with_reducible refine ev_nil (hK _ _ ?_); clear hK K)
      | (with_reducible refine ed_nil (hK _ _ ?_); clear hK K)
      | ((first | with_reducible refine ev_cons (fun K' hK' => ?_) | with_reducible refine ed_cons (fun K' hK' => ?_) | (with_reducible refine ev_id ?_; refine ev_guard rfl (fun K' hK' => ?_)) | (with_reducible refine ed_id ?_; refine ed_guard rfl (fun K' hK' => ?_))); simp [h8, h7, h0, h1, ints]; repeat' (first | (with_reducible refine hK' _ _ ?_; clear hK' K') | (with_reducible refine And.intro ?_ ?_) | (with_reducible intro hg) | (clear hK' K'; omega)))
      | (with_reducible refine w_cond (fun A B hA hB => ?_); simp [h8, h7, h0, h1, ints]; repeat' (first | (with_reducible refine hA ?_; clear hA hB A B) | (with_reducible refine hB ?_; clear hA hB A B) | (with_reducible refine And.intro ?_ ?_) | (with_reducible intro hc)))
      | (with_reducible refine awp_seq ?_))
    simp [this]
end Go.Am
namespace Go.Am
open Go Go.Proofs
set_option linter.unusedVariables false
set_option linter.unusedSimpArgs false
variable {w0 : World}
attribute [local irreducible] AWP ACalls
attribute [local congr] acalls_congr
theorem idxI_cases {α : Type} (p : α → Bool) (l : List α) : (idxI p l = -1 ∧ ∀ x ∈ l, p x = false) ∨ ∃ (k : Nat) (h : k < l.length), idxI p l = k ∧ p l[k] = true ∧ ∀ x ∈ l.take k, p x = false := by
  unfold idxI
  cases h : l.findIdx? p with
  | none =>
    rw [List.findIdx?_eq_none_iff] at h
    exact .inl ⟨rfl, fun x hx => by simpa using h x hx⟩
  | some k =>
    rw [List.findIdx?_eq_some_iff_getElem] at h
    obtain ⟨hk, hp, hb⟩ := h
    refine .inr ⟨k, hk, rfl, hp, fun x hx => ?_⟩
    rw [List.mem_take_iff_getElem] at hx
    obtain ⟨j, hj, rfl⟩ := hx
    simpa using hb j (by omega)
theorem setL_ints (vs : List Int) : ∀ (c : List Int) (o : Nat), ∃ c' : List Int, setL (c.map I) o (vs.map I) = c'.map I ∧ c'.length = c.length ∧ ∀ k, k ≤ o → c'.take k = c.take k := by
  induction vs with
  | nil => intro c o; exact ⟨c, rfl, rfl, fun _ _ => rfl⟩
  | cons v vs ih =>
    intro c o
    obtain ⟨c', h1, h2, h3⟩ := ih (c.set o v) (o + 1)
    refine ⟨c', ?_, by rw [h2]; simp, fun k hk => ?_⟩
    · rw [List.map_cons, setL, ← h1, List.map_set]
    · rw [h3 k (by omega), List.take_set_of_le hk]
theorem zrep_ints (n : Nat) : zrep [.int .i64 0] n = (List.replicate n (0 : Int)).map I := by simp
end Go.Am
namespace Go.Am
set_option linter.unusedVariables false
theorem sum_zero {α : Type} (l : List α) : (l.map fun _ => (0 : Int)).sum = 0 := by
  induction l with
  | nil => rfl
  | cons a l ih => simp [ih]
theorem sum_add {α : Type} (l : List α) (f g : α → Int) : (l.map fun x => f x + g x).sum = (l.map f).sum + (l.map g).sum := by
  induction l with
  | nil => rfl
  | cons a l ih => simp only [List.map_cons, List.sum_cons, ih]; omega
theorem sum_congr {α : Type} {l : List α} {f g : α → Int} (h : ∀ x ∈ l, f x = g x) : (l.map f).sum = (l.map g).sum := by
  rw [List.map_congr_left h]
theorem sum_comm {α β : Type} (A : List α) (B : List β) (f : α → β → Int) : (A.map fun a => (B.map (f a)).sum).sum = (B.map fun b => (A.map fun a => f a b).sum).sum := by
  induction A with
  | nil => simp [sum_zero]
  | cons a A ih => simp only [List.map_cons, List.sum_cons, ih, sum_add]
theorem sum_one {l : List Int} (hn : l.Nodup) {f g : Int → Int} {i : Int} (hi : i ∈ l) (h : ∀ x ∈ l, x ≠ i → f x = g x) : (l.map f).sum = (l.map g).sum + (f i - g i) := by
  induction l with
  | nil => cases hi
  | cons a l ih =>
    obtain ⟨h1, h2⟩ := List.nodup_cons.1 hn
    simp only [List.map_cons, List.sum_cons]
    by_cases e : a = i
    · subst e
      have : (l.map f).sum = (l.map g).sum := sum_congr fun x hx => h x (by simp [hx]) fun e => by subst e; exact h1 hx
      omega
    · have hi' : i ∈ l := by
        rcases List.mem_cons.1 hi with hh | hh
        · exact absurd hh.symm e
        · exact hh
      have := ih h2 hi' fun x hx hne => h x (by simp [hx]) hne
      have := h a (by simp) e
      omega
def b2i (b : Bool) : Int := if b then 1 else 0
theorem sum_b2i {T : List Int} (hn : T.Nodup) (x : Int) : (T.map fun u => b2i (decide (x = u))).sum = b2i (decide (x ∈ T)) := by
  induction T with
  | nil => rfl
  | cons a T ih =>
    obtain ⟨h1, h2⟩ := List.nodup_cons.1 hn
    simp only [List.map_cons, List.sum_cons, ih h2]
    by_cases e : x = a
    · subst e; simp [b2i, h1]
    · simp [b2i, e]
section
variable (arcs : List (Int × Int))
def tlA (i : Int) : Int := (arcs.getD i.toNat (0, 0)).1
def hdA (i : Int) : Int := (arcs.getD i.toNat (0, 0)).2
def exA (full : Int → Bool) (u : Int) : Int := ((upto arcs.length).map fun i => if full i then b2i (decide (hdA arcs i = u)) - b2i (decide (tlA arcs i = u)) else 0).sum
theorem ex_cut (full : Int → Bool) {T : List Int} (hn : T.Nodup) :
    (T.map (exA arcs full)).sum = ((upto arcs.length).map fun i => if full i then b2i (decide (hdA arcs i ∈ T)) - b2i (decide (tlA arcs i ∈ T)) else 0).sum := by
  unfold exA
  rw [sum_comm]
  refine sum_congr fun i _ => ?_
  by_cases h : full i = true
  · simp only [h, if_true]
    have := sum_add T (fun u => b2i (decide (hdA arcs i = u))) (fun u => - b2i (decide (tlA arcs i = u)))
    have e : (T.map fun u => - b2i (decide (tlA arcs i = u))).sum = - (T.map fun u => b2i (decide (tlA arcs i = u))).sum := by
      clear this hn
      induction T with
      | nil => rfl
      | cons a T ih => simp only [List.map_cons, List.sum_cons, ih]; omega
    simp only [Int.sub_eq_add_neg]
    rw [this, e, sum_b2i hn, sum_b2i hn]
  · simp [h, sum_zero]
end
end Go.Am
namespace Go.Am
set_option linter.unusedVariables false
section
variable (arcs : List (Int × Int))
def frA (full : Int → Bool) (i : Int) : Int := if full i then hdA arcs i else tlA arcs i
def toA (full : Int → Bool) (i : Int) : Int := if full i then tlA arcs i else hdA arcs i
structure FlowS (gone full : Int → Bool) (root v : Int) (units : Nat) : Prop where
  rng : ∀ i : Int, full i = true → 0 ≤ i ∧ i < arcs.length ∧ gone i = false
  zero : ∀ u : Int, u ≠ root → u ≠ v → exA arcs full u = 0
  most : exA arcs full v = units
structure WkA (n : Nat) (gone full : Int → Bool) (root : Int) (by' : Int → Int) (come : Int → Bool) : Prop where
  src : come root = true
  step : ∀ i : Int, 0 ≤ i → i < arcs.length → gone i = false → come (frA arcs full i) = true → come (toA arcs full i) = true
  back : ∃ rank : Int → Nat, ∀ u, come u = true → u ≠ root → 0 ≤ by' u ∧ by' u < arcs.length ∧ gone (by' u) = false ∧ toA arcs full (by' u) = u ∧ come (frA arcs full (by' u)) = true ∧ rank (frA arcs full (by' u)) < rank u
  rng : ∀ u, come u = true → 0 ≤ u ∧ u < n
def entA (gone : Int → Bool) (T : List Int) : List Int := (upto arcs.length).filter fun i => !gone i && decide (hdA arcs i ∈ T) && !decide (tlA arcs i ∈ T)
theorem len_sum {l : List Int} (p : Int → Bool) : ((l.filter p).length : Int) = (l.map fun x => b2i (p x)).sum := by
  induction l with
  | nil => rfl
  | cons a l ih =>
    rw [List.filter_cons]
    simp only [List.map_cons, List.sum_cons, ← ih]
    cases h : p a <;> simp [b2i] <;> omega
theorem sum_le {α : Type} {l : List α} {f g : α → Int} (h : ∀ x ∈ l, f x ≤ g x) : (l.map f).sum ≤ (l.map g).sum := by
  induction l with
  | nil => simp
  | cons a l ih =>
    simp only [List.map_cons, List.sum_cons]
    have := h a (by simp)
    have := ih fun x hx => h x (by simp [hx])
    omega
theorem sum_eq_all {α : Type} {l : List α} {f g : α → Int} (h : ∀ x ∈ l, f x ≤ g x) (e : (l.map f).sum = (l.map g).sum) : ∀ x ∈ l, f x = g x := by
  induction l with
  | nil => intro x hx; cases hx
  | cons a l ih =>
    simp only [List.map_cons, List.sum_cons] at e
    have h1 := h a (by simp)
    have h2 := sum_le fun x hx => h x (List.mem_cons_of_mem a hx)
    intro x hx
    rcases List.mem_cons.1 hx with rfl | hx
    · omega
    · exact ih (fun x hx => h x (by simp [hx])) (by omega) x hx
variable {arcs} {gone full : Int → Bool} {root v : Int} {units : Nat}
theorem FlowS.cut (h : FlowS arcs gone full root v units) {T : List Int} (hn : T.Nodup) (hr : root ∉ T) (hv : v ∈ T) :
    (units : Int) = ((upto arcs.length).map fun i => if full i then b2i (decide (hdA arcs i ∈ T)) - b2i (decide (tlA arcs i ∈ T)) else 0).sum := by
  rw [← ex_cut arcs full hn]
  have := sum_one hn (f := exA arcs full) (g := fun _ => 0) hv fun x hx hne => h.zero x (fun e => by subst e; exact hr hx) hne
  rw [sum_zero] at this
  have := h.most
  omega
theorem ent_term (h : FlowS arcs gone full root v units) (T : List Int) (i : Int) :
    (if full i then b2i (decide (hdA arcs i ∈ T)) - b2i (decide (tlA arcs i ∈ T)) else 0) ≤ b2i (!gone i && decide (hdA arcs i ∈ T) && !decide (tlA arcs i ∈ T)) := by
  cases hf : full i with
  | false => simp [b2i]; split <;> omega
  | true =>
    have := (h.rng i hf).2.2
    by_cases a : hdA arcs i ∈ T <;> by_cases b : tlA arcs i ∈ T <;> simp [b2i, a, b, this]
theorem FlowS.le (h : FlowS arcs gone full root v units) {T : List Int} (hn : T.Nodup) (hr : root ∉ T) (hv : v ∈ T) : units ≤ (entA arcs gone T).length := by
  have h1 := h.cut hn hr hv
  have h2 := len_sum (l := upto arcs.length) fun i => !gone i && decide (hdA arcs i ∈ T) && !decide (tlA arcs i ∈ T)
  have h3 := sum_le (l := upto arcs.length) fun i _ => ent_term h T i
  unfold entA
  omega
end
end Go.Am
namespace Go.Am
set_option linter.unusedVariables false
section
variable {arcs : List (Int × Int)} {n : Nat} {gone full : Int → Bool} {root v : Int} {units : Nat} {by' : Int → Int} {come : Int → Bool}
def notC (n : Nat) (come : Int → Bool) : List Int := (upto n).filter fun u => !come u
theorem mem_notC {u : Int} : u ∈ notC n come ↔ (0 ≤ u ∧ u < n) ∧ come u = false := by
  unfold notC
  rw [List.mem_filter, mem_upto]
  simp
theorem FlowS.tight (h : FlowS arcs gone full root v units) (w : WkA arcs n gone full root by' come) (hin : ∀ i : Int, 0 ≤ i → i < arcs.length → (0 ≤ tlA arcs i ∧ tlA arcs i < n) ∧ 0 ≤ hdA arcs i ∧ hdA arcs i < n)
    (hv : 0 ≤ v ∧ v < n) (hc : come v = false) : units = (entA arcs gone (notC n come)).length := by
  have hn : (notC n come).Nodup := (nodup_upto n).filter _
  have hr : root ∉ notC n come := fun hx => by have := (mem_notC.1 hx).2; rw [w.src] at this; cases this
  have h1 := h.cut hn hr (mem_notC.2 ⟨hv, hc⟩)
  have h2 := len_sum (l := upto arcs.length) fun i => !gone i && decide (hdA arcs i ∈ notC n come) && !decide (tlA arcs i ∈ notC n come)
  have h3 : ((upto arcs.length).map fun i => if full i then b2i (decide (hdA arcs i ∈ notC n come)) - b2i (decide (tlA arcs i ∈ notC n come)) else 0).sum
      = ((upto arcs.length).map fun i => b2i (!gone i && decide (hdA arcs i ∈ notC n come) && !decide (tlA arcs i ∈ notC n come))).sum := by
    refine sum_congr fun i hi => ?_
    obtain ⟨a, b⟩ := mem_upto.1 hi
    obtain ⟨ht, hh⟩ := hin i a b
    have mh : hdA arcs i ∈ notC n come ↔ come (hdA arcs i) = false := by rw [mem_notC]; exact ⟨fun x => x.2, fun x => ⟨hh, x⟩⟩
    have mt : tlA arcs i ∈ notC n come ↔ come (tlA arcs i) = false := by rw [mem_notC]; exact ⟨fun x => x.2, fun x => ⟨ht, x⟩⟩
    have hs := w.step i a b
    unfold frA toA at hs
    cases hf : full i with
    | true =>
      have hg := (h.rng i hf).2.2
      rw [hf] at hs
      simp only [if_true, hg, forall_const] at hs
      cases c1 : come (hdA arcs i) <;> cases c2 : come (tlA arcs i) <;> simp_all [b2i]
    | false =>
      rw [hf] at hs
      cases hg : gone i <;> cases c1 : come (hdA arcs i) <;> cases c2 : come (tlA arcs i) <;> simp_all [b2i]
  unfold entA
  omega
end
end Go.Am
namespace Go.Am
set_option linter.unusedVariables false
def BackA (arcs : List (Int × Int)) (gone full : Int → Bool) (root : Int) (by' : Int → Int) (come : Int → Bool) (rank : Int → Nat) : Prop :=
  ∀ u, come u = true → u ≠ root → 0 ≤ by' u ∧ by' u < arcs.length ∧ gone (by' u) = false ∧ toA arcs full (by' u) = u ∧ come (frA arcs full (by' u)) = true ∧ rank (frA arcs full (by' u)) < rank u
structure SendI (arcs : List (Int × Int)) (gone full full' : Int → Bool) (root : Int) (by' : Int → Int) (come : Int → Bool) (rank : Int → Nat) (e v : Int) : Prop where
  ex : ∀ u : Int, exA arcs full' u = exA arcs full u + b2i (decide (u = e)) - b2i (decide (u = v))
  same : ∀ u : Int, come u = true → u ≠ root → rank u ≤ rank v → full' (by' u) = full (by' u)
  rng : ∀ i : Int, full' i = true → 0 ≤ i ∧ i < arcs.length ∧ gone i = false
  at' : come v = true
section
variable {arcs : List (Int × Int)} {gone full full' : Int → Bool} {root e v : Int} {by' : Int → Int} {come : Int → Bool} {rank : Int → Nat}
theorem SendI.start (hr : ∀ i : Int, full i = true → 0 ≤ i ∧ i < arcs.length ∧ gone i = false) (hc : come e = true) : SendI arcs gone full full root by' come rank e e :=
  ⟨fun u => by omega, fun u _ _ _ => rfl, hr, hc⟩
end
end Go.Am
namespace Go.Am
set_option linter.unusedVariables false
structure WMid (arcs : List (Int × Int)) (n : Nat) (gone full : Int → Bool) (root : Int) (by' : Int → Int) (come : Int → Bool) (q : List Int) (u : Int) (i : Int) : Prop where
  src : come root = true
  rng : ∀ x, come x = true → 0 ≤ x ∧ x < n
  inq : ∀ x ∈ q, come x = true
  cur : come u = true
  back : ∃ (rank : Int → Nat) (c : Nat), (∀ x, come x = true → rank x < c) ∧ BackA arcs gone full root by' come rank
  step : ∀ j : Int, 0 ≤ j → j < arcs.length → gone j = false → come (frA arcs full j) = true → frA arcs full j ∉ q → (frA arcs full j = u → j < i) → come (toA arcs full j) = true
structure WOut (arcs : List (Int × Int)) (n : Nat) (gone full : Int → Bool) (root : Int) (by' : Int → Int) (come : Int → Bool) (q : List Int) : Prop where
  src : come root = true
  rng : ∀ x, come x = true → 0 ≤ x ∧ x < n
  inq : ∀ x ∈ q, come x = true
  back : ∃ (rank : Int → Nat) (c : Nat), (∀ x, come x = true → rank x < c) ∧ BackA arcs gone full root by' come rank
  step : ∀ j : Int, 0 ≤ j → j < arcs.length → gone j = false → come (frA arcs full j) = true → frA arcs full j ∉ q → come (toA arcs full j) = true
section
variable {arcs : List (Int × Int)} {n : Nat} {gone full : Int → Bool} {root u i : Int} {by' : Int → Int} {come : Int → Bool} {q : List Int}
theorem WOut.start (h : 0 ≤ root ∧ root < n) : WOut arcs n gone full root by' (setF (fun _ => false) root true) [root] where
  src := setF_same _ _ _
  rng x hx := by
    by_cases e : x = root
    · subst e; exact h
    · rw [setF_ne _ _ e] at hx; cases hx
  inq x hx := by simp at hx; subst hx; exact setF_same _ _ _
  back := ⟨fun _ => 0, 1, fun _ _ => Nat.zero_lt_one, fun x hx hne => by rw [setF_ne _ _ hne] at hx; cases hx⟩
  step j _ _ _ hc hq := by
    by_cases e : frA arcs full j = root
    · rw [e] at hq; simp at hq
    · rw [setF_ne _ _ e] at hc; cases hc
theorem WOut.pop (h : WOut arcs n gone full root by' come (u :: q)) : WMid arcs n gone full root by' come q u 0 where
  src := h.src
  rng := h.rng
  inq x hx := h.inq x (by simp [hx])
  cur := h.inq u (by simp)
  back := h.back
  step j h0 h1 hg hc hq hu := h.step j h0 h1 hg hc fun hx => by
    rcases List.mem_cons.1 hx with e | e
    · have := hu e; omega
    · exact hq e
theorem WMid.skip (h : WMid arcs n gone full root by' come q u i) (hs : gone i = true ∨ frA arcs full i ≠ u ∨ come (toA arcs full i) = true) : WMid arcs n gone full root by' come q u (i + 1) where
  src := h.src
  rng := h.rng
  inq := h.inq
  cur := h.cur
  back := h.back
  step j h0 h1 hg hc hq hu := by
    by_cases e : j = i
    · subst e
      rcases hs with hs | hs | hs
      · rw [hs] at hg; cases hg
      · exact h.step j h0 h1 hg hc hq fun e => absurd e hs
      · exact hs
    · exact h.step j h0 h1 hg hc hq fun e' => by have := hu e'; omega
theorem WMid.new (h : WMid arcs n gone full root by' come q u i) (h0 : 0 ≤ i) (h1 : i < arcs.length) (hg : gone i = false) (hf : frA arcs full i = u) (hc : come (toA arcs full i) = false) (hr : 0 ≤ toA arcs full i ∧ toA arcs full i < n) :
    WMid arcs n gone full root (setF by' (toA arcs full i) i) (setF come (toA arcs full i) true) (q ++ [toA arcs full i]) u (i + 1) := by
  have hne : ∀ {x}, come x = true → x ≠ toA arcs full i := fun hx e => by rw [e, hc] at hx; cases hx
  have hup : ∀ {x}, come x = true → setF come (toA arcs full i) true x = true := fun hx => by rw [setF_ne _ _ (hne hx)]; exact hx
  obtain ⟨rank, c, hb, hB⟩ := h.back
  refine ⟨hup h.src, fun x hx => ?_, fun x hx => ?_, hup h.cur, ⟨setF rank (toA arcs full i) c, c + 1, fun x hx => ?_, fun x hx hne' => ?_⟩, fun j j0 j1 jg jc jq ju => ?_⟩
  · by_cases e : x = toA arcs full i
    · subst e; exact hr
    · rw [setF_ne _ _ e] at hx; exact h.rng x hx
  · rcases List.mem_append.1 hx with hx | hx
    · exact hup (h.inq x hx)
    · simp at hx; subst hx; exact setF_same _ _ _
  · by_cases e : x = toA arcs full i
    · subst e; rw [setF_same]; omega
    · rw [setF_ne _ _ e] at hx ⊢; have := hb x hx; omega
  · by_cases e : x = toA arcs full i
    · subst e
      rw [setF_same, setF_same, hf]
      refine ⟨h0, h1, hg, rfl, hup h.cur, ?_⟩
      rw [setF_ne _ _ (hne h.cur)]
      exact hb u h.cur
    · rw [setF_ne _ _ e] at hx
      obtain ⟨a0, a1, a2, a3, a4, a5⟩ := hB x hx hne'
      rw [setF_ne _ _ e, setF_ne _ _ e]
      exact ⟨a0, a1, a2, a3, hup a4, by rw [setF_ne _ _ (hne a4)]; exact a5⟩
  · rw [List.mem_append] at jq
    have jf : frA arcs full j ≠ toA arcs full i := fun e => jq (.inr (by simp [e]))
    rw [setF_ne _ _ jf] at jc
    by_cases e : j = i
    · subst e; exact setF_same _ _ _
    · exact hup (h.step j j0 j1 jg jc (fun h => jq (.inl h)) fun e' => by have := ju e'; omega)
theorem WMid.end (h : WMid arcs n gone full root by' come q u arcs.length) : WOut arcs n gone full root by' come q :=
  ⟨h.src, h.rng, h.inq, h.back, fun j h0 h1 hg hc hq => h.step j h0 h1 hg hc hq fun _ => h1⟩
theorem WOut.fin (h : WOut arcs n gone full root by' come []) : WkA arcs n gone full root by' come :=
  ⟨h.src, fun j h0 h1 hg hc => h.step j h0 h1 hg hc (by simp), by obtain ⟨rank, c, _, hB⟩ := h.back; exact ⟨rank, hB⟩, h.rng⟩
end
end Go.Am
namespace Go.Am
open Go Go.Proofs
set_option linter.unusedVariables false
set_option linter.unusedSimpArgs false
variable {w0 : World}
attribute [local irreducible] AWP ACalls
attribute [local congr] acalls_congr
structure NetA (n : Nat) (arcs : List (Int × Int)) (root : Int) : Prop where
  nle : n ≤ 64
  mle : arcs.length ≤ 64
  root : 0 ≤ root ∧ root < n
  ends : ∀ i : Int, 0 ≤ i → i < arcs.length → (0 ≤ tlA arcs i ∧ tlA arcs i < n) ∧ 0 ≤ hdA arcs i ∧ hdA arcs i < n
theorem tlA_get {arcs : List (Int × Int)} {k : Nat} (h : k < arcs.length) : arcs[k].1 = tlA arcs k := by simp [tlA, h]
theorem hdA_get {arcs : List (Int × Int)} {k : Nat} (h : k < arcs.length) : arcs[k].2 = hdA arcs k := by simp [hdA, h]
structure FlowH (H : Heap) (F G L n : Nat) (arcs : List (Int × Int)) (gone full : Int → Bool) : Prop where
  lg : L ≠ G
  hF : H F = some (.box [I n, pairs arcs, .ref G 0 arcs.length arcs.length, .ref L 0 arcs.length arcs.length])
  hG : H G = some (.arr 1 4 (labB arcs.length gone) arcs.length)
  hL : H L = some (.arr 1 4 (labB arcs.length full) arcs.length)
end Go.Am
namespace Go.Am
open Go Go.Proofs
set_option linter.unusedVariables false
set_option linter.unusedSimpArgs false
variable {w0 : World}
attribute [local irreducible] AWP ACalls
attribute [local congr] acalls_congr
theorem FlowH.lf {H : Heap} {F G L n : Nat} {arcs : List (Int × Int)} {gone full : Int → Bool} (fh : FlowH H F G L n arcs gone full) : L ≠ F := fun e => by
  have := fh.hL
  rw [e, fh.hF] at this
  cases this
theorem FlowH.set {H : Heap} {F G L n : Nat} {arcs : List (Int × Int)} {gone full : Int → Bool} (fh : FlowH H F G L n arcs gone full) (full' : Int → Bool) :
    FlowH (upd H L (some (.arr 1 4 (labB arcs.length full') arcs.length))) F G L n arcs gone full' :=
  ⟨fh.lg, by rw [upd_ne _ _ _ (Ne.symm fh.lf)]; exact fh.hF, by rw [upd_ne _ _ _ (Ne.symm fh.lg)]; exact fh.hG, upd_same _ _ _⟩
end Go.Am
namespace Go.Am
open Go Go.Proofs
set_option linter.unusedVariables false
set_option linter.unusedSimpArgs false
variable {w0 : World}
attribute [local irreducible] AWP ACalls
attribute [local congr] acalls_congr
theorem FlowS.start (arcs : List (Int × Int)) (gone : Int → Bool) (root v : Int) : FlowS arcs gone (fun _ => false) root v 0 :=
  ⟨fun i h => (Bool.false_ne_true h).elim, fun u _ _ => by simp [exA, sum_zero], by simp [exA, sum_zero]⟩
theorem FlowS.next {arcs : List (Int × Int)} {gone full full' : Int → Bool} {root v : Int} {units : Nat} (h : FlowS arcs gone full root v units) (hv : v ≠ root)
    (e : ∀ u : Int, exA arcs full' u = exA arcs full u + b2i (decide (u = v)) - b2i (decide (u = root))) (r : ∀ i : Int, full' i = true → 0 ≤ i ∧ i < arcs.length ∧ gone i = false) : FlowS arcs gone full' root v (units + 1) where
  rng := r
  zero u h1 h2 := by rw [e u, h.zero u h1 h2]; simp [b2i, h1, h2]
  most := by rw [e v, h.most]; simp [b2i, hv]
def mh (H : Heap) (F G L n : Nat) (arcs : List (Int × Int)) (full : Int → Bool) : Heap :=
  upd (upd H L (some (.arr 1 4 (labB arcs.length full) arcs.length))) F (some (.box [I n, pairs arcs, .ref G 0 arcs.length arcs.length, .ref L 0 arcs.length arcs.length]))
end Go.Am
namespace Go.Am
open Go Go.Proofs
set_option linter.unusedVariables false
set_option linter.unusedSimpArgs false
variable {w0 : World}
attribute [local irreducible] AWP ACalls
attribute [local congr] acalls_congr
theorem pairs_at {es : List (Int × Int)} {k : Nat} (h : k < es.length) : (∀ h', (es.flatMap fun e => [I e.1, I e.2])[k * 2]'h' = I es[k].1) ∧ (∀ h', (es.flatMap fun e => [I e.1, I e.2])[k * 2 + 1]'h' = I es[k].2) ∧ k * 2 + 1 < es.length * 2 := by
  have hp := pairs_get h
  exact ⟨fun h' => by have := hp.1; rw [List.getElem?_eq_getElem h'] at this; simpa using this, fun h' => by have := hp.2.1; rw [List.getElem?_eq_getElem h'] at this; simpa using this, by omega⟩
def mayA (n : Int) (arcs : List (Int × Int)) (root : Int) : Bool := decide (1 ≤ n) && decide (n ≤ 64) && decide (arcs.length ≤ 64) && decide (0 ≤ root) && decide (root < n) && arcs.all (edgeOk n)
def costOk (x : Int) : Bool := decide (-2147483648 ≤ x) && decide (x ≤ 2147483648)
def mayC (n : Int) (arcs : List (Int × Int)) (cost : List Int) (root : Int) : Bool := mayA n arcs root && decide (cost.length = arcs.length) && cost.all costOk
theorem arborMay_ret {n root : Int} {arcs : List (Int × Int)} {cost : List Int} (ha : okLen arcs) (hc : okLen cost) : Ret Try.prog w0 41 [I n, pairs arcs, ints cost, I root] (B (mayC n arcs cost root)) := by
  intro H
  refine w_enter Try.func41 rfl Try.ntmps41 (ts := [8]) rfl (by simp) (by kernel_rfl) ?_
  by_cases h1 : 1 ≤ n ∧ n ≤ 64 ∧ arcs.length ≤ 64 ∧ cost.length = arcs.length ∧ 0 ≤ root ∧ root < n
  · obtain ⟨a1, a2, a3, a4, a5, a6⟩ := h1
    have b1 : ¬ n < 1 := by omega
    have b2 : ¬ 64 < n := by omega
    have b3 : ¬ (64 : Int) < arcs.length := by omega
    have b5 : ¬ root < 0 := by omega
    have b6 : ¬ n ≤ root := by omega
    repeat' (first
      | (with_reducible refine awp_skip ?_)
      | (with_reducible refine then_any ?_)
      | (with_reducible refine then_ret ?_)
      | (with_reducible refine then_exit ?_)
      | (with_reducible refine inBlock_normal ?_)
      | (with_reducible refine inBlock_ret ?_)
      | (with_reducible refine inBlock_hit ?_)
      | (with_reducible refine inBlock_miss (by decide) ?_)
      | (with_reducible refine awp_ret ?_)
      | (with_reducible refine awp_exit ?_)
      | (with_reducible refine post_ret ?_)
      | (with_reducible refine post_normal ?_)
      | (with_reducible refine awp_block ?_)
      | (with_reducible refine awp_scope_ret ?_)
      | (with_reducible refine awp_label ?_)
      | (with_reducible refine v_reg [] (fun K hK => ?_))
      | (with_reducible refine v_reg1 [] (fun K hK => ?_))
      | (with_reducible refine v_draw mixed [] [] (by kernel_rfl) (fun K hK => ?_))
      | (with_reducible refine v_draw1 mixed [] [] (by kernel_rfl) (fun K hK => ?_))
      | (with_reducible refine ev_nil (hK _ _ ?_); clear hK K)
      | (with_reducible refine ed_nil (hK _ _ ?_); clear hK K)
      | ((first | with_reducible refine ev_cons (fun K' hK' => ?_) | with_reducible refine ed_cons (fun K' hK' => ?_) | (with_reducible refine ev_id ?_; refine ev_guard rfl (fun K' hK' => ?_)) | (with_reducible refine ed_id ?_; refine ed_guard rfl (fun K' hK' => ?_))); simp [pairs, ints, b1, b2, b3, a4, b5, b6]; repeat' (first | (with_reducible refine hK' _ _ ?_; clear hK' K') | (with_reducible refine And.intro ?_ ?_) | (with_reducible intro hg) | (clear hK' K'; omega)))
      | (with_reducible refine w_cond (fun A B hA hB => ?_); simp [pairs, ints, b1, b2, b3, a4, b5, b6]; repeat' (first | (with_reducible refine hA ?_; clear hA hB A B) | (with_reducible refine hB ?_; clear hA hB A B) | (with_reducible refine And.intro ?_ ?_) | (with_reducible intro hc)))
      | (with_reducible refine awp_seq ?_))
    refine awp_loop_prep (fun env h => ∃ k : Nat, k ≤ arcs.length ∧ (arcs.take k).all (edgeOk n) = true ∧ (cost.take k).all costOk = true ∧ env 40 = I k ∧ env 39 = I arcs.length ∧ env 38 = pairs arcs ∧ env 0 = I n ∧ env 2 = ints cost ∧ h = H)
      (fun env h => ∃ k : Nat, k ≤ arcs.length ∧ (arcs.take k).all (edgeOk n) = true ∧ (cost.take k).all costOk = true ∧ env 40 = I k ∧ env 39 = I arcs.length ∧ env 38 = pairs arcs ∧ env 0 = I n ∧ env 2 = ints cost ∧ Sub H h) (fun env _ => arcs.length - natA (env 40)) ?_ ?_ ?_
    · exact ⟨0, by omega, by simp, by simp, by simp, by simp, by simp [pairs], by simp, by simp [ints, a4], .refl _⟩
    · rintro env h ⟨k, c1, c2, c3, c4, c5, c6, c7, c8, s⟩ Q' q
      exact AWP.sub s (q env _ ⟨k, c1, c2, c3, c4, c5, c6, c7, c8, rfl⟩ rfl)
    rintro env h ⟨k, hk, hE, hC, h40, h39, h38, h0, h2, rfl⟩
    have hnat : natA (env 40) = k := by simp [h40]
    rw [hnat]; clear hnat
    by_cases hlt : k < arcs.length
    · have hp := pairs_get hlt
      have hkc : k < cost.length := by omega
      have hE2 : (arcs.take (k + 1)).all (edgeOk n) = edgeOk n arcs[k] := by rw [List.take_succ_eq_append_getElem hlt, List.all_append, hE]; simp
      have hC2 : (cost.take (k + 1)).all costOk = costOk cost[k] := by rw [List.take_succ_eq_append_getElem hkc, List.all_append, hC]; simp
      have hno : (edgeOk n arcs[k] && costOk cost[k]) = false → mayC n arcs cost root = false := by
        intro e
        rw [Bool.and_eq_false_iff] at e
        rcases e with e | e
        · have : arcs.all (edgeOk n) = false := by rw [List.all_eq_false]; exact ⟨arcs[k], by simp, by simp [e]⟩
          simp [mayC, mayA, this]
        · have : cost.all costOk = false := by rw [List.all_eq_false]; exact ⟨cost[k], by simp, by simp [e]⟩
          simp [mayC, this]
      repeat' (first
        | (with_reducible refine awp_skip ?_)
        | (with_reducible refine then_any ?_)
        | (with_reducible refine then_ret ?_)
        | (with_reducible refine then_exit ?_)
        | (with_reducible refine inBlock_normal ?_)
        | (with_reducible refine inBlock_ret ?_)
        | (with_reducible refine inBlock_hit ?_)
        | (with_reducible refine inBlock_miss (by decide) ?_)
        | (with_reducible refine awp_ret ?_)
        | (with_reducible refine awp_exit ?_)
        | (with_reducible refine post_ret ?_)
        | (with_reducible refine post_normal ?_)
        | (with_reducible refine awp_block ?_)
        | (with_reducible refine awp_scope_ret ?_)
        | (with_reducible refine awp_label ?_)
        | (with_reducible refine v_reg [] (fun K hK => ?_))
        | (with_reducible refine v_reg1 [] (fun K hK => ?_))
        | (with_reducible refine v_draw mixed [] [] (by kernel_rfl) (fun K hK => ?_))
        | (with_reducible refine v_draw1 mixed [] [] (by kernel_rfl) (fun K hK => ?_))
        | (with_reducible refine ev_nil (hK _ _ ?_); clear hK K)
        | (with_reducible refine ed_nil (hK _ _ ?_); clear hK K)
        | ((first | with_reducible refine ev_cons (fun K' hK' => ?_) | with_reducible refine ed_cons (fun K' hK' => ?_) | (with_reducible refine ev_id ?_; refine ev_guard rfl (fun K' hK' => ?_)) | (with_reducible refine ed_id ?_; refine ed_guard rfl (fun K' hK' => ?_))); simp [h40, h39, h38, h0, h2, pairs, ints, hlt, hkc, hp.1, hp.2.1, hp.2.2, pairs_len, sum2, imin, imax]; repeat' (first | (with_reducible refine hK' _ _ ?_; clear hK' K') | (with_reducible refine And.intro ?_ ?_) | (with_reducible intro hg) | (clear hK' K'; omega)))
        | (with_reducible refine w_cond (fun A B hA hB => ?_); simp [h40, h39, h38, h0, h2, pairs, ints, hlt, hkc, hp.1, hp.2.1, hp.2.2, pairs_len, sum2, imin, imax]; repeat' (first | (with_reducible refine hA ?_; clear hA hB A B) | (with_reducible refine hB ?_; clear hA hB A B) | (with_reducible refine And.intro ?_ ?_) | (with_reducible intro hc)))
        | (with_reducible refine awp_seq ?_))
      all_goals first
        | exact ⟨⟨k + 1, by omega, by rw [hE2]; simp [edgeOk]; omega, by rw [hC2]; simp [costOk]; omega, by simp, by simp [h39], by simp [h38], by simp [h0], by simp [h2], sub_new (by assumption)⟩, by simp; omega⟩
        | exact ⟨by rw [hno (by simp [edgeOk, costOk]; omega)]; simp, sub_new (by assumption)⟩
    · have : k = arcs.length := by omega
      subst this
      rw [List.take_length] at hE
      rw [← a4, List.take_length] at hC
      repeat' (first
        | (with_reducible refine awp_skip ?_)
        | (with_reducible refine then_any ?_)
        | (with_reducible refine then_ret ?_)
        | (with_reducible refine then_exit ?_)
        | (with_reducible refine inBlock_normal ?_)
        | (with_reducible refine inBlock_ret ?_)
        | (with_reducible refine inBlock_hit ?_)
        | (with_reducible refine inBlock_miss (by decide) ?_)
        | (with_reducible refine awp_ret ?_)
        | (with_reducible refine awp_exit ?_)
        | (with_reducible refine post_ret ?_)
        | (with_reducible refine post_normal ?_)
        | (with_reducible refine awp_block ?_)
        | (with_reducible refine awp_scope_ret ?_)
        | (with_reducible refine awp_label ?_)
        | (with_reducible refine v_reg [] (fun K hK => ?_))
        | (with_reducible refine v_reg1 [] (fun K hK => ?_))
        | (with_reducible refine v_draw mixed [] [] (by kernel_rfl) (fun K hK => ?_))
        | (with_reducible refine v_draw1 mixed [] [] (by kernel_rfl) (fun K hK => ?_))
        | (with_reducible refine ev_nil (hK _ _ ?_); clear hK K)
        | (with_reducible refine ed_nil (hK _ _ ?_); clear hK K)
        | ((first | with_reducible refine ev_cons (fun K' hK' => ?_) | with_reducible refine ed_cons (fun K' hK' => ?_) | (with_reducible refine ev_id ?_; refine ev_guard rfl (fun K' hK' => ?_)) | (with_reducible refine ed_id ?_; refine ed_guard rfl (fun K' hK' => ?_))); simp [h40, h39, h38, h0, h2]; repeat' (first | (with_reducible refine hK' _ _ ?_; clear hK' K') | (with_reducible refine And.intro ?_ ?_) | (with_reducible intro hg) | (clear hK' K'; omega)))
        | (with_reducible refine w_cond (fun A B hA hB => ?_); simp [h40, h39, h38, h0, h2]; repeat' (first | (with_reducible refine hA ?_; clear hA hB A B) | (with_reducible refine hB ?_; clear hA hB A B) | (with_reducible refine And.intro ?_ ?_) | (with_reducible intro hc)))
        | (with_reducible refine awp_seq ?_))
      simp [mayC, mayA, *]
  · have hf : mayC n arcs cost root = false := by
      cases e : mayC n arcs cost root
      · rfl
      · simp [mayC, mayA] at e; omega
    repeat' (first
      | (with_reducible refine awp_skip ?_)
      | (with_reducible refine then_any ?_)
      | (with_reducible refine then_ret ?_)
      | (with_reducible refine then_exit ?_)
      | (with_reducible refine inBlock_normal ?_)
      | (with_reducible refine inBlock_ret ?_)
      | (with_reducible refine inBlock_hit ?_)
      | (with_reducible refine inBlock_miss (by decide) ?_)
      | (with_reducible refine awp_ret ?_)
      | (with_reducible refine awp_exit ?_)
      | (with_reducible refine post_ret ?_)
      | (with_reducible refine post_normal ?_)
      | (with_reducible refine awp_block ?_)
      | (with_reducible refine awp_scope_ret ?_)
      | (with_reducible refine awp_label ?_)
      | (with_reducible refine v_reg [] (fun K hK => ?_))
      | (with_reducible refine v_reg1 [] (fun K hK => ?_))
      | (with_reducible refine v_draw mixed [] [] (by kernel_rfl) (fun K hK => ?_))
      | (with_reducible refine v_draw1 mixed [] [] (by kernel_rfl) (fun K hK => ?_))
      | (with_reducible refine ev_nil (hK _ _ ?_); clear hK K)
      | (with_reducible refine ed_nil (hK _ _ ?_); clear hK K)
      | ((first | with_reducible refine ev_cons (fun K' hK' => ?_) | with_reducible refine ed_cons (fun K' hK' => ?_) | (with_reducible refine ev_id ?_; refine ev_guard rfl (fun K' hK' => ?_)) | (with_reducible refine ed_id ?_; refine ed_guard rfl (fun K' hK' => ?_))); simp [pairs, ints]; repeat' (first | (with_reducible refine hK' _ _ ?_; clear hK' K') | (with_reducible refine And.intro ?_ ?_) | (with_reducible intro hg) | (clear hK' K'; omega)))
      | (with_reducible refine w_cond (fun A B hA hB => ?_); simp [pairs, ints]; repeat' (first | (with_reducible refine hA ?_; clear hA hB A B) | (with_reducible refine hB ?_; clear hA hB A B) | (with_reducible refine And.intro ?_ ?_) | (with_reducible intro hc)))
      | (with_reducible refine awp_seq ?_))
    all_goals first
      | (exfalso; omega)
      | simp [hf]
theorem mayA_net {n root : Int} {arcs : List (Int × Int)} (h : mayA n arcs root = true) : ∃ m : Nat, n = m ∧ 1 ≤ m ∧ NetA m arcs root := by
  simp only [mayA, Bool.and_eq_true, decide_eq_true_eq] at h
  obtain ⟨⟨⟨⟨⟨a1, a2⟩, a3⟩, a4⟩, a5⟩, a6⟩ := h
  refine ⟨n.toNat, by omega, by omega, by omega, a3, ⟨a4, by omega⟩, fun i h0 h1 => ?_⟩
  have hi : i.toNat < arcs.length := by omega
  have := List.all_eq_true.1 a6 arcs[i.toNat] (List.getElem_mem _)
  have e1 : arcs[i.toNat].1 = tlA arcs i := by simp [tlA, hi]
  have e2 : arcs[i.toNat].2 = hdA arcs i := by simp [hdA, hi]
  simp only [edgeOk, Bool.and_eq_true, decide_eq_true_eq] at this
  omega
end Go.Am
namespace Go.Am
set_option linter.unusedVariables false
set_option linter.unusedSimpArgs false
section
variable (arcs : List (Int × Int))
def entP (gone T : Int → Bool) : Nat := (upto arcs.length).countP fun i => !gone i && T (hdA arcs i) && !T (tlA arcs i)
def VSet (n : Nat) (root : Int) (T : Int → Bool) : Prop := T root = false ∧ ∃ u : Int, 0 ≤ u ∧ u < n ∧ T u = true
variable {arcs} {n : Nat} {root : Int} {gone Hs : Int → Bool} {others : Nat}
end
end Go.Am
namespace Go.Am
open Go Go.Proofs
set_option linter.unusedVariables false
set_option linter.unusedSimpArgs false
variable {w0 : World}
attribute [local irreducible] AWP ACalls
attribute [local congr] acalls_congr
section
variable {arcs : List (Int × Int)} {n : Nat} {gone full : Int → Bool} {root v : Int} {units : Nat} {by' : Int → Int} {come : Int → Bool}
theorem entA_len (T : List Int) : (entA arcs gone T).length = entP arcs gone (fun u => decide (u ∈ T)) := by
  rw [entA, entP, List.countP_eq_length_filter]
def EnoughAt (arcs : List (Int × Int)) (gone : Int → Bool) (root : Int) (k : Nat) (v : Int) : Prop := ∀ T : Int → Bool, T root = false → T v = true → k ≤ entP arcs gone T
def EnoughP (arcs : List (Int × Int)) (n : Nat) (gone : Int → Bool) (root : Int) (k : Nat) : Prop := ∀ T : Int → Bool, VSet n root T → k ≤ entP arcs gone T
end
open Classical in
noncomputable def enoughB (arcs : List (Int × Int)) (n : Nat) (gone : Int → Bool) (root : Int) (k : Nat) : Bool := decide (EnoughP arcs n gone root k)
theorem enoughB_true {arcs : List (Int × Int)} {n : Nat} {gone : Int → Bool} {root : Int} {k : Nat} : enoughB arcs n gone root k = true ↔ EnoughP arcs n gone root k := by simp [enoughB]
end Go.Am
namespace Go.Am
set_option linter.unusedVariables false
set_option linter.unusedSimpArgs false
abbrev no0 : Int → Bool := fun _ => false
structure FlowAns (arcs : List (Int × Int)) (n : Nat) (gone : Int → Bool) (root v : Int) (units : Nat) (s : List Int) : Prop where
  up : s.Pairwise (· < ·)
  rng : ∀ x ∈ s, 0 ≤ x ∧ x < n
  has : v ∈ s
  nroot : root ∉ s
  is : entP arcs gone (fun u => decide (u ∈ s)) = units
  least : EnoughAt arcs gone root units v
  all : ∀ T : Int → Bool, T root = false → T v = true → entP arcs gone T = units → ∀ u : Int, 0 ≤ u → u < n → T u = true → u ∈ s
section
variable {arcs : List (Int × Int)} {n : Nat} {gone : Int → Bool} {root v : Int} {units units' : Nat} {s s' : List Int}
theorem least_nat {p : Nat → Prop} (h : ∃ n, p n) : ∃ n, p n ∧ ∀ m, p m → n ≤ m := by
  obtain ⟨n, hn⟩ := h
  induction n using Nat.strongRecOn with
  | _ n ih =>
  by_cases hx : ∃ m, m < n ∧ p m
  · obtain ⟨m, hm, hp⟩ := hx
    exact ih m hm hp
  · exact ⟨n, hn, fun m hm => Nat.le_of_not_lt fun hlt => hx ⟨m, hlt, hm⟩⟩
theorem countP_lt_of {l : List Int} {p q : Int → Bool} (h : ∀ x ∈ l, p x = true → q x = true) {x : Int} (hx : x ∈ l) (hp : p x = false) (hq : q x = true) : l.countP p < l.countP q := by
  induction l with
  | nil => cases hx
  | cons a l ih =>
    have hle : l.countP p ≤ l.countP q := List.countP_mono_left fun y hy => h y (List.mem_cons_of_mem _ hy)
    rw [List.countP_cons, List.countP_cons]
    rcases List.mem_cons.1 hx with e | e
    · subst e; simp [hp, hq]; omega
    · have := ih (fun y hy => h y (List.mem_cons_of_mem _ hy)) e
      have h2 := h a (by simp)
      cases e1 : p a <;> cases e2 : q a <;> simp <;> first | omega | (rw [e1, e2] at h2; simp at h2)
theorem flow_le (h : FlowAns arcs n gone root v units s) : units ≤ arcs.length := by
  rw [← h.is, entP]
  exact Nat.le_trans List.countP_le_length (by rw [upto_length]; exact Nat.le_refl _)
end
end Go.Am
namespace Go.Am
open Go Go.Proofs
set_option linter.unusedVariables false
set_option linter.unusedSimpArgs false
variable {w0 : World}
attribute [local irreducible] AWP ACalls
attribute [local congr] acalls_congr
theorem exists_mask' (p : Nat → Bool) : ∀ n : Nat, ∃ s, s < 2 ^ n ∧ ∀ j, j < n → s.testBit j = p j := by
  intro n
  induction n with
  | zero => exact ⟨0, by simp, fun j h => by omega⟩
  | succ n ih =>
    obtain ⟨s, hs, h⟩ := ih
    have h2 : 2 ^ (n + 1) = 2 ^ n + 2 ^ n := by rw [Nat.pow_succ]; omega
    cases hp : p n with
    | false =>
      refine ⟨s, by omega, fun j hj => ?_⟩
      by_cases e : j = n
      · subst e; rw [hp]; exact Nat.testBit_lt_two_pow hs
      · exact h j (by omega)
    | true =>
      refine ⟨2 ^ n + s, by omega, fun j hj => ?_⟩
      by_cases e : j = n
      · subst e; rw [hp, Nat.testBit_two_pow_add_eq, Nat.testBit_lt_two_pow hs]; rfl
      · rw [Nat.testBit_two_pow_add_gt (by omega)]; exact h j (by omega)
def subL (n bits : Nat) : List Int := (upto n).filter fun j => bits.testBit j.toNat
theorem mem_subL {n bits : Nat} {x : Int} : x ∈ subL n bits ↔ (0 ≤ x ∧ x < n) ∧ bits.testBit x.toNat = true := by simp [subL, List.mem_filter, mem_upto]
theorem subL_pts {n : Nat} (h : n ≤ 4096) (bits : Nat) : Pts n (subL n bits) := ⟨(isSet_upto (by omega)).filter _, fun x hx => (mem_subL.1 hx).1⟩
theorem subL_of {n : Nat} {s : List Int} (h : s.Pairwise (· < ·)) (hr : ∀ x ∈ s, 0 ≤ x ∧ x < n) : ∃ b, b < 2 ^ n ∧ subL n b = s := by
  obtain ⟨b, hb, hj⟩ := exists_mask' (fun j => decide ((j : Int) ∈ s)) n
  refine ⟨b, hb, up_ext ((up_upto n).filter _) h fun x => ?_⟩
  rw [mem_subL]
  constructor
  · intro ⟨⟨h0, h1⟩, h2⟩
    rw [hj _ (by omega)] at h2
    simp only [decide_eq_true_eq] at h2
    rwa [show ((x.toNat : Nat) : Int) = x by omega] at h2
  · intro hx
    obtain ⟨h0, h1⟩ := hr x hx
    refine ⟨⟨h0, h1⟩, ?_⟩
    rw [hj _ (by omega)]
    simpa [show ((x.toNat : Nat) : Int) = x by omega] using hx
end Go.Am
namespace Go.Am
open Go Go.Proofs
set_option linter.unusedVariables false
set_option linter.unusedSimpArgs false
variable {w0 : World}
attribute [local irreducible] AWP ACalls
attribute [local congr] acalls_congr
def okM (b : Nat) (root v : Int) : Bool := b.testBit v.toNat && !b.testBit root.toNat
structure LeastI (arcs : List (Int × Int)) (n : Nat) (root v : Int) (units : Nat) (s : List Int) (b best : Nat) (out : List Int) : Prop where
  pts : Pts n out
  le : best ≤ arcs.length + 1
  st : (best = units ∧ (∀ x ∈ out, x ∈ s) ∧ ∀ b', b' < b → okM b' root v = true → (entA arcs no0 (subL n b')).length = units → ∀ x ∈ subL n b', x ∈ out) ∨
    units < best ∧ ∀ b', b' < b → okM b' root v = true → (entA arcs no0 (subL n b')).length ≠ units
section
variable {arcs : List (Int × Int)} {n : Nat} {root v : Int} {units b best : Nat} {s out : List Int}
theorem LeastI.start (h : FlowAns arcs n no0 root v units s) : LeastI arcs n root v units s 0 (arcs.length + 1) [] :=
  ⟨.nil, Nat.le_refl _, .inr ⟨by have := flow_le h; omega, fun b' hb => by omega⟩⟩
theorem okM_facts (N : NetA n arcs root) (hv : 0 ≤ v ∧ v < n) (ho : okM b root v = true) : (fun u => decide (u ∈ subL n b)) root = false ∧ (fun u => decide (u ∈ subL n b)) v = true := by
  simp only [okM, Bool.and_eq_true, Bool.not_eq_true'] at ho
  constructor
  · have : root ∉ subL n b := fun h => by have := (mem_subL.1 h).2; rw [ho.2] at this; cases this
    simpa using this
  · have : v ∈ subL n b := mem_subL.2 ⟨hv, ho.1⟩
    simpa using this
theorem ok_sub (N : NetA n arcs root) (hv : 0 ≤ v ∧ v < n) (h : FlowAns arcs n no0 root v units s) (ho : okM b root v = true) (he : (entA arcs no0 (subL n b)).length = units) : ∀ x ∈ subL n b, x ∈ s := by
  obtain ⟨h1, h2⟩ := okM_facts N hv ho
  rw [entA_len] at he
  intro x hx
  obtain ⟨a, c⟩ := (mem_subL.1 hx).1
  exact h.all _ h1 h2 he x a c (by simpa using hx)
theorem LeastI.skip (h : LeastI arcs n root v units s b best out) (ho : okM b root v = false) : LeastI arcs n root v units s (b + 1) best out := by
  refine ⟨h.pts, h.le, ?_⟩
  have key : ∀ b', b' < b + 1 → okM b' root v = true → b' < b := fun b' h1 h2 => by
    by_cases e : b' = b
    · subst e; rw [ho] at h2; cases h2
    · omega
  rcases h.st with ⟨a, c, d⟩ | ⟨a, c⟩
  · exact .inl ⟨a, c, fun b' h1 h2 => d b' (key b' h1 h2) h2⟩
  · exact .inr ⟨a, fun b' h1 h2 => c b' (key b' h1 h2) h2⟩
theorem LeastI.same (N : NetA n arcs root) (hv : 0 ≤ v ∧ v < n) (hF : FlowAns arcs n no0 root v units s) (h : LeastI arcs n root v units s b best out) (ho : okM b root v = true) (hk : (entA arcs no0 (subL n b)).length = best) :
    LeastI arcs n root v units s (b + 1) best (unionR out (subL n b)) := by
  have hp := subL_pts (n := n) (by have := N.nle; omega) b
  have hm := (unionR_spec h.pts.set hp.set).2
  refine ⟨h.pts.union hp, h.le, ?_⟩
  rcases h.st with ⟨a, c, d⟩ | ⟨a, c⟩
  · refine .inl ⟨a, fun x hx => ?_, fun b' h1 h2 h3 x hx => ?_⟩
    · rcases (hm x).1 hx with hx | hx
      · exact c x hx
      · exact ok_sub N hv hF ho (by omega) x hx
    · rw [hm]
      by_cases e' : b' = b
      · subst e'; exact .inr hx
      · exact .inl (d b' (by omega) h2 h3 x hx)
  · refine .inr ⟨a, fun b' h1 h2 h3 => ?_⟩
    by_cases e' : b' = b
    · subst e'; omega
    · exact c b' (by omega) h2 h3
theorem LeastI.more (N : NetA n arcs root) (hv : 0 ≤ v ∧ v < n) (hF : FlowAns arcs n no0 root v units s) (h : LeastI arcs n root v units s b best out) (ho : okM b root v = true) (hk : best < (entA arcs no0 (subL n b)).length) :
    LeastI arcs n root v units s (b + 1) best out := by
  refine ⟨h.pts, h.le, ?_⟩
  rcases h.st with ⟨a, c, d⟩ | ⟨a, c⟩
  · refine .inl ⟨a, c, fun b' h1 h2 h3 => ?_⟩
    by_cases e' : b' = b
    · subst e'; omega
    · exact d b' (by omega) h2 h3
  · refine .inr ⟨a, fun b' h1 h2 h3 => ?_⟩
    by_cases e' : b' = b
    · subst e'; omega
    · exact c b' (by omega) h2 h3
theorem LeastI.fin (N : NetA n arcs root) (hv : 0 ≤ v ∧ v < n) (hF : FlowAns arcs n no0 root v units s) (h : LeastI arcs n root v units s (2 ^ n) best out) : best = units ∧ out = s := by
  obtain ⟨b, hb, hs⟩ := subL_of hF.up hF.rng
  have ho : okM b root v = true := by
    have h1 := hF.has
    have h2 := hF.nroot
    rw [← hs, mem_subL] at h1 h2
    simp only [okM, Bool.and_eq_true, Bool.not_eq_true']
    refine ⟨h1.2, ?_⟩
    cases e : b.testBit root.toNat
    · rfl
    · exact absurd ⟨N.root, e⟩ h2
  have he : (entA arcs no0 (subL n b)).length = units := by rw [entA_len, hs]; exact hF.is
  rcases h.st with ⟨a, c, d⟩ | ⟨a, c⟩
  · refine ⟨a, up_ext h.pts.set.up hF.up fun x => ⟨c x, fun hx => ?_⟩⟩
    exact d b hb ho he x (by rw [hs]; exact hx)
  · exact absurd he (c b hb ho)
end
end Go.Am
namespace Go.Am
open Go Go.Proofs
set_option linter.unusedVariables false
set_option linter.unusedSimpArgs false
variable {w0 : World}
attribute [local irreducible] AWP ACalls
attribute [local congr] acalls_congr
def leftL (arcs : List (Int × Int)) (gone : List Int) (k : Nat) : List (Int × Int) := ((upto k).filter fun i => !decide (i ∈ gone)).map fun i => (tlA arcs i, hdA arcs i)
theorem leftL_len (arcs : List (Int × Int)) (gone : List Int) (k : Nat) : (leftL arcs gone k).length ≤ k := by
  have := List.length_filter_le (fun i => !decide (i ∈ gone)) (upto k)
  rw [upto_length] at this
  simpa [leftL] using this
theorem NetA.left {n : Nat} {arcs : List (Int × Int)} {root : Int} (N : NetA n arcs root) (gone : List Int) : NetA n (leftL arcs gone arcs.length) root where
  nle := N.nle
  mle := Nat.le_trans (leftL_len _ _ _) N.mle
  root := N.root
  ends i h0 h1 := by
    have hi : i.toNat < (leftL arcs gone arcs.length).length := by omega
    have hm := List.getElem_mem hi
    have e1 : tlA (leftL arcs gone arcs.length) i = (leftL arcs gone arcs.length)[i.toNat].1 := by simp [tlA, hi]
    have e2 : hdA (leftL arcs gone arcs.length) i = (leftL arcs gone arcs.length)[i.toNat].2 := by simp [hdA, hi]
    rw [e1, e2]
    obtain ⟨j, hj, he⟩ := List.mem_map.1 hm
    rw [← he]
    obtain ⟨a, b⟩ := mem_upto.1 (List.mem_filter.1 hj).1
    exact N.ends j a b
end Go.Am
namespace Go.Am
set_option linter.unusedVariables false
set_option linter.unusedSimpArgs false
structure GSt where
  gone : Int → Bool
  has : Int → Bool
  out : List Int
section
variable (arcs : List (Int × Int)) (n : Nat) (root : Int) (others : Nat)
noncomputable def okG (s : GSt) (i : Int) : Bool := !s.gone i && s.has (tlA arcs i) && !s.has (hdA arcs i) && enoughB arcs n (setF s.gone i true) root others
def takeG (s : GSt) (i : Int) : GSt := ⟨setF s.gone i true, setF s.has (hdA arcs i) true, s.out ++ [i]⟩
noncomputable def stepG (s : GSt) : GSt := match (upto arcs.length).find? (okG arcs n root others s) with
  | some i => takeG arcs s i
  | none => s
def startG (gone : Int → Bool) : GSt := ⟨gone, setF (fun _ => false) root true, []⟩
noncomputable def iterG (gone : Int → Bool) : Nat → GSt
  | 0 => startG root gone
  | k + 1 => stepG arcs n root others (iterG gone k)
noncomputable def finG (gone : Int → Bool) : GSt := iterG arcs n root others gone (n - 1)
variable {arcs n root others}
theorem stepG_cases (s : GSt) : (stepG arcs n root others s = s ∧ ∀ j : Int, 0 ≤ j → j < arcs.length → okG arcs n root others s j = false) ∨
    ∃ i : Int, 0 ≤ i ∧ i < arcs.length ∧ okG arcs n root others s i = true ∧ stepG arcs n root others s = takeG arcs s i := by
  unfold stepG
  cases h : (upto arcs.length).find? (okG arcs n root others s) with
  | none =>
    rw [List.find?_eq_none] at h
    exact .inl ⟨rfl, fun j a b => by simpa using h j (mem_upto.2 ⟨a, b⟩)⟩
  | some i =>
    have h1 := List.find?_some h
    have h2 := mem_upto.1 (List.mem_of_find?_eq_some h)
    exact .inr ⟨i, h2.1, h2.2, h1, rfl⟩
structure GInv (arcs : List (Int × Int)) (n : Nat) (root : Int) (gone : Int → Bool) (s : GSt) : Prop where
  rng : ∀ i ∈ s.out, 0 ≤ i ∧ i < arcs.length
  nodup : s.out.Nodup
  fresh : ∀ i ∈ s.out, gone i = false
  gone' : ∀ i, s.gone i = (gone i || decide (i ∈ s.out))
  root' : s.has root = true
  has' : ∀ u, s.has u = true → 0 ≤ u ∧ u < n
  cnt : (upto n).countP s.has = s.out.length + 1
  /-- One comes to all that one has, by arcs taken. -/
  reach : ∀ (p : Int → Prop), p root → (∀ i ∈ s.out, p (tlA arcs i) → p (hdA arcs i)) → ∀ u, s.has u = true → p u
  ends : ∀ i ∈ s.out, s.has (tlA arcs i) = true ∧ s.has (hdA arcs i) = true
  heads : (s.out.map (hdA arcs)).Nodup ∧ ∀ i ∈ s.out, hdA arcs i ≠ root
theorem countP_setF {n : Nat} {f : Int → Bool} {x : Int} (h0 : 0 ≤ x) (h1 : x < n) (hf : f x = false) : (upto n).countP (setF f x true) = (upto n).countP f + 1 := by
  have hx : x ∈ upto n := mem_upto.2 ⟨h0, h1⟩
  have hn := nodup_upto n
  generalize upto n = l at hx hn
  induction l with
  | nil => cases hx
  | cons a l ih =>
    obtain ⟨n1, n2⟩ := List.nodup_cons.1 hn
    rw [List.countP_cons, List.countP_cons]
    by_cases e : a = x
    · subst e
      have : l.countP (setF f a true) = l.countP f := List.countP_congr fun y hy => by rw [setF_ne _ _ (fun e => by subst e; exact n1 hy)]
      rw [this, setF_same, hf]
      simp
    · rw [setF_ne _ _ e, ih (by rcases List.mem_cons.1 hx with h | h; (· exact absurd h.symm e); (· exact h)) n2]
      omega
theorem GInv.start (N : NetA n arcs root) (gone : Int → Bool) : GInv arcs n root gone (startG root gone) where
  rng i hi := by cases hi
  nodup := .nil
  fresh i hi := by cases hi
  gone' i := by simp [startG]
  root' := setF_same (fun _ => false) root true
  has' u hu := by
    by_cases e : u = root
    · subst e; exact N.root
    · simp only [startG] at hu; rw [setF_ne _ _ e] at hu; cases hu
  cnt := by
    show (upto n).countP (setF (fun _ => false) root true) = 0 + 1
    rw [countP_setF N.root.1 N.root.2 rfl]
    simp
  reach p h0 _ u hu := by
    by_cases e : u = root
    · subst e; exact h0
    · simp only [startG] at hu; rw [setF_ne _ _ e] at hu; cases hu
  ends i hi := by cases hi
  heads := ⟨by simp [startG], fun i hi => by cases hi⟩
theorem GInv.take (N : NetA n arcs root) {gone : Int → Bool} {s : GSt} (h : GInv arcs n root gone s) {i : Int} (h0 : 0 ≤ i) (h1 : i < arcs.length) (hg : s.gone i = false) (ht : s.has (tlA arcs i) = true) (hh : s.has (hdA arcs i) = false) :
    GInv arcs n root gone (takeG arcs s i) := by
  have hgi := h.gone' i
  rw [hg] at hgi
  have hgi1 : gone i = false := by cases e : gone i; (· rfl); (· rw [e] at hgi; simp at hgi)
  have hgi2 : i ∉ s.out := fun hx => by simp [hx] at hgi
  obtain ⟨e1, e2⟩ := N.ends i h0 h1
  have hne : ∀ {u}, s.has u = true → u ≠ hdA arcs i := fun hu e => by rw [e, hh] at hu; cases hu
  have hup : ∀ {u}, s.has u = true → setF s.has (hdA arcs i) true u = true := fun hu => by rw [setF_ne _ _ (hne hu)]; exact hu
  refine ⟨fun j hj => ?_, ?_, fun j hj => ?_, fun j => ?_, hup h.root', fun u hu => ?_, ?_, fun p p0 ps u hu => ?_, fun j hj => ?_, ?_, fun j hj => ?_⟩
  · rcases List.mem_append.1 hj with hj | hj
    · exact h.rng j hj
    · simp at hj; subst hj; exact ⟨h0, h1⟩
  · simp only [takeG, List.nodup_append]
    exact ⟨h.nodup, by simp, fun a ha b hb e => by simp at hb; subst hb; subst e; exact hgi2 ha⟩
  · rcases List.mem_append.1 hj with hj | hj
    · exact h.fresh j hj
    · simp at hj; subst hj; exact hgi1
  · simp only [takeG, List.mem_append, List.mem_singleton]
    by_cases e : j = i
    · subst e; simp [setF_same]
    · rw [setF_ne _ _ e, h.gone' j]; simp [e]
  · by_cases e : u = hdA arcs i
    · rw [e]; exact e2
    · simp only [takeG] at hu; rw [setF_ne _ _ e] at hu; exact h.has' u hu
  · simp only [takeG, List.length_append, List.length_singleton]
    rw [countP_setF e2.1 e2.2 hh, h.cnt]
  · have hold := h.reach p p0 fun j hj => ps j (List.mem_append.2 (.inl hj))
    by_cases e : u = hdA arcs i
    · rw [e]; exact ps i (by simp [takeG]) (hold _ ht)
    · simp only [takeG] at hu; rw [setF_ne _ _ e] at hu; exact hold u hu
  · rcases List.mem_append.1 hj with hj | hj
    · exact ⟨hup (h.ends j hj).1, hup (h.ends j hj).2⟩
    · simp at hj; subst hj; exact ⟨hup ht, setF_same _ _ _⟩
  · simp only [takeG, List.map_append, List.map_cons, List.map_nil, List.nodup_append]
    refine ⟨h.heads.1, by simp, fun a ha b hb e => ?_⟩
    simp at hb
    obtain ⟨j, hj, rfl⟩ := List.mem_map.1 ha
    exact hne (h.ends j hj).2 (e.trans hb)
  · rcases List.mem_append.1 hj with hj | hj
    · exact h.heads.2 j hj
    · simp at hj; subst hj; exact fun e => (hne h.root') e.symm
theorem okG_iff {s : GSt} {i : Int} : okG arcs n root others s i = true ↔ s.gone i = false ∧ s.has (tlA arcs i) = true ∧ s.has (hdA arcs i) = false ∧ EnoughP arcs n (setF s.gone i true) root others := by
  simp only [okG, Bool.and_eq_true, Bool.not_eq_true', enoughB_true, and_assoc]
theorem GInv.iter (N : NetA n arcs root) (gone : Int → Bool) (k : Nat) : GInv arcs n root gone (iterG arcs n root others gone k) := by
  induction k with
  | zero => exact .start N gone
  | succ k ih =>
    rw [iterG]
    rcases stepG_cases (arcs := arcs) (n := n) (root := root) (others := others) (iterG arcs n root others gone k) with ⟨e, _⟩ | ⟨i, a, b, c, e⟩
    · rw [e]; exact ih
    · rw [e]
      obtain ⟨c1, c2, c3, _⟩ := okG_iff.1 c
      exact ih.take N a b c1 c2 c3
theorem GInv.fin (N : NetA n arcs root) (gone : Int → Bool) : GInv arcs n root gone (finG arcs n root others gone) := .iter N gone _
end
end Go.Am
