/- Contracts: how one comes from the root to all that one comes to (arcs). -/
import Derived.Test.YtkgcmgbndapjcaaW36
import Derived.Test.YtkgcmgbndapjcaaW27
import Derived.Test.YtkgcmgbndapjcaaM17
namespace Go.Am
open Go Go.Proofs
set_option linter.unusedVariables false
set_option linter.unusedSimpArgs false
variable {w0 : World}
attribute [local irreducible] AWP ACalls
attribute [local congr] acalls_congr

/-- The walk's three arrays. -/
def qh (H : Heap) (R C b n : Nat) (f : Int → Int) (s : Int → Bool) (cells : List AV) (top : Nat) : Heap :=
  upd (upd (upd H R (some (.arr 1 3 (labI n f) n))) C (some (.arr 1 4 (labB n s) n))) b (some (.arr 1 3 cells top))
structure Dq (H : Heap) (R C b : Nat) : Prop where
  rc : R ≠ C
  rb : R ≠ b
  cb : C ≠ b
  hR : H R = none
  hC : H C = none
  hb : H b = none
section
variable {H : Heap} {R C b n top : Nat} {f : Int → Int} {s : Int → Bool} {cells : List AV}
theorem qh_b : qh H R C b n f s cells top b = some (.arr 1 3 cells top) := by simp [qh]
theorem qh_C (d : Dq H R C b) : qh H R C b n f s cells top C = some (.arr 1 4 (labB n s) n) := by simp [qh, d.cb]
theorem qh_R (d : Dq H R C b) : qh H R C b n f s cells top R = some (.arr 1 3 (labI n f) n) := by simp [qh, d.rc, d.rb]
theorem qh_at (d : Dq H R C b) {x : Nat} {k : Blk} (h : H x = some k) : qh H R C b n f s cells top x = some k := by
  have h1 : x ≠ R := fun e => by rw [e, d.hR] at h; cases h
  have h2 : x ≠ C := fun e => by rw [e, d.hC] at h; cases h
  have h3 : x ≠ b := fun e => by rw [e, d.hb] at h; cases h
  simp [qh, h1, h2, h3, h]
theorem qh_setC (d : Dq H R C b) {w : Int} {x : Bool} (h0 : 0 ≤ w) : upd (qh H R C b n f s cells top) C (some (.arr 1 4 ((labB n s).set w.toNat (B x)) n)) = qh H R C b n f (setF s w x) cells top := by
  unfold qh; rw [upd_comm _ _ _ (Ne.symm d.cb), upd_upd, labB_set h0]
theorem qh_setR (d : Dq H R C b) {w x : Int} (h0 : 0 ≤ w) : upd (qh H R C b n f s cells top) R (some (.arr 1 3 ((labI n f).set w.toNat (I x)) n)) = qh H R C b n (setF f w x) s cells top := by
  unfold qh; rw [upd_comm _ _ _ (Ne.symm d.rb), upd_comm _ _ _ (Ne.symm d.rc), upd_upd, labI_setF h0]
theorem qh_app {cells' : List AV} {top' : Nat} : upd (qh H R C b n f s cells top) b (some (.arr 1 3 cells' top')) = qh H R C b n f s cells' top' := by simp [qh]
theorem qh_none (d : Dq H R C b) {b' : Nat} (h : qh H R C b n f s cells top b' = none) : b' ≠ b ∧ Dq H R C b' := by
  unfold qh at h
  by_cases e1 : b' = b
  · subst e1; simp [upd_same] at h
  rw [upd_ne _ _ _ e1] at h
  by_cases e2 : b' = C
  · subst e2; simp [upd_same] at h
  rw [upd_ne _ _ _ e2] at h
  by_cases e3 : b' = R
  · subst e3; simp [upd_same] at h
  rw [upd_ne _ _ _ e3] at h
  exact ⟨e1, d.rc, Ne.symm e3, Ne.symm e2, d.hR, d.hC, h⟩
theorem qh_new (d : Dq H R C b) {b' : Nat} {cells' : List AV} {top' : Nat} : upd (upd (qh H R C b n f s cells top) b none) b' (some (.arr 1 3 cells' top')) = qh H R C b' n f s cells' top' := by
  unfold qh
  rw [upd_upd]
  congr 1
  exact upd_none_self (by rw [upd_ne _ _ _ (Ne.symm d.cb), upd_ne _ _ _ (Ne.symm d.rb)]; exact d.hb)
end

/-- A network's arcs, and the root. -/
structure NetA (n : Nat) (arcs : List (Int × Int)) (root : Int) : Prop where
  nle : n ≤ 64
  mle : arcs.length ≤ 64
  root : 0 ≤ root ∧ root < n
  ends : ∀ i : Int, 0 ≤ i → i < arcs.length → (0 ≤ tlA arcs i ∧ tlA arcs i < n) ∧ 0 ≤ hdA arcs i ∧ hdA arcs i < n
theorem tlA_get {arcs : List (Int × Int)} {k : Nat} (h : k < arcs.length) : arcs[k].1 = tlA arcs k := by simp [tlA, h]
theorem hdA_get {arcs : List (Int × Int)} {k : Nat} (h : k < arcs.length) : arcs[k].2 = hdA arcs k := by simp [hdA, h]

/-- The blocks of a flow. -/
structure FlowH (H : Heap) (F G L n : Nat) (arcs : List (Int × Int)) (gone full : Int → Bool) : Prop where
  lg : L ≠ G
  hF : H F = some (.box [I n, pairs arcs, .ref G 0 arcs.length arcs.length, .ref L 0 arcs.length arcs.length])
  hG : H G = some (.arr 1 4 (labB arcs.length gone) arcs.length)
  hL : H L = some (.arr 1 4 (labB arcs.length full) arcs.length)

theorem labI_rep' (n : Nat) (x : Int) : List.replicate n (I x) = labI n (fun _ => x) := by rw [← labI_rep, List.map_replicate]

set_option maxHeartbeats 4000000 in
theorem walk_use {H : Heap} {F G L n : Nat} {arcs : List (Int × Int)} {gone full : Int → Bool} {root : Int} (N : NetA n arcs root) (fh : FlowH H F G L n arcs gone full) {K : AV → Heap → Prop}
    (k : ∀ by' come, WkA arcs n gone full root by' come → K (.tup [.sl (labI n by') n, .sl (labB n come) n]) H) : ACalls Try.prog w0 57 [.ptr F 0 0, I root] H K := by
  refine (?_ : ACalls Try.prog w0 57 [.ptr F 0 0, I root] H (fun v H' => ∃ by' come, WkA arcs n gone full root by' come ∧ v = .tup [.sl (labI n by') n, .sl (labB n come) n] ∧ Sub H H')).drop ?_
  rotate_left
  · rintro v H' ⟨by', come, w, rfl, s⟩
    exact ⟨_, s, k by' come w⟩
  clear k K
  have hn := N.nle
  have hm := N.mle
  have hF := fh.hF
  refine w_enter Try.func57 rfl Try.ntmps57 (ts := [4, 5]) rfl (by simp) (by kernel_rfl) ?_
  repeat' (first
    | (with_reducible refine awp_skip ?_)
    | (with_reducible refine then_any ?_)
    | (with_reducible refine then_ret ?_)
    | (with_reducible refine then_exit ?_)
    | (with_reducible refine inBlock_normal ?_)
    | (with_reducible refine inBlock_ret ?_)
    | (with_reducible refine inBlock_hit ?_)
    | (with_reducible refine inBlock_miss (by decide) ?_)
    | (with_reducible refine awp_ret ?_)
    | (with_reducible refine awp_exit ?_)
    | (with_reducible refine post_ret ?_)
    | (with_reducible refine post_normal ?_)
    | (with_reducible refine awp_block ?_)
    | ((fail_if_success (with_reducible refine at_reg 2 ?_)); with_reducible refine v_reg [] (fun K hK => ?_))
    | (with_reducible refine v_reg1 [] (fun K hK => ?_))
    | ((fail_if_success (with_reducible refine at_reg 2 ?_)); with_reducible refine v_draw mixed [] [] (by kernel_rfl) (fun K hK => ?_))
    | (with_reducible refine v_draw1 mixed [] [] (by kernel_rfl) (fun K hK => ?_))
    | (with_reducible refine ev_nil (hK _ _ ?_); clear hK K)
    | (with_reducible refine ed_nil (hK _ _ ?_); clear hK K)
    | ((first | with_reducible refine ev_cons (fun K' hK' => ?_) | with_reducible refine ed_cons (fun K' hK' => ?_) | (with_reducible refine ev_id ?_; refine ev_guard rfl (fun K' hK' => ?_)) | (with_reducible refine ed_id ?_; refine ed_guard rfl (fun K' hK' => ?_))); simp [hF]; repeat' (first | (with_reducible refine hK' _ _ ?_; clear hK' K') | ((with_reducible refine RetNew.use (repeat_new (x := -1) (n := n) (by omega)) (fun R hR => ?_)); try simp [hF]) | (with_reducible refine And.intro ?_ ?_) | (with_reducible intro hg) | (clear hK' K'; omega)))
    | (with_reducible refine w_cond (fun A B hA hB => ?_); simp [hF]; repeat' (first | (with_reducible refine hA ?_; clear hA hB A B) | (with_reducible refine hB ?_; clear hA hB A B) | (with_reducible refine And.intro ?_ ?_) | (with_reducible intro hc)))
    | ((fail_if_success (with_reducible refine at_reg 2 ?_)); with_reducible refine awp_seq ?_))
  have hFR : F ≠ R := fun e => by rw [e, hR] at hF; cases hF
  have hRF : R ≠ F := Ne.symm hFR
  repeat' (first
    | (with_reducible refine awp_skip ?_)
    | (with_reducible refine then_any ?_)
    | (with_reducible refine then_ret ?_)
    | (with_reducible refine then_exit ?_)
    | (with_reducible refine inBlock_normal ?_)
    | (with_reducible refine inBlock_ret ?_)
    | (with_reducible refine inBlock_hit ?_)
    | (with_reducible refine inBlock_miss (by decide) ?_)
    | (with_reducible refine awp_ret ?_)
    | (with_reducible refine awp_exit ?_)
    | (with_reducible refine post_ret ?_)
    | (with_reducible refine post_normal ?_)
    | (with_reducible refine awp_block ?_)
    | ((fail_if_success (with_reducible refine at_reg 3 ?_)); with_reducible refine v_reg [] (fun K hK => ?_))
    | (with_reducible refine v_reg1 [] (fun K hK => ?_))
    | ((fail_if_success (with_reducible refine at_reg 3 ?_)); with_reducible refine v_draw mixed [] [] (by kernel_rfl) (fun K hK => ?_))
    | (with_reducible refine v_draw1 mixed [] [] (by kernel_rfl) (fun K hK => ?_))
    | (with_reducible refine ev_nil (hK _ _ ?_); clear hK K)
    | (with_reducible refine ed_nil (hK _ _ ?_); clear hK K)
    | ((first | with_reducible refine ev_cons (fun K' hK' => ?_) | with_reducible refine ed_cons (fun K' hK' => ?_) | (with_reducible refine ev_id ?_; refine ev_guard rfl (fun K' hK' => ?_)) | (with_reducible refine ed_id ?_; refine ed_guard rfl (fun K' hK' => ?_))); simp [hF, hFR, hRF]; repeat' (first | (with_reducible refine hK' _ _ ?_; clear hK' K') | (with_reducible refine And.intro ?_ ?_) | (with_reducible intro hg) | (clear hK' K'; omega)))
    | (with_reducible refine w_cond (fun A B hA hB => ?_); simp [hF, hFR, hRF]; repeat' (first | (with_reducible refine hA ?_; clear hA hB A B) | (with_reducible refine hB ?_; clear hA hB A B) | (with_reducible refine And.intro ?_ ?_) | (with_reducible intro hc)))
    | ((fail_if_success (with_reducible refine at_reg 3 ?_)); with_reducible refine awp_seq ?_))
  rename_i C
  have hCR : C ≠ R := by rintro rfl; simp at hg
  have hC : H C = none := by rw [if_neg hCR] at hg; exact hg
  clear hg
  have hrn : root.toNat < n := by have := N.root; omega
  have hset := labB_set (n := n) (s := fun _ => false) (x := true) N.root.1
  have hll := labB_length n (fun _ => false)
  rw [labI_rep', labB_rep]
  repeat' (first
    | (with_reducible refine awp_skip ?_)
    | (with_reducible refine then_any ?_)
    | (with_reducible refine then_ret ?_)
    | (with_reducible refine then_exit ?_)
    | (with_reducible refine inBlock_normal ?_)
    | (with_reducible refine inBlock_ret ?_)
    | (with_reducible refine inBlock_hit ?_)
    | (with_reducible refine inBlock_miss (by decide) ?_)
    | (with_reducible refine awp_ret ?_)
    | (with_reducible refine awp_exit ?_)
    | (with_reducible refine post_ret ?_)
    | (with_reducible refine post_normal ?_)
    | (with_reducible refine awp_block ?_)
    | (with_reducible refine v_reg [29] (fun K hK => ?_))
    | (with_reducible refine v_reg1 [29] (fun K hK => ?_))
    | (with_reducible refine v_draw mixed [29] [] (by kernel_rfl) (fun K hK => ?_))
    | (with_reducible refine v_draw1 mixed [29] [] (by kernel_rfl) (fun K hK => ?_))
    | (with_reducible refine ev_nil (hK _ _ ?_); clear hK K)
    | (with_reducible refine ed_nil (hK _ _ ?_); clear hK K)
    | ((first | with_reducible refine ev_cons (fun K' hK' => ?_) | with_reducible refine ed_cons (fun K' hK' => ?_) | (with_reducible refine ev_id ?_; refine ev_guard rfl (fun K' hK' => ?_)) | (with_reducible refine ed_id ?_; refine ed_guard rfl (fun K' hK' => ?_))); simp [N.root.1, N.root.2, hrn, hset, hll]; repeat' (first | (with_reducible refine hK' _ _ ?_; clear hK' K') | (with_reducible refine And.intro ?_ ?_) | (with_reducible intro hg) | (clear hK' K'; omega)))
    | (with_reducible refine w_cond (fun A B hA hB => ?_); simp [N.root.1, N.root.2, hrn, hset, hll]; repeat' (first | (with_reducible refine hA ?_; clear hA hB A B) | (with_reducible refine hB ?_; clear hA hB A B) | (with_reducible refine And.intro ?_ ?_) | (with_reducible intro hc)))
    | (with_reducible refine awp_seq ?_))
  rename_i b
  have d : Dq H R C b := by
    have h1 : b ≠ C := by rintro rfl; simp at hg
    rw [if_neg h1] at hg
    have h2 : b ≠ R := by rintro rfl; simp at hg
    rw [if_neg h2] at hg
    exact ⟨Ne.symm hCR, Ne.symm h2, Ne.symm h1, hR, hC, hg⟩
  clear hg hset hll
  refine awp_loop_g (fun m env h => ∃ (f : Int → Int) (s : Int → Bool) (q : List Int) (b off : Nat) (cells : List AV), WOut arcs n gone full root f s q ∧ m = 2 * unseen n s + q.length ∧ m ≤ 200 ∧ Dq H R C b ∧
      env 0 = .ptr F 0 0 ∧ env 6 = .ref R 0 n n ∧ env 7 = .ref C 0 n n ∧ env 8 = .ref b off q.length (off + q.length) ∧ cells.length = off + q.length ∧ cells.drop off = q.map I ∧ h = qh H R C b n f s cells (off + q.length)) ?_ ?_
  · have hu : unseen n (setF (fun _ => false) root true) ≤ n := by
      unfold unseen
      have := List.countP_le_length (p := fun k => !setF (fun _ => false) root true k) (l := upto n)
      rwa [upto_length] at this
    exact ⟨_, _, _, [root], b, 0, [I root], .start N.root, rfl, by simp only [List.length_singleton]; omega, d, by simp, by simp, by simp, by simp, by simp, by simp, rfl⟩
  clear d
  clear b
  rintro m env h ⟨f, s, q, b, off, cells, hO, hm', hm200, d, h0, h6, h7, h8, hcl, hcd, rfl⟩
  have eF : ∀ {f s b cells top}, Dq H R C b → qh H R C b n f s cells top F = _ := fun d => qh_at d hF
  have eG : ∀ {f s b cells top}, Dq H R C b → qh H R C b n f s cells top G = _ := fun d => qh_at d fh.hG
  have eL : ∀ {f s b cells top}, Dq H R C b → qh H R C b n f s cells top L = _ := fun d => qh_at d fh.hL
  cases q with
  | nil =>
    simp only [List.length_nil, Nat.add_zero] at *
    repeat' (first
      | (with_reducible refine awp_skip ?_)
      | (with_reducible refine then_any ?_)
      | (with_reducible refine then_ret ?_)
      | (with_reducible refine then_exit ?_)
      | (with_reducible refine inBlock_normal ?_)
      | (with_reducible refine inBlock_ret ?_)
      | (with_reducible refine inBlock_hit ?_)
      | (with_reducible refine inBlock_miss (by decide) ?_)
      | (with_reducible refine awp_ret ?_)
      | (with_reducible refine awp_exit ?_)
      | (with_reducible refine post_ret ?_)
      | (with_reducible refine post_normal ?_)
      | (with_reducible refine awp_block ?_)
      | ((fail_if_success (with_reducible refine at_reg 18 ?_)); with_reducible refine v_reg [] (fun K hK => ?_))
      | (with_reducible refine v_reg1 [] (fun K hK => ?_))
      | ((fail_if_success (with_reducible refine at_reg 18 ?_)); with_reducible refine v_draw mixed [] [] (by kernel_rfl) (fun K hK => ?_))
      | (with_reducible refine v_draw1 mixed [] [] (by kernel_rfl) (fun K hK => ?_))
      | (with_reducible refine ev_nil (hK _ _ ?_); clear hK K)
      | (with_reducible refine ed_nil (hK _ _ ?_); clear hK K)
      | ((first | with_reducible refine ev_cons (fun K' hK' => ?_) | with_reducible refine ed_cons (fun K' hK' => ?_) | (with_reducible refine ev_id ?_; refine ev_guard rfl (fun K' hK' => ?_)) | (with_reducible refine ed_id ?_; refine ed_guard rfl (fun K' hK' => ?_))); simp [h0, h6, h7, h8]; repeat' (first | (with_reducible refine hK' _ _ ?_; clear hK' K') | (with_reducible refine And.intro ?_ ?_) | (with_reducible intro hg) | (clear hK' K'; omega)))
      | (with_reducible refine w_cond (fun A B hA hB => ?_); simp [h0, h6, h7, h8]; repeat' (first | (with_reducible refine hA ?_; clear hA hB A B) | (with_reducible refine hB ?_; clear hA hB A B) | (with_reducible refine And.intro ?_ ?_) | (with_reducible intro hc)))
      | ((fail_if_success (with_reducible refine at_reg 18 ?_)); with_reducible refine awp_seq ?_))
    refine awp_freeze 6 (r := R) (off := 0) (len := n) (top := n) (by simp [h6]) (qh_R d) ?_
    refine awp_freeze 7 (r := C) (off := 0) (len := n) (top := n) (by simp [h7]) (by rw [upd_ne _ _ _ (Ne.symm d.rc)]; exact qh_C d) ?_
    rw [cut_all (by rw [labI_length]; omega), cut_all (by rw [labB_length]; omega)]
    repeat' (first
      | (with_reducible refine awp_skip ?_)
      | (with_reducible refine then_any ?_)
      | (with_reducible refine then_ret ?_)
      | (with_reducible refine then_exit ?_)
      | (with_reducible refine inBlock_normal ?_)
      | (with_reducible refine inBlock_ret ?_)
      | (with_reducible refine inBlock_hit ?_)
      | (with_reducible refine inBlock_miss (by decide) ?_)
      | (with_reducible refine awp_ret ?_)
      | (with_reducible refine awp_exit ?_)
      | (with_reducible refine post_ret ?_)
      | (with_reducible refine post_normal ?_)
      | (with_reducible refine awp_block ?_)
      | (with_reducible refine v_reg [] (fun K hK => ?_))
      | (with_reducible refine v_reg1 [] (fun K hK => ?_))
      | (with_reducible refine v_draw mixed [] [] (by kernel_rfl) (fun K hK => ?_))
      | (with_reducible refine v_draw1 mixed [] [] (by kernel_rfl) (fun K hK => ?_))
      | (with_reducible refine ev_nil (hK _ _ ?_); clear hK K)
      | (with_reducible refine ed_nil (hK _ _ ?_); clear hK K)
      | ((first | with_reducible refine ev_cons (fun K' hK' => ?_) | with_reducible refine ed_cons (fun K' hK' => ?_) | (with_reducible refine ev_id ?_; refine ev_guard rfl (fun K' hK' => ?_)) | (with_reducible refine ed_id ?_; refine ed_guard rfl (fun K' hK' => ?_))); simp; repeat' (first | (with_reducible refine hK' _ _ ?_; clear hK' K') | (with_reducible refine And.intro ?_ ?_) | (with_reducible intro hg) | (clear hK' K'; omega)))
      | (with_reducible refine w_cond (fun A B hA hB => ?_); simp; repeat' (first | (with_reducible refine hA ?_; clear hA hB A B) | (with_reducible refine hB ?_; clear hA hB A B) | (with_reducible refine And.intro ?_ ?_) | (with_reducible intro hc)))
      | (with_reducible refine awp_seq ?_))
    refine ⟨f, s, hO.fin, by simp, ?_⟩
    have s1 : Sub H (qh H R C b n f s cells off) := (((Sub.refl H).upd hR _).upd hC _).upd d.hb _
    exact (s1.upd hR _).upd hC _
  | cons v q =>
    have hM := hO.pop
    have hv := hM.rng v hM.cur
    have hvn : v.toNat < n := by omega
    have hc0 : cells[off]? = some (I v) := by
      have := congrArg (·[0]?) hcd
      simpa [List.getElem?_drop] using this
    have hlt : off < cells.length := by rw [hcl]; simp
    have hc0' : ∀ h, cells[off]'h = I v := fun h => by rw [List.getElem?_eq_getElem h] at hc0; simpa using hc0
    have hcd1 : cells.drop (off + 1) = q.map I := by
      have := congrArg (List.drop 1) hcd
      simpa [List.drop_drop] using this
    clear hcd hc0 hO
    simp only [List.length_cons] at *
    repeat' (first
      | (with_reducible refine awp_skip ?_)
      | (with_reducible refine then_any ?_)
      | (with_reducible refine then_ret ?_)
      | (with_reducible refine then_exit ?_)
      | (with_reducible refine inBlock_normal ?_)
      | (with_reducible refine inBlock_ret ?_)
      | (with_reducible refine inBlock_hit ?_)
      | (with_reducible refine inBlock_miss (by decide) ?_)
      | (with_reducible refine awp_ret ?_)
      | (with_reducible refine awp_exit ?_)
      | (with_reducible refine post_ret ?_)
      | (with_reducible refine post_normal ?_)
      | (with_reducible refine awp_block ?_)
      | (with_reducible refine v_reg [] (fun K hK => ?_))
      | (with_reducible refine v_reg1 [] (fun K hK => ?_))
      | (with_reducible refine v_draw mixed [] [] (by kernel_rfl) (fun K hK => ?_))
      | (with_reducible refine v_draw1 mixed [] [] (by kernel_rfl) (fun K hK => ?_))
      | (with_reducible refine ev_nil (hK _ _ ?_); clear hK K)
      | (with_reducible refine ed_nil (hK _ _ ?_); clear hK K)
      | ((first | with_reducible refine ev_cons (fun K' hK' => ?_) | with_reducible refine ed_cons (fun K' hK' => ?_) | (with_reducible refine ev_id ?_; refine ev_guard rfl (fun K' hK' => ?_)) | (with_reducible refine ed_id ?_; refine ed_guard rfl (fun K' hK' => ?_))); simp [h0, h6, h7, h8, pairs, qh_b, eF d, hlt, hc0']; repeat' (first | (with_reducible refine hK' _ _ ?_; clear hK' K') | (with_reducible refine And.intro ?_ ?_) | (with_reducible intro hg) | (clear hK' K'; omega)))
      | (with_reducible refine w_cond (fun A B hA hB => ?_); simp [h0, h6, h7, h8, pairs, qh_b, eF d, hlt, hc0']; repeat' (first | (with_reducible refine hA ?_; clear hA hB A B) | (with_reducible refine hB ?_; clear hA hB A B) | (with_reducible refine And.intro ?_ ?_) | (with_reducible intro hc)))
      | (with_reducible refine awp_seq ?_))
    refine awp_loop (fun env h => ∃ (j : Nat) (f' : Int → Int) (s' : Int → Bool) (q' : List Int) (b' off' : Nat) (cells' : List AV), j ≤ arcs.length ∧ WMid arcs n gone full root f' s' q' v j ∧ 2 * unseen n s' + q'.length ≤ 2 * unseen n s + q.length ∧
        env 43 = I j ∧ env 42 = I arcs.length ∧ env 41 = pairs arcs ∧ env 9 = I v ∧ env 0 = .ptr F 0 0 ∧ env 6 = .ref R 0 n n ∧ env 7 = .ref C 0 n n ∧ Dq H R C b' ∧
        env 8 = .ref b' off' q'.length (off' + q'.length) ∧ cells'.length = off' + q'.length ∧ cells'.drop off' = q'.map I ∧ h = qh H R C b' n f' s' cells' (off' + q'.length)) (fun env _ => arcs.length - natA (env 43)) ?_ ?_
    · have e : off + (q.length + 1) = off + 1 + q.length := by omega
      exact ⟨0, f, s, q, b, off + 1, cells, by omega, by simpa using hM, by omega, by simp, by simp, by simp [pairs], by simp, by simp [h0], by simp [h6], by simp [h7], d, by simp [e], by omega, hcd1, by rw [e]⟩
    clear h0 h6 h7 h8 hM hc0' hcl hcd1 hlt d cells off
    clear b
    rintro env h ⟨j, f', s', q', b, off, cells, hj, hM, hsum, h43, h42, h41, h9, h0, h6, h7, d, h8, hcl, hcd, rfl⟩
    have hnat : natA (env 43) = j := by simp [h43]
    rw [hnat]; clear hnat
    by_cases hjl : j < arcs.length
    · have hp := pairs_get hjl
      rw [tlA_get hjl, hdA_get hjl] at hp
      repeat' (first
        | (with_reducible refine awp_skip ?_)
        | (with_reducible refine then_any ?_)
        | (with_reducible refine then_ret ?_)
        | (with_reducible refine then_exit ?_)
        | (with_reducible refine inBlock_normal ?_)
        | (with_reducible refine inBlock_ret ?_)
        | (with_reducible refine inBlock_hit ?_)
        | (with_reducible refine inBlock_miss (by decide) ?_)
        | (with_reducible refine awp_ret ?_)
        | (with_reducible refine awp_exit ?_)
        | (with_reducible refine post_ret ?_)
        | (with_reducible refine post_normal ?_)
        | (with_reducible refine awp_block ?_)
        | ((fail_if_success (with_reducible refine at_reg 12 ?_)); with_reducible refine v_reg [] (fun K hK => ?_))
        | (with_reducible refine v_reg1 [] (fun K hK => ?_))
        | ((fail_if_success (with_reducible refine at_reg 12 ?_)); with_reducible refine v_draw mixed [] [] (by kernel_rfl) (fun K hK => ?_))
        | (with_reducible refine v_draw1 mixed [] [] (by kernel_rfl) (fun K hK => ?_))
        | (with_reducible refine ev_nil (hK _ _ ?_); clear hK K)
        | (with_reducible refine ed_nil (hK _ _ ?_); clear hK K)
        | ((first | with_reducible refine ev_cons (fun K' hK' => ?_) | with_reducible refine ed_cons (fun K' hK' => ?_) | (with_reducible refine ev_id ?_; refine ev_guard rfl (fun K' hK' => ?_)) | (with_reducible refine ed_id ?_; refine ed_guard rfl (fun K' hK' => ?_))); simp [h43, h42, h41, h9, h0, h6, h7, h8, hjl, pairs, pairs_len, sum2, hp.1, hp.2.1, hp.2.2]; repeat' (first | (with_reducible refine hK' _ _ ?_; clear hK' K') | (with_reducible refine And.intro ?_ ?_) | (with_reducible intro hg) | (clear hK' K'; omega)))
        | (with_reducible refine w_cond (fun A B hA hB => ?_); simp [h43, h42, h41, h9, h0, h6, h7, h8, hjl, pairs, pairs_len, sum2, hp.1, hp.2.1, hp.2.2]; repeat' (first | (with_reducible refine hA ?_; clear hA hB A B) | (with_reducible refine hB ?_; clear hA hB A B) | (with_reducible refine And.intro ?_ ?_) | (with_reducible intro hc)))
        | ((fail_if_success (with_reducible refine at_reg 12 ?_)); with_reducible refine awp_seq ?_))
      refine AWP.sub (sub_new hg) ?_
      have lat : ∀ (g : Int → Bool) h, (labB arcs.length g)[j]'h = B (g j) := fun g h => by
        have := labB_at (n := arcs.length) (s := g) (x := (j : Int)) (by omega) (by simpa using h)
        simpa using this
      have ljl : ∀ g : Int → Bool, j < (labB arcs.length g).length := fun g => by rw [labB_length]; exact hjl
      have hen := N.ends j (by omega) (by omega)
      have hto : 0 ≤ toA arcs full j ∧ toA arcs full j < n := by unfold toA; split <;> omega
      have htn : (toA arcs full j).toNat < n := by omega
      have hts : toA arcs full j = if full j then tlA arcs j else hdA arcs j := rfl
      have hfs : frA arcs full j = if full j then hdA arcs j else tlA arcs j := rfl
      obtain ⟨to, hto'⟩ : ∃ x, x = toA arcs full j := ⟨_, rfl⟩
      obtain ⟨fr, hfr'⟩ : ∃ x, x = frA arcs full j := ⟨_, rfl⟩
      rw [← hto'] at hto htn hts
      rw [← hfr'] at hfs
      have cat : ∀ (g : Int → Bool) h, (labB n g)[to.toNat]'h = B (g to) := fun g h => labB_at hto.1 h
      have cln : ∀ g : Int → Bool, to.toNat < (labB n g).length := fun g => by rw [labB_length]; exact htn
      have rln : ∀ g : Int → Int, to.toNat < (labI n g).length := fun g => by rw [labI_length]; exact htn
      have hql : q'.length ≤ 4096 := by omega
      by_cases hsk : gone j = true ∨ fr ≠ v ∨ s' to = true
      · have hM2 := hM.skip (by rw [← hfr', ← hto']; exact hsk)
        have hvals : gone j = true ∨ (gone j = false ∧ fr ≠ v) ∨ (gone j = false ∧ fr = v ∧ s' to = true) := by
          cases hg' : gone j
          · rw [hg'] at hsk; by_cases e : fr = v
            · exact .inr (.inr ⟨rfl, e, by simpa [e] using hsk⟩)
            · exact .inr (.inl ⟨rfl, e⟩)
          · exact .inl rfl
        clear hsk
        cases hf : full j
        all_goals
          rw [hf] at hts hfs
          simp only [Bool.false_eq_true, if_false, if_true] at hts hfs
          rw [← hts, ← hfs]
          rcases hvals with hv1 | ⟨hv1, hv2⟩ | ⟨hv1, hv2, hv3⟩
        · repeat' (first
            | (with_reducible refine awp_skip ?_)
            | (with_reducible refine then_any ?_)
            | (with_reducible refine then_ret ?_)
            | (with_reducible refine then_exit ?_)
            | (with_reducible refine inBlock_normal ?_)
            | (with_reducible refine inBlock_ret ?_)
            | (with_reducible refine inBlock_hit ?_)
            | (with_reducible refine inBlock_miss (by decide) ?_)
            | (with_reducible refine awp_ret ?_)
            | (with_reducible refine awp_exit ?_)
            | (with_reducible refine post_ret ?_)
            | (with_reducible refine post_normal ?_)
            | (with_reducible refine awp_block ?_)
            | (with_reducible refine v_reg [] (fun K hK => ?_))
            | (with_reducible refine v_reg1 [] (fun K hK => ?_))
            | (with_reducible refine v_draw mixed [] [] (by kernel_rfl) (fun K hK => ?_))
            | (with_reducible refine v_draw1 mixed [] [] (by kernel_rfl) (fun K hK => ?_))
            | (with_reducible refine ev_nil (hK _ _ ?_); clear hK K)
            | (with_reducible refine ed_nil (hK _ _ ?_); clear hK K)
            | ((first | with_reducible refine ev_cons (fun K' hK' => ?_) | with_reducible refine ed_cons (fun K' hK' => ?_) | (with_reducible refine ev_id ?_; refine ev_guard rfl (fun K' hK' => ?_)) | (with_reducible refine ed_id ?_; refine ed_guard rfl (fun K' hK' => ?_))); simp [h43, h42, h41, h9, h0, h6, h7, h8, pairs, eF d, eL d, eG d, lat, ljl, hf, hv1]; repeat' (first | (with_reducible refine hK' _ _ ?_; clear hK' K') | (with_reducible refine And.intro ?_ ?_) | (with_reducible intro hg) | (clear hK' K'; omega)))
            | (with_reducible refine w_cond (fun A B hA hB => ?_); simp [h43, h42, h41, h9, h0, h6, h7, h8, pairs, eF d, eL d, eG d, lat, ljl, hf, hv1]; repeat' (first | (with_reducible refine hA ?_; clear hA hB A B) | (with_reducible refine hB ?_; clear hA hB A B) | (with_reducible refine And.intro ?_ ?_) | (with_reducible intro hc)))
            | (with_reducible refine awp_seq ?_))
          exact ⟨⟨j + 1, f', s', q', b, off, cells, by omega, hM2, hsum, by simp, by simp [h42], by simp [h41], by simp [h9], by simp [h0], by simp [h6], by simp [h7], d, by simp [h8], hcl, hcd, rfl⟩, by simp; omega⟩
        · repeat' (first
            | (with_reducible refine awp_skip ?_)
            | (with_reducible refine then_any ?_)
            | (with_reducible refine then_ret ?_)
            | (with_reducible refine then_exit ?_)
            | (with_reducible refine inBlock_normal ?_)
            | (with_reducible refine inBlock_ret ?_)
            | (with_reducible refine inBlock_hit ?_)
            | (with_reducible refine inBlock_miss (by decide) ?_)
            | (with_reducible refine awp_ret ?_)
            | (with_reducible refine awp_exit ?_)
            | (with_reducible refine post_ret ?_)
            | (with_reducible refine post_normal ?_)
            | (with_reducible refine awp_block ?_)
            | (with_reducible refine v_reg [] (fun K hK => ?_))
            | (with_reducible refine v_reg1 [] (fun K hK => ?_))
            | (with_reducible refine v_draw mixed [] [] (by kernel_rfl) (fun K hK => ?_))
            | (with_reducible refine v_draw1 mixed [] [] (by kernel_rfl) (fun K hK => ?_))
            | (with_reducible refine ev_nil (hK _ _ ?_); clear hK K)
            | (with_reducible refine ed_nil (hK _ _ ?_); clear hK K)
            | ((first | with_reducible refine ev_cons (fun K' hK' => ?_) | with_reducible refine ed_cons (fun K' hK' => ?_) | (with_reducible refine ev_id ?_; refine ev_guard rfl (fun K' hK' => ?_)) | (with_reducible refine ed_id ?_; refine ed_guard rfl (fun K' hK' => ?_))); simp [h43, h42, h41, h9, h0, h6, h7, h8, pairs, eF d, eL d, eG d, lat, ljl, hf, hv1, hv2]; repeat' (first | (with_reducible refine hK' _ _ ?_; clear hK' K') | (with_reducible refine And.intro ?_ ?_) | (with_reducible intro hg) | (clear hK' K'; omega)))
            | (with_reducible refine w_cond (fun A B hA hB => ?_); simp [h43, h42, h41, h9, h0, h6, h7, h8, pairs, eF d, eL d, eG d, lat, ljl, hf, hv1, hv2]; repeat' (first | (with_reducible refine hA ?_; clear hA hB A B) | (with_reducible refine hB ?_; clear hA hB A B) | (with_reducible refine And.intro ?_ ?_) | (with_reducible intro hc)))
            | (with_reducible refine awp_seq ?_))
          exact ⟨⟨j + 1, f', s', q', b, off, cells, by omega, hM2, hsum, by simp, by simp [h42], by simp [h41], by simp [h9], by simp [h0], by simp [h6], by simp [h7], d, by simp [h8], hcl, hcd, rfl⟩, by simp; omega⟩
        · repeat' (first
            | (with_reducible refine awp_skip ?_)
            | (with_reducible refine then_any ?_)
            | (with_reducible refine then_ret ?_)
            | (with_reducible refine then_exit ?_)
            | (with_reducible refine inBlock_normal ?_)
            | (with_reducible refine inBlock_ret ?_)
            | (with_reducible refine inBlock_hit ?_)
            | (with_reducible refine inBlock_miss (by decide) ?_)
            | (with_reducible refine awp_ret ?_)
            | (with_reducible refine awp_exit ?_)
            | (with_reducible refine post_ret ?_)
            | (with_reducible refine post_normal ?_)
            | (with_reducible refine awp_block ?_)
            | (with_reducible refine v_reg [] (fun K hK => ?_))
            | (with_reducible refine v_reg1 [] (fun K hK => ?_))
            | (with_reducible refine v_draw mixed [] [] (by kernel_rfl) (fun K hK => ?_))
            | (with_reducible refine v_draw1 mixed [] [] (by kernel_rfl) (fun K hK => ?_))
            | (with_reducible refine ev_nil (hK _ _ ?_); clear hK K)
            | (with_reducible refine ed_nil (hK _ _ ?_); clear hK K)
            | ((first | with_reducible refine ev_cons (fun K' hK' => ?_) | with_reducible refine ed_cons (fun K' hK' => ?_) | (with_reducible refine ev_id ?_; refine ev_guard rfl (fun K' hK' => ?_)) | (with_reducible refine ed_id ?_; refine ed_guard rfl (fun K' hK' => ?_))); simp [h43, h42, h41, h9, h0, h6, h7, h8, pairs, eF d, eL d, eG d, qh_C d, cat, cln, labB_length, hjl, hto.1, htn, lat, ljl, hf, hv1, hv2, hv3]; repeat' (first | (with_reducible refine hK' _ _ ?_; clear hK' K') | (with_reducible refine And.intro ?_ ?_) | (with_reducible intro hg) | (clear hK' K'; omega)))
            | (with_reducible refine w_cond (fun A B hA hB => ?_); simp [h43, h42, h41, h9, h0, h6, h7, h8, pairs, eF d, eL d, eG d, qh_C d, cat, cln, labB_length, hjl, hto.1, htn, lat, ljl, hf, hv1, hv2, hv3]; repeat' (first | (with_reducible refine hA ?_; clear hA hB A B) | (with_reducible refine hB ?_; clear hA hB A B) | (with_reducible refine And.intro ?_ ?_) | (with_reducible intro hc)))
            | (with_reducible refine awp_seq ?_))
          exact ⟨⟨j + 1, f', s', q', b, off, cells, by omega, hM2, hsum, by simp, by simp [h42], by simp [h41], by simp [h9], by simp [h0], by simp [h6], by simp [h7], d, by simp [h8], hcl, hcd, rfl⟩, by simp; omega⟩
        · repeat' (first
            | (with_reducible refine awp_skip ?_)
            | (with_reducible refine then_any ?_)
            | (with_reducible refine then_ret ?_)
            | (with_reducible refine then_exit ?_)
            | (with_reducible refine inBlock_normal ?_)
            | (with_reducible refine inBlock_ret ?_)
            | (with_reducible refine inBlock_hit ?_)
            | (with_reducible refine inBlock_miss (by decide) ?_)
            | (with_reducible refine awp_ret ?_)
            | (with_reducible refine awp_exit ?_)
            | (with_reducible refine post_ret ?_)
            | (with_reducible refine post_normal ?_)
            | (with_reducible refine awp_block ?_)
            | (with_reducible refine v_reg [] (fun K hK => ?_))
            | (with_reducible refine v_reg1 [] (fun K hK => ?_))
            | (with_reducible refine v_draw mixed [] [] (by kernel_rfl) (fun K hK => ?_))
            | (with_reducible refine v_draw1 mixed [] [] (by kernel_rfl) (fun K hK => ?_))
            | (with_reducible refine ev_nil (hK _ _ ?_); clear hK K)
            | (with_reducible refine ed_nil (hK _ _ ?_); clear hK K)
            | ((first | with_reducible refine ev_cons (fun K' hK' => ?_) | with_reducible refine ed_cons (fun K' hK' => ?_) | (with_reducible refine ev_id ?_; refine ev_guard rfl (fun K' hK' => ?_)) | (with_reducible refine ed_id ?_; refine ed_guard rfl (fun K' hK' => ?_))); simp [h43, h42, h41, h9, h0, h6, h7, h8, pairs, eF d, eL d, eG d, lat, ljl, hf, hv1]; repeat' (first | (with_reducible refine hK' _ _ ?_; clear hK' K') | (with_reducible refine And.intro ?_ ?_) | (with_reducible intro hg) | (clear hK' K'; omega)))
            | (with_reducible refine w_cond (fun A B hA hB => ?_); simp [h43, h42, h41, h9, h0, h6, h7, h8, pairs, eF d, eL d, eG d, lat, ljl, hf, hv1]; repeat' (first | (with_reducible refine hA ?_; clear hA hB A B) | (with_reducible refine hB ?_; clear hA hB A B) | (with_reducible refine And.intro ?_ ?_) | (with_reducible intro hc)))
            | (with_reducible refine awp_seq ?_))
          exact ⟨⟨j + 1, f', s', q', b, off, cells, by omega, hM2, hsum, by simp, by simp [h42], by simp [h41], by simp [h9], by simp [h0], by simp [h6], by simp [h7], d, by simp [h8], hcl, hcd, rfl⟩, by simp; omega⟩
        · repeat' (first
            | (with_reducible refine awp_skip ?_)
            | (with_reducible refine then_any ?_)
            | (with_reducible refine then_ret ?_)
            | (with_reducible refine then_exit ?_)
            | (with_reducible refine inBlock_normal ?_)
            | (with_reducible refine inBlock_ret ?_)
            | (with_reducible refine inBlock_hit ?_)
            | (with_reducible refine inBlock_miss (by decide) ?_)
            | (with_reducible refine awp_ret ?_)
            | (with_reducible refine awp_exit ?_)
            | (with_reducible refine post_ret ?_)
            | (with_reducible refine post_normal ?_)
            | (with_reducible refine awp_block ?_)
            | (with_reducible refine v_reg [] (fun K hK => ?_))
            | (with_reducible refine v_reg1 [] (fun K hK => ?_))
            | (with_reducible refine v_draw mixed [] [] (by kernel_rfl) (fun K hK => ?_))
            | (with_reducible refine v_draw1 mixed [] [] (by kernel_rfl) (fun K hK => ?_))
            | (with_reducible refine ev_nil (hK _ _ ?_); clear hK K)
            | (with_reducible refine ed_nil (hK _ _ ?_); clear hK K)
            | ((first | with_reducible refine ev_cons (fun K' hK' => ?_) | with_reducible refine ed_cons (fun K' hK' => ?_) | (with_reducible refine ev_id ?_; refine ev_guard rfl (fun K' hK' => ?_)) | (with_reducible refine ed_id ?_; refine ed_guard rfl (fun K' hK' => ?_))); simp [h43, h42, h41, h9, h0, h6, h7, h8, pairs, eF d, eL d, eG d, lat, ljl, hf, hv1, hv2]; repeat' (first | (with_reducible refine hK' _ _ ?_; clear hK' K') | (with_reducible refine And.intro ?_ ?_) | (with_reducible intro hg) | (clear hK' K'; omega)))
            | (with_reducible refine w_cond (fun A B hA hB => ?_); simp [h43, h42, h41, h9, h0, h6, h7, h8, pairs, eF d, eL d, eG d, lat, ljl, hf, hv1, hv2]; repeat' (first | (with_reducible refine hA ?_; clear hA hB A B) | (with_reducible refine hB ?_; clear hA hB A B) | (with_reducible refine And.intro ?_ ?_) | (with_reducible intro hc)))
            | (with_reducible refine awp_seq ?_))
          exact ⟨⟨j + 1, f', s', q', b, off, cells, by omega, hM2, hsum, by simp, by simp [h42], by simp [h41], by simp [h9], by simp [h0], by simp [h6], by simp [h7], d, by simp [h8], hcl, hcd, rfl⟩, by simp; omega⟩
        · repeat' (first
            | (with_reducible refine awp_skip ?_)
            | (with_reducible refine then_any ?_)
            | (with_reducible refine then_ret ?_)
            | (with_reducible refine then_exit ?_)
            | (with_reducible refine inBlock_normal ?_)
            | (with_reducible refine inBlock_ret ?_)
            | (with_reducible refine inBlock_hit ?_)
            | (with_reducible refine inBlock_miss (by decide) ?_)
            | (with_reducible refine awp_ret ?_)
            | (with_reducible refine awp_exit ?_)
            | (with_reducible refine post_ret ?_)
            | (with_reducible refine post_normal ?_)
            | (with_reducible refine awp_block ?_)
            | (with_reducible refine v_reg [] (fun K hK => ?_))
            | (with_reducible refine v_reg1 [] (fun K hK => ?_))
            | (with_reducible refine v_draw mixed [] [] (by kernel_rfl) (fun K hK => ?_))
            | (with_reducible refine v_draw1 mixed [] [] (by kernel_rfl) (fun K hK => ?_))
            | (with_reducible refine ev_nil (hK _ _ ?_); clear hK K)
            | (with_reducible refine ed_nil (hK _ _ ?_); clear hK K)
            | ((first | with_reducible refine ev_cons (fun K' hK' => ?_) | with_reducible refine ed_cons (fun K' hK' => ?_) | (with_reducible refine ev_id ?_; refine ev_guard rfl (fun K' hK' => ?_)) | (with_reducible refine ed_id ?_; refine ed_guard rfl (fun K' hK' => ?_))); simp [h43, h42, h41, h9, h0, h6, h7, h8, pairs, eF d, eL d, eG d, qh_C d, cat, cln, labB_length, hjl, hto.1, htn, lat, ljl, hf, hv1, hv2, hv3]; repeat' (first | (with_reducible refine hK' _ _ ?_; clear hK' K') | (with_reducible refine And.intro ?_ ?_) | (with_reducible intro hg) | (clear hK' K'; omega)))
            | (with_reducible refine w_cond (fun A B hA hB => ?_); simp [h43, h42, h41, h9, h0, h6, h7, h8, pairs, eF d, eL d, eG d, qh_C d, cat, cln, labB_length, hjl, hto.1, htn, lat, ljl, hf, hv1, hv2, hv3]; repeat' (first | (with_reducible refine hA ?_; clear hA hB A B) | (with_reducible refine hB ?_; clear hA hB A B) | (with_reducible refine And.intro ?_ ?_) | (with_reducible intro hc)))
            | (with_reducible refine awp_seq ?_))
          exact ⟨⟨j + 1, f', s', q', b, off, cells, by omega, hM2, hsum, by simp, by simp [h42], by simp [h41], by simp [h9], by simp [h0], by simp [h6], by simp [h7], d, by simp [h8], hcl, hcd, rfl⟩, by simp; omega⟩
      · have hv1 : gone j = false := by cases e : gone j; (· rfl); (· exact absurd (.inl e) hsk)
        have hv2 : fr = v := Classical.byContradiction fun e => hsk (.inr (.inl e))
        have hv3 : s' to = false := by cases e : s' to; (· rfl); (· exact absurd (.inr (.inr e)) hsk)
        clear hsk
        have hM2 := hM.new (by omega) (by omega) hv1 (by rw [← hfr', hv2]) (by rw [← hto']; exact hv3) (by rw [← hto']; exact hto)
        rw [← hto'] at hM2
        have hun := unseen_lt hto.1 hto.2 hv3
        have hsetC := qh_setC (R := R) (n := n) (f := f') (s := s') (cells := cells) (top := off + q'.length) d (x := true) hto.1
        have hsetR := qh_setR (R := R) (n := n) (f := f') (s := setF s' to true) (cells := cells) (top := off + q'.length) d (x := (j : Int)) hto.1
        cases hf : full j
        all_goals
          rw [hf] at hts hfs
          simp only [Bool.false_eq_true, if_false, if_true] at hts hfs
          rw [← hts, ← hfs]
          by_cases hoff : off = 0
        · subst hoff
          simp only [Nat.zero_add, List.drop_zero] at *
          repeat' (first
            | (with_reducible refine awp_skip ?_)
            | (with_reducible refine then_any ?_)
            | (with_reducible refine then_ret ?_)
            | (with_reducible refine then_exit ?_)
            | (with_reducible refine inBlock_normal ?_)
            | (with_reducible refine inBlock_ret ?_)
            | (with_reducible refine inBlock_hit ?_)
            | (with_reducible refine inBlock_miss (by decide) ?_)
            | (with_reducible refine awp_ret ?_)
            | (with_reducible refine awp_exit ?_)
            | (with_reducible refine post_ret ?_)
            | (with_reducible refine post_normal ?_)
            | (with_reducible refine awp_block ?_)
            | (with_reducible refine v_reg [] (fun K hK => ?_))
            | (with_reducible refine v_reg1 [] (fun K hK => ?_))
            | (with_reducible refine v_draw mixed [] [] (by kernel_rfl) (fun K hK => ?_))
            | (with_reducible refine v_draw1 mixed [] [] (by kernel_rfl) (fun K hK => ?_))
            | (with_reducible refine ev_nil (hK _ _ ?_); clear hK K)
            | (with_reducible refine ed_nil (hK _ _ ?_); clear hK K)
            | ((first | with_reducible refine ev_cons (fun K' hK' => ?_) | with_reducible refine ed_cons (fun K' hK' => ?_) | (with_reducible refine ev_id ?_; refine ev_guard rfl (fun K' hK' => ?_)) | (with_reducible refine ed_id ?_; refine ed_guard rfl (fun K' hK' => ?_))); simp [h43, h42, h41, h9, h0, h6, h7, h8, pairs, eF d, eL d, eG d, qh_C d, qh_R d, qh_b, cat, cln, rln, labB_length, labI_length, hjl, hto.1, htn, lat, ljl, hf, hv1, hv2, hv3, hsetC, hsetR, qh_app]; repeat' (first | (with_reducible refine hK' _ _ ?_; clear hK' K') | (with_reducible refine And.intro ?_ ?_) | (with_reducible intro hg) | (clear hK' K'; omega)))
            | (with_reducible refine w_cond (fun A B hA hB => ?_); simp [h43, h42, h41, h9, h0, h6, h7, h8, pairs, eF d, eL d, eG d, qh_C d, qh_R d, qh_b, cat, cln, rln, labB_length, labI_length, hjl, hto.1, htn, lat, ljl, hf, hv1, hv2, hv3, hsetC, hsetR, qh_app]; repeat' (first | (with_reducible refine hA ?_; clear hA hB A B) | (with_reducible refine hB ?_; clear hA hB A B) | (with_reducible refine And.intro ?_ ?_) | (with_reducible intro hc)))
            | (with_reducible refine awp_seq ?_))
          exact ⟨⟨j + 1, _, _, q' ++ [to], b, 0, cells ++ [I to], by omega, hM2, by simp only [List.length_append, List.length_singleton]; omega, by simp, by simp [h42], by simp [h41], by simp [h9], by simp [h0], by simp [h6], by simp [h7], d, by simp, by simp [hcl], by simp [hcd], by simp⟩, by simp; omega⟩
        · repeat' (first
            | (with_reducible refine awp_skip ?_)
            | (with_reducible refine then_any ?_)
            | (with_reducible refine then_ret ?_)
            | (with_reducible refine then_exit ?_)
            | (with_reducible refine inBlock_normal ?_)
            | (with_reducible refine inBlock_ret ?_)
            | (with_reducible refine inBlock_hit ?_)
            | (with_reducible refine inBlock_miss (by decide) ?_)
            | (with_reducible refine awp_ret ?_)
            | (with_reducible refine awp_exit ?_)
            | (with_reducible refine post_ret ?_)
            | (with_reducible refine post_normal ?_)
            | (with_reducible refine awp_block ?_)
            | (with_reducible refine v_reg [] (fun K hK => ?_))
            | (with_reducible refine v_reg1 [] (fun K hK => ?_))
            | (with_reducible refine v_draw mixed [] [] (by kernel_rfl) (fun K hK => ?_))
            | (with_reducible refine v_draw1 mixed [] [] (by kernel_rfl) (fun K hK => ?_))
            | (with_reducible refine ev_nil (hK _ _ ?_); clear hK K)
            | (with_reducible refine ed_nil (hK _ _ ?_); clear hK K)
            | ((first | with_reducible refine ev_cons (fun K' hK' => ?_) | with_reducible refine ed_cons (fun K' hK' => ?_) | (with_reducible refine ev_id ?_; refine ev_guard rfl (fun K' hK' => ?_)) | (with_reducible refine ed_id ?_; refine ed_guard rfl (fun K' hK' => ?_))); simp [h43, h42, h41, h9, h0, h6, h7, h8, pairs, eF d, eL d, eG d, qh_C d, qh_R d, qh_b, cat, cln, rln, labB_length, labI_length, hjl, hto.1, htn, lat, ljl, hf, hv1, hv2, hv3, hsetC, hsetR, hoff]; repeat' (first | (with_reducible refine hK' _ _ ?_; clear hK' K') | (with_reducible refine And.intro ?_ ?_) | (with_reducible intro hg) | (clear hK' K'; omega)))
            | (with_reducible refine w_cond (fun A B hA hB => ?_); simp [h43, h42, h41, h9, h0, h6, h7, h8, pairs, eF d, eL d, eG d, qh_C d, qh_R d, qh_b, cat, cln, rln, labB_length, labI_length, hjl, hto.1, htn, lat, ljl, hf, hv1, hv2, hv3, hsetC, hsetR, hoff]; repeat' (first | (with_reducible refine hA ?_; clear hA hB A B) | (with_reducible refine hB ?_; clear hA hB A B) | (with_reducible refine And.intro ?_ ?_) | (with_reducible intro hc)))
            | (with_reducible refine awp_seq ?_))
          rename_i r2
          obtain ⟨n1, d2⟩ := qh_none d hg
          exact ⟨⟨j + 1, _, _, q' ++ [to], r2, 0, q'.map I ++ [I to], by omega, hM2, by simp only [List.length_append, List.length_singleton]; omega, by simp, by simp [h42], by simp [h41], by simp [h9], by simp [h0], by simp [h6], by simp [h7], d2, by simp, by simp, by simp, by simp [qh_new d, hcd]⟩, by simp; omega⟩
        · subst hoff
          simp only [Nat.zero_add, List.drop_zero] at *
          repeat' (first
            | (with_reducible refine awp_skip ?_)
            | (with_reducible refine then_any ?_)
            | (with_reducible refine then_ret ?_)
            | (with_reducible refine then_exit ?_)
            | (with_reducible refine inBlock_normal ?_)
            | (with_reducible refine inBlock_ret ?_)
            | (with_reducible refine inBlock_hit ?_)
            | (with_reducible refine inBlock_miss (by decide) ?_)
            | (with_reducible refine awp_ret ?_)
            | (with_reducible refine awp_exit ?_)
            | (with_reducible refine post_ret ?_)
            | (with_reducible refine post_normal ?_)
            | (with_reducible refine awp_block ?_)
            | (with_reducible refine v_reg [] (fun K hK => ?_))
            | (with_reducible refine v_reg1 [] (fun K hK => ?_))
            | (with_reducible refine v_draw mixed [] [] (by kernel_rfl) (fun K hK => ?_))
            | (with_reducible refine v_draw1 mixed [] [] (by kernel_rfl) (fun K hK => ?_))
            | (with_reducible refine ev_nil (hK _ _ ?_); clear hK K)
            | (with_reducible refine ed_nil (hK _ _ ?_); clear hK K)
            | ((first | with_reducible refine ev_cons (fun K' hK' => ?_) | with_reducible refine ed_cons (fun K' hK' => ?_) | (with_reducible refine ev_id ?_; refine ev_guard rfl (fun K' hK' => ?_)) | (with_reducible refine ed_id ?_; refine ed_guard rfl (fun K' hK' => ?_))); simp [h43, h42, h41, h9, h0, h6, h7, h8, pairs, eF d, eL d, eG d, qh_C d, qh_R d, qh_b, cat, cln, rln, labB_length, labI_length, hjl, hto.1, htn, lat, ljl, hf, hv1, hv2, hv3, hsetC, hsetR, qh_app]; repeat' (first | (with_reducible refine hK' _ _ ?_; clear hK' K') | (with_reducible refine And.intro ?_ ?_) | (with_reducible intro hg) | (clear hK' K'; omega)))
            | (with_reducible refine w_cond (fun A B hA hB => ?_); simp [h43, h42, h41, h9, h0, h6, h7, h8, pairs, eF d, eL d, eG d, qh_C d, qh_R d, qh_b, cat, cln, rln, labB_length, labI_length, hjl, hto.1, htn, lat, ljl, hf, hv1, hv2, hv3, hsetC, hsetR, qh_app]; repeat' (first | (with_reducible refine hA ?_; clear hA hB A B) | (with_reducible refine hB ?_; clear hA hB A B) | (with_reducible refine And.intro ?_ ?_) | (with_reducible intro hc)))
            | (with_reducible refine awp_seq ?_))
          exact ⟨⟨j + 1, _, _, q' ++ [to], b, 0, cells ++ [I to], by omega, hM2, by simp only [List.length_append, List.length_singleton]; omega, by simp, by simp [h42], by simp [h41], by simp [h9], by simp [h0], by simp [h6], by simp [h7], d, by simp, by simp [hcl], by simp [hcd], by simp⟩, by simp; omega⟩
        · repeat' (first
            | (with_reducible refine awp_skip ?_)
            | (with_reducible refine then_any ?_)
            | (with_reducible refine then_ret ?_)
            | (with_reducible refine then_exit ?_)
            | (with_reducible refine inBlock_normal ?_)
            | (with_reducible refine inBlock_ret ?_)
            | (with_reducible refine inBlock_hit ?_)
            | (with_reducible refine inBlock_miss (by decide) ?_)
            | (with_reducible refine awp_ret ?_)
            | (with_reducible refine awp_exit ?_)
            | (with_reducible refine post_ret ?_)
            | (with_reducible refine post_normal ?_)
            | (with_reducible refine awp_block ?_)
            | (with_reducible refine v_reg [] (fun K hK => ?_))
            | (with_reducible refine v_reg1 [] (fun K hK => ?_))
            | (with_reducible refine v_draw mixed [] [] (by kernel_rfl) (fun K hK => ?_))
            | (with_reducible refine v_draw1 mixed [] [] (by kernel_rfl) (fun K hK => ?_))
            | (with_reducible refine ev_nil (hK _ _ ?_); clear hK K)
            | (with_reducible refine ed_nil (hK _ _ ?_); clear hK K)
            | ((first | with_reducible refine ev_cons (fun K' hK' => ?_) | with_reducible refine ed_cons (fun K' hK' => ?_) | (with_reducible refine ev_id ?_; refine ev_guard rfl (fun K' hK' => ?_)) | (with_reducible refine ed_id ?_; refine ed_guard rfl (fun K' hK' => ?_))); simp [h43, h42, h41, h9, h0, h6, h7, h8, pairs, eF d, eL d, eG d, qh_C d, qh_R d, qh_b, cat, cln, rln, labB_length, labI_length, hjl, hto.1, htn, lat, ljl, hf, hv1, hv2, hv3, hsetC, hsetR, hoff]; repeat' (first | (with_reducible refine hK' _ _ ?_; clear hK' K') | (with_reducible refine And.intro ?_ ?_) | (with_reducible intro hg) | (clear hK' K'; omega)))
            | (with_reducible refine w_cond (fun A B hA hB => ?_); simp [h43, h42, h41, h9, h0, h6, h7, h8, pairs, eF d, eL d, eG d, qh_C d, qh_R d, qh_b, cat, cln, rln, labB_length, labI_length, hjl, hto.1, htn, lat, ljl, hf, hv1, hv2, hv3, hsetC, hsetR, hoff]; repeat' (first | (with_reducible refine hA ?_; clear hA hB A B) | (with_reducible refine hB ?_; clear hA hB A B) | (with_reducible refine And.intro ?_ ?_) | (with_reducible intro hc)))
            | (with_reducible refine awp_seq ?_))
          rename_i r2
          obtain ⟨n1, d2⟩ := qh_none d hg
          exact ⟨⟨j + 1, _, _, q' ++ [to], r2, 0, q'.map I ++ [I to], by omega, hM2, by simp only [List.length_append, List.length_singleton]; omega, by simp, by simp [h42], by simp [h41], by simp [h9], by simp [h0], by simp [h6], by simp [h7], d2, by simp, by simp, by simp, by simp [qh_new d, hcd]⟩, by simp; omega⟩
    · have : j = arcs.length := by omega
      subst this
      repeat' (first
        | (with_reducible refine awp_skip ?_)
        | (with_reducible refine then_any ?_)
        | (with_reducible refine then_ret ?_)
        | (with_reducible refine then_exit ?_)
        | (with_reducible refine inBlock_normal ?_)
        | (with_reducible refine inBlock_ret ?_)
        | (with_reducible refine inBlock_hit ?_)
        | (with_reducible refine inBlock_miss (by decide) ?_)
        | (with_reducible refine awp_ret ?_)
        | (with_reducible refine awp_exit ?_)
        | (with_reducible refine post_ret ?_)
        | (with_reducible refine post_normal ?_)
        | (with_reducible refine awp_block ?_)
        | (with_reducible refine v_reg [] (fun K hK => ?_))
        | (with_reducible refine v_reg1 [] (fun K hK => ?_))
        | (with_reducible refine v_draw mixed [] [] (by kernel_rfl) (fun K hK => ?_))
        | (with_reducible refine v_draw1 mixed [] [] (by kernel_rfl) (fun K hK => ?_))
        | (with_reducible refine ev_nil (hK _ _ ?_); clear hK K)
        | (with_reducible refine ed_nil (hK _ _ ?_); clear hK K)
        | ((first | with_reducible refine ev_cons (fun K' hK' => ?_) | with_reducible refine ed_cons (fun K' hK' => ?_) | (with_reducible refine ev_id ?_; refine ev_guard rfl (fun K' hK' => ?_)) | (with_reducible refine ed_id ?_; refine ed_guard rfl (fun K' hK' => ?_))); simp [h43, h42, h41]; repeat' (first | (with_reducible refine hK' _ _ ?_; clear hK' K') | (with_reducible refine And.intro ?_ ?_) | (with_reducible intro hg) | (clear hK' K'; omega)))
        | (with_reducible refine w_cond (fun A B hA hB => ?_); simp [h43, h42, h41]; repeat' (first | (with_reducible refine hA ?_; clear hA hB A B) | (with_reducible refine hB ?_; clear hA hB A B) | (with_reducible refine And.intro ?_ ?_) | (with_reducible intro hc)))
        | (with_reducible refine awp_seq ?_))
      exact ⟨2 * unseen n s' + q'.length, by omega, f', s', q', b, off, cells, hM.end, rfl, by omega, d, by simp [h0], by simp [h6], by simp [h7], by simp [h8], hcl, hcd, rfl⟩
end Go.Am
