/- The laws of chapter 06: one more. -/
import Derived.Test.YtbcgjjkchmgeoaaW43
import Derived.Test.YtbcgjjkchmgeoaaM10
namespace Go.Am
open Go Go.Proofs
set_option linter.unusedVariables false
set_option linter.unusedSimpArgs false
variable {w0 : World}
attribute [local irreducible] AWP ACalls
attribute [local congr] acalls_congr

theorem GrM.app {m : Nat} {adj : List (List Int)} {l : List Int} (h : GrM m adj) (hn : adj.length ≤ 63) (h1 : IsSet l) (h2 : ∀ x ∈ l, 0 ≤ x ∧ x < m) : GrM m (adj ++ [l]) := by
  refine ⟨by simp; omega, h.mle, fun p hp => ?_, fun p hp => ?_⟩
  · rcases List.mem_append.1 hp with hp | hp
    · exact h.set p hp
    · simp at hp; subst hp; exact h1
  · rcases List.mem_append.1 hp with hp | hp
    · exact h.lt p hp
    · simp at hp; subst hp; exact h2

theorem max_own {m : Nat} {adj : List (List Int)} (hG : GrM m adj) {H : Heap} {A n : Nat} {e : TypeId} {cells : List AV} (hc : cells = adj.map ints) (hn : n = adj.length) (hA : H A = none) {K : AV → Heap → Prop}
    (k : ∀ f v, Mtc adj f → cntM adj.length f = v → IsNu m adj v → K (.tup [ints (leftL adj.length f), I v]) H) : ACalls Try.prog w0 50 [I m, .ref A 0 n n] (upd H A (some (.arr 1 e cells n))) K := by
  subst hc; subst hn
  have ha : okLen adj := by have := hG.nle; omega
  have hl : ∀ l ∈ adj, okLen l := fun l hl => by
    have := up_length (hG.set l hl).up (hG.lt l hl)
    have := hG.mle
    omega
  refine acalls_frzG (pre := [I m]) (post := []) (upd_same _ _ _) ?_
  rw [cut_all (by simp), upd_upd, upd_none_self hA]
  exact max_use ha hl hG (fun f g hi => k f _ hi.good.mtc rfl (hi.nu hG))

set_option maxRecDepth 8000 in
set_option maxHeartbeats 4000000 in
theorem matchMore_ret {n : Int} {adj : List (List Int)} {l : List Int} (ha : okLen adj) (hl : ∀ l ∈ adj, okLen l) (hl1 : okLen l) : Ret Try.prog w0 15 [I n, rows adj, ints l] (B true) := by
  intro H
  have c1 := may6_ret (w0 := w0) (n := n) ha hl
  have c2 := may6_ret (w0 := w0) (n := n) (adj := [l]) (by simp) (by simpa using hl1)
  refine w_enter Try.func15 rfl Try.ntmps15 (ts := [6]) rfl (by simp) (by kernel_rfl) ?_
  by_cases h63 : adj.length ≤ 63
  rotate_left
  · have h63' : (63 : Int) < adj.length := by omega
    repeat' (first
      | (with_reducible refine awp_skip ?_)
      | (with_reducible refine then_any ?_)
      | (with_reducible refine then_ret ?_)
      | (with_reducible refine then_exit ?_)
      | (with_reducible refine inBlock_normal ?_)
      | (with_reducible refine inBlock_ret ?_)
      | (with_reducible refine inBlock_hit ?_)
      | (with_reducible refine inBlock_miss (by decide) ?_)
      | (with_reducible refine awp_ret ?_)
      | (with_reducible refine awp_exit ?_)
      | (with_reducible refine post_ret ?_)
      | (with_reducible refine post_normal ?_)
      | (with_reducible refine awp_block ?_)
      | (with_reducible refine v_reg [] (fun K hK => ?_))
      | (with_reducible refine v_reg1 [] (fun K hK => ?_))
      | (with_reducible refine v_draw mixed [] [] (by kernel_rfl) (fun K hK => ?_))
      | (with_reducible refine v_draw1 mixed [] [] (by kernel_rfl) (fun K hK => ?_))
      | (with_reducible refine ev_nil (hK _ _ ?_); clear hK K)
      | (with_reducible refine ed_nil (hK _ _ ?_); clear hK K)
      | ((first | with_reducible refine ev_cons (fun K' hK' => ?_) | with_reducible refine ed_cons (fun K' hK' => ?_) | (with_reducible refine ev_id ?_; refine ev_guard rfl (fun K' hK' => ?_)) | (with_reducible refine ed_id ?_; refine ed_guard rfl (fun K' hK' => ?_))); simp [rows, h63']; repeat' (first | (with_reducible refine hK' _ _ ?_; clear hK' K') | (with_reducible refine Ret.use fixed6_ret ?_; try simp [rows, h63']) | (with_reducible refine And.intro ?_ ?_) | (with_reducible intro hg) | (clear hK' K'; omega)))
      | (with_reducible refine w_cond (fun A B hA hB => ?_); simp [rows, h63']; repeat' (first | (with_reducible refine hA ?_; clear hA hB A B) | (with_reducible refine hB ?_; clear hA hB A B) | (with_reducible refine And.intro ?_ ?_) | (with_reducible intro hc)))
      | (with_reducible refine awp_seq ?_))
    all_goals simp
  have h63' : ¬ (63 : Int) < adj.length := by omega
  simp only [rows, List.map_cons, List.map_nil, List.length_cons, List.length_nil] at c1 c2
  cases hm : mayM n adj with
  | false =>
    rw [hm] at c1
    repeat' (first
      | (with_reducible refine awp_skip ?_)
      | (with_reducible refine then_any ?_)
      | (with_reducible refine then_ret ?_)
      | (with_reducible refine then_exit ?_)
      | (with_reducible refine inBlock_normal ?_)
      | (with_reducible refine inBlock_ret ?_)
      | (with_reducible refine inBlock_hit ?_)
      | (with_reducible refine inBlock_miss (by decide) ?_)
      | (with_reducible refine awp_ret ?_)
      | (with_reducible refine awp_exit ?_)
      | (with_reducible refine post_ret ?_)
      | (with_reducible refine post_normal ?_)
      | (with_reducible refine awp_block ?_)
      | (with_reducible refine v_reg [] (fun K hK => ?_))
      | (with_reducible refine v_reg1 [] (fun K hK => ?_))
      | (with_reducible refine v_draw mixed [] [] (by kernel_rfl) (fun K hK => ?_))
      | (with_reducible refine v_draw1 mixed [] [] (by kernel_rfl) (fun K hK => ?_))
      | (with_reducible refine ev_nil (hK _ _ ?_); clear hK K)
      | (with_reducible refine ed_nil (hK _ _ ?_); clear hK K)
      | ((first | with_reducible refine ev_cons (fun K' hK' => ?_) | with_reducible refine ed_cons (fun K' hK' => ?_) | (with_reducible refine ev_id ?_; refine ev_guard rfl (fun K' hK' => ?_)) | (with_reducible refine ed_id ?_; refine ed_guard rfl (fun K' hK' => ?_))); simp [rows, h63']; repeat' (first | (with_reducible refine hK' _ _ ?_; clear hK' K') | (with_reducible refine Ret.use fixed6_ret ?_; try simp [rows, h63']) | (with_reducible refine Ret.use c1 ?_; try simp [rows, h63']) | (with_reducible refine And.intro ?_ ?_) | (with_reducible intro hg) | (clear hK' K'; omega)))
      | (with_reducible refine w_cond (fun A B hA hB => ?_); simp [rows, h63']; repeat' (first | (with_reducible refine hA ?_; clear hA hB A B) | (with_reducible refine hB ?_; clear hA hB A B) | (with_reducible refine And.intro ?_ ?_) | (with_reducible intro hc)))
      | (with_reducible refine awp_seq ?_))
    all_goals simp
  | true =>
  cases hm2 : mayM n [l] with
  | false =>
    rw [hm] at c1
    rw [hm2] at c2
    repeat' (first
      | (with_reducible refine awp_skip ?_)
      | (with_reducible refine then_any ?_)
      | (with_reducible refine then_ret ?_)
      | (with_reducible refine then_exit ?_)
      | (with_reducible refine inBlock_normal ?_)
      | (with_reducible refine inBlock_ret ?_)
      | (with_reducible refine inBlock_hit ?_)
      | (with_reducible refine inBlock_miss (by decide) ?_)
      | (with_reducible refine awp_ret ?_)
      | (with_reducible refine awp_exit ?_)
      | (with_reducible refine post_ret ?_)
      | (with_reducible refine post_normal ?_)
      | (with_reducible refine awp_block ?_)
      | (with_reducible refine v_reg [] (fun K hK => ?_))
      | (with_reducible refine v_reg1 [] (fun K hK => ?_))
      | (with_reducible refine v_draw mixed [] [] (by kernel_rfl) (fun K hK => ?_))
      | (with_reducible refine v_draw1 mixed [] [] (by kernel_rfl) (fun K hK => ?_))
      | (with_reducible refine ev_nil (hK _ _ ?_); clear hK K)
      | (with_reducible refine ed_nil (hK _ _ ?_); clear hK K)
      | ((first | with_reducible refine ev_cons (fun K' hK' => ?_) | with_reducible refine ed_cons (fun K' hK' => ?_) | (with_reducible refine ev_id ?_; refine ev_guard rfl (fun K' hK' => ?_)) | (with_reducible refine ed_id ?_; refine ed_guard rfl (fun K' hK' => ?_))); simp [rows, h63']; repeat' (first | (with_reducible refine hK' _ _ ?_; clear hK' K') | (with_reducible refine Ret.use fixed6_ret ?_; try simp [rows, h63']) | (with_reducible refine Ret.use c1 ?_; try simp [rows, h63']) | (with_reducible refine Ret.use c2 ?_; try simp [rows, h63']) | (with_reducible refine And.intro ?_ ?_) | (with_reducible intro hg) | (clear hK' K'; omega)))
      | (with_reducible refine w_cond (fun A B hA hB => ?_); simp [rows, h63']; repeat' (first | (with_reducible refine hA ?_; clear hA hB A B) | (with_reducible refine hB ?_; clear hA hB A B) | (with_reducible refine And.intro ?_ ?_) | (with_reducible intro hc)))
      | (with_reducible refine awp_seq ?_))
    all_goals simp
  | true =>
  rw [hm] at c1
  rw [hm2] at c2
  obtain ⟨m, rfl, hG⟩ := mayM_iff.1 hm
  obtain ⟨m', e', hG1⟩ := mayM_iff.1 hm2
  have e2 : m = m' := by omega
  subst e2
  have hGl := hG.app h63 (hG1.set l (by simp)) (hG1.lt l (by simp))
  have hGa := hG.app (l := upto m) h63 (isSet_upto (by have := hG.mle; omega)) (fun x hx => mem_upto.1 hx)
  have hmm := hG.mle
  have m1 : ∀ H K, (∀ f v, Mtc adj f → cntM adj.length f = v → IsNu m adj v → K (.tup [ints (leftL adj.length f), I v]) H) → ACalls Try.prog w0 50 [I m, rows adj] H K := fun H K k => max_use ha hl hG (fun f g hi => k f _ hi.good.mtc rfl (hi.nu hG))
  simp only [rows] at m1
  repeat' (first
    | (with_reducible refine awp_skip ?_)
    | (with_reducible refine then_any ?_)
    | (with_reducible refine then_ret ?_)
    | (with_reducible refine then_exit ?_)
    | (with_reducible refine inBlock_normal ?_)
    | (with_reducible refine inBlock_ret ?_)
    | (with_reducible refine inBlock_hit ?_)
    | (with_reducible refine inBlock_miss (by decide) ?_)
    | (with_reducible refine awp_ret ?_)
    | (with_reducible refine awp_exit ?_)
    | (with_reducible refine post_ret ?_)
    | (with_reducible refine post_normal ?_)
    | (with_reducible refine awp_block ?_)
    | ((fail_if_success (with_reducible refine at_reg 5 ?_)); with_reducible refine v_reg [44, 53] (fun K hK => ?_))
    | (with_reducible refine v_reg1 [44, 53] (fun K hK => ?_))
    | ((fail_if_success (with_reducible refine at_reg 5 ?_)); with_reducible refine v_draw mixed [44, 53] [] (by kernel_rfl) (fun K hK => ?_))
    | (with_reducible refine v_draw1 mixed [44, 53] [] (by kernel_rfl) (fun K hK => ?_))
    | (with_reducible refine ev_nil (hK _ _ ?_); clear hK K)
    | (with_reducible refine ed_nil (hK _ _ ?_); clear hK K)
    | ((first | with_reducible refine ev_cons (fun K' hK' => ?_) | with_reducible refine ed_cons (fun K' hK' => ?_) | (with_reducible refine ev_id ?_; refine ev_guard rfl (fun K' hK' => ?_)) | (with_reducible refine ed_id ?_; refine ed_guard rfl (fun K' hK' => ?_))); simp [rows, h63']; repeat' (first | (with_reducible refine hK' _ _ ?_; clear hK' K') | (with_reducible refine Ret.use fixed6_ret ?_; try simp [rows, h63']) | (with_reducible refine Ret.use c1 ?_; try simp [rows, h63']) | (with_reducible refine Ret.use c2 ?_; try simp [rows, h63']) | ((with_reducible refine m1 _ _ (fun f v hf hfv hv => ?_)); try simp [rows, h63']) | ((with_reducible refine max_own hGl ?_ ?_ ?_ (fun f2 v2 hf2 hfv2 hv2 => ?_); rotate_left 3; (try simp)); try simp [rows, h63']) | (with_reducible refine And.intro ?_ ?_) | (with_reducible intro hg) | (clear hK' K'; omega)))
    | (with_reducible refine w_cond (fun A B hA hB => ?_); simp [rows, h63']; repeat' (first | (with_reducible refine hA ?_; clear hA hB A B) | (with_reducible refine hB ?_; clear hA hB A B) | (with_reducible refine And.intro ?_ ?_) | (with_reducible intro hc)))
    | ((fail_if_success (with_reducible refine at_reg 5 ?_)); with_reducible refine awp_seq ?_))
  rotate_left
  · simp
  · simp
  have hvn := nu_le hv
  have hvm := nu_le_r hG hv
  have hvm2 := nu_le_r hGl hv2
  obtain ⟨q1, q2⟩ := nu_more h63 hv hv2
  clear hfv hfv2
  repeat' (first
    | (with_reducible refine awp_skip ?_)
    | (with_reducible refine then_any ?_)
    | (with_reducible refine then_ret ?_)
    | (with_reducible refine then_exit ?_)
    | (with_reducible refine inBlock_normal ?_)
    | (with_reducible refine inBlock_ret ?_)
    | (with_reducible refine inBlock_hit ?_)
    | (with_reducible refine inBlock_miss (by decide) ?_)
    | (with_reducible refine awp_ret ?_)
    | (with_reducible refine awp_exit ?_)
    | (with_reducible refine post_ret ?_)
    | (with_reducible refine post_normal ?_)
    | (with_reducible refine awp_block ?_)
    | (with_reducible refine v_reg [53] (fun K hK => ?_))
    | (with_reducible refine v_reg1 [53] (fun K hK => ?_))
    | (with_reducible refine v_draw mixed [53] [] (by kernel_rfl) (fun K hK => ?_))
    | (with_reducible refine v_draw1 mixed [53] [] (by kernel_rfl) (fun K hK => ?_))
    | (with_reducible refine ev_nil (hK _ _ ?_); clear hK K)
    | (with_reducible refine ed_nil (hK _ _ ?_); clear hK K)
    | ((first | with_reducible refine ev_cons (fun K' hK' => ?_) | with_reducible refine ed_cons (fun K' hK' => ?_) | (with_reducible refine ev_id ?_; refine ev_guard rfl (fun K' hK' => ?_)) | (with_reducible refine ed_id ?_; refine ed_guard rfl (fun K' hK' => ?_))); simp; repeat' (first | (with_reducible refine hK' _ _ ?_; clear hK' K') | (with_reducible refine And.intro ?_ ?_) | (with_reducible intro hg) | (clear hK' K'; omega)))
    | (with_reducible refine w_cond (fun A B hA hB => ?_); simp; repeat' (first | (with_reducible refine hA ?_; clear hA hB A B) | (with_reducible refine hB ?_; clear hA hB A B) | (with_reducible refine And.intro ?_ ?_) | (with_reducible intro hc)))
    | (with_reducible refine awp_seq ?_))
  rename_i B
  have hB : H B = none := hg
  clear hg
  refine awp_loop (fun env h => ∃ k : Nat, k ≤ m ∧ env 12 = I k ∧ env 11 = .ref B 0 k k ∧ env 0 = I m ∧ env 1 = .sl (adj.map ints) adj.length ∧ env 8 = I v ∧ env 10 = I v2 ∧ h = upd H B (some (.arr 1 3 ((upto k).map I) k))) (fun env _ => m - natA (env 12)) ?_ ?_
  · exact ⟨0, by omega, by simp, by simp, by simp, by simp, by simp, by simp, by simp [upto]⟩
  rintro env h ⟨k, hk, h12, h11, h0, h1, h8, h10, rfl⟩
  have hnat : natA (env 12) = k := by simp [h12]
  rw [hnat]; clear hnat
  by_cases hlt : k < m
  · have hup : (upto (k + 1)).map I = (upto k).map I ++ [I (k : Int)] := by simp [upto, List.range_succ]
    have hul : ((upto k).map I).length = k := by simp
    generalize (upto k).map I = cells at *
    repeat' (first
      | (with_reducible refine awp_skip ?_)
      | (with_reducible refine then_any ?_)
      | (with_reducible refine then_ret ?_)
      | (with_reducible refine then_exit ?_)
      | (with_reducible refine inBlock_normal ?_)
      | (with_reducible refine inBlock_ret ?_)
      | (with_reducible refine inBlock_hit ?_)
      | (with_reducible refine inBlock_miss (by decide) ?_)
      | (with_reducible refine awp_ret ?_)
      | (with_reducible refine awp_exit ?_)
      | (with_reducible refine post_ret ?_)
      | (with_reducible refine post_normal ?_)
      | (with_reducible refine awp_block ?_)
      | (with_reducible refine v_reg [] (fun K hK => ?_))
      | (with_reducible refine v_reg1 [] (fun K hK => ?_))
      | (with_reducible refine v_draw mixed [] [] (by kernel_rfl) (fun K hK => ?_))
      | (with_reducible refine v_draw1 mixed [] [] (by kernel_rfl) (fun K hK => ?_))
      | (with_reducible refine ev_nil (hK _ _ ?_); clear hK K)
      | (with_reducible refine ed_nil (hK _ _ ?_); clear hK K)
      | ((first | with_reducible refine ev_cons (fun K' hK' => ?_) | with_reducible refine ed_cons (fun K' hK' => ?_) | (with_reducible refine ev_id ?_; refine ev_guard rfl (fun K' hK' => ?_)) | (with_reducible refine ed_id ?_; refine ed_guard rfl (fun K' hK' => ?_))); simp [h12, h11, h0, h1, h8, h10, hlt, hul]; repeat' (first | (with_reducible refine hK' _ _ ?_; clear hK' K') | (with_reducible refine And.intro ?_ ?_) | (with_reducible intro hg) | (clear hK' K'; omega)))
      | (with_reducible refine w_cond (fun A B hA hB => ?_); simp [h12, h11, h0, h1, h8, h10, hlt, hul]; repeat' (first | (with_reducible refine hA ?_; clear hA hB A B) | (with_reducible refine hB ?_; clear hA hB A B) | (with_reducible refine And.intro ?_ ?_) | (with_reducible intro hc)))
      | (with_reducible refine awp_seq ?_))
    all_goals try omega
    exact ⟨⟨k + 1, by omega, by simp, by simp, by simp [h0], by simp [h1], by simp [h8], by simp [h10], by rw [hup]⟩, by simp; omega⟩
  · have hkm : k = m := by omega
    subst hkm
    refine awp_frz 11 h11 hB fun env' he' he2 => ?_
    rw [cut_all (by simp)] at he'
    have g11 : env' 11 = ints (upto k) := by rw [he']; simp [ints]
    have g12 : env' 12 = I k := by rw [he2 _ (by decide), h12]
    have g0 : env' 0 = I k := by rw [he2 _ (by decide), h0]
    have g1 : env' 1 = .sl (adj.map ints) adj.length := by rw [he2 _ (by decide), h1]
    have g8 : env' 8 = I v := by rw [he2 _ (by decide), h8]
    have g10 : env' 10 = I v2 := by rw [he2 _ (by decide), h10]
    repeat' (first
      | (with_reducible refine awp_skip ?_)
      | (with_reducible refine then_any ?_)
      | (with_reducible refine then_ret ?_)
      | (with_reducible refine then_exit ?_)
      | (with_reducible refine inBlock_normal ?_)
      | (with_reducible refine inBlock_ret ?_)
      | (with_reducible refine inBlock_hit ?_)
      | (with_reducible refine inBlock_miss (by decide) ?_)
      | (with_reducible refine awp_ret ?_)
      | (with_reducible refine awp_exit ?_)
      | (with_reducible refine post_ret ?_)
      | (with_reducible refine post_normal ?_)
      | (with_reducible refine awp_block ?_)
      | ((fail_if_success (with_reducible refine at_reg 11 ?_)); with_reducible refine v_reg [65] (fun K hK => ?_))
      | (with_reducible refine v_reg1 [65] (fun K hK => ?_))
      | ((fail_if_success (with_reducible refine at_reg 11 ?_)); with_reducible refine v_draw mixed [65] [] (by kernel_rfl) (fun K hK => ?_))
      | (with_reducible refine v_draw1 mixed [65] [] (by kernel_rfl) (fun K hK => ?_))
      | (with_reducible refine ev_nil (hK _ _ ?_); clear hK K)
      | (with_reducible refine ed_nil (hK _ _ ?_); clear hK K)
      | ((first | with_reducible refine ev_cons (fun K' hK' => ?_) | with_reducible refine ed_cons (fun K' hK' => ?_) | (with_reducible refine ev_id ?_; refine ev_guard rfl (fun K' hK' => ?_)) | (with_reducible refine ed_id ?_; refine ed_guard rfl (fun K' hK' => ?_))); simp [g11, g12, g0, g1, g8, g10]; repeat' (first | (with_reducible refine hK' _ _ ?_; clear hK' K') | ((with_reducible refine max_own hGa ?_ ?_ ?_ (fun f3 v3 hf3 hfv3 hv3 => ?_); rotate_left 3; (try simp)); try simp [g11, g12, g0, g1, g8, g10]) | (with_reducible refine And.intro ?_ ?_) | (with_reducible intro hg) | (clear hK' K'; omega)))
      | (with_reducible refine w_cond (fun A B hA hB => ?_); simp [g11, g12, g0, g1, g8, g10]; repeat' (first | (with_reducible refine hA ?_; clear hA hB A B) | (with_reducible refine hB ?_; clear hA hB A B) | (with_reducible refine And.intro ?_ ?_) | (with_reducible intro hc)))
      | ((fail_if_success (with_reducible refine at_reg 11 ?_)); with_reducible refine awp_seq ?_))
    rotate_left
    · simp
    · simp
    have hvm3 := nu_le_r hGa hv3
    have e3 := nu_all h63 hvm hvm3 hv hv3
    have e3' : (v3 : Int) = min ((v : Int) + 1) k := by omega
    by_cases hq : v2 = v
    · subst hq
      repeat' (first
        | (with_reducible refine awp_skip ?_)
        | (with_reducible refine then_any ?_)
        | (with_reducible refine then_ret ?_)
        | (with_reducible refine then_exit ?_)
        | (with_reducible refine inBlock_normal ?_)
        | (with_reducible refine inBlock_ret ?_)
        | (with_reducible refine inBlock_hit ?_)
        | (with_reducible refine inBlock_miss (by decide) ?_)
        | (with_reducible refine awp_ret ?_)
        | (with_reducible refine awp_exit ?_)
        | (with_reducible refine post_ret ?_)
        | (with_reducible refine post_normal ?_)
        | (with_reducible refine awp_block ?_)
        | (with_reducible refine v_reg [] (fun K hK => ?_))
        | (with_reducible refine v_reg1 [] (fun K hK => ?_))
        | (with_reducible refine v_draw mixed [] [] (by kernel_rfl) (fun K hK => ?_))
        | (with_reducible refine v_draw1 mixed [] [] (by kernel_rfl) (fun K hK => ?_))
        | (with_reducible refine ev_nil (hK _ _ ?_); clear hK K)
        | (with_reducible refine ed_nil (hK _ _ ?_); clear hK K)
        | ((first | with_reducible refine ev_cons (fun K' hK' => ?_) | with_reducible refine ed_cons (fun K' hK' => ?_) | (with_reducible refine ev_id ?_; refine ev_guard rfl (fun K' hK' => ?_)) | (with_reducible refine ed_id ?_; refine ed_guard rfl (fun K' hK' => ?_))); simp [g11, g12, g0, g1, g8, g10, e3']; repeat' (first | (with_reducible refine hK' _ _ ?_; clear hK' K') | (with_reducible refine And.intro ?_ ?_) | (with_reducible intro hg) | (clear hK' K'; omega)))
        | (with_reducible refine w_cond (fun A B hA hB => ?_); simp [g11, g12, g0, g1, g8, g10, e3']; repeat' (first | (with_reducible refine hA ?_; clear hA hB A B) | (with_reducible refine hB ?_; clear hA hB A B) | (with_reducible refine And.intro ?_ ?_) | (with_reducible intro hc)))
        | (with_reducible refine awp_seq ?_))
      all_goals try omega
      all_goals simp
    · have hq' : (v2 : Int) = v + 1 := by omega
      have hq2 : ¬ (v : Int) + 1 = v := by omega
      repeat' (first
        | (with_reducible refine awp_skip ?_)
        | (with_reducible refine then_any ?_)
        | (with_reducible refine then_ret ?_)
        | (with_reducible refine then_exit ?_)
        | (with_reducible refine inBlock_normal ?_)
        | (with_reducible refine inBlock_ret ?_)
        | (with_reducible refine inBlock_hit ?_)
        | (with_reducible refine inBlock_miss (by decide) ?_)
        | (with_reducible refine awp_ret ?_)
        | (with_reducible refine awp_exit ?_)
        | (with_reducible refine post_ret ?_)
        | (with_reducible refine post_normal ?_)
        | (with_reducible refine awp_block ?_)
        | (with_reducible refine v_reg [] (fun K hK => ?_))
        | (with_reducible refine v_reg1 [] (fun K hK => ?_))
        | (with_reducible refine v_draw mixed [] [] (by kernel_rfl) (fun K hK => ?_))
        | (with_reducible refine v_draw1 mixed [] [] (by kernel_rfl) (fun K hK => ?_))
        | (with_reducible refine ev_nil (hK _ _ ?_); clear hK K)
        | (with_reducible refine ed_nil (hK _ _ ?_); clear hK K)
        | ((first | with_reducible refine ev_cons (fun K' hK' => ?_) | with_reducible refine ed_cons (fun K' hK' => ?_) | (with_reducible refine ev_id ?_; refine ev_guard rfl (fun K' hK' => ?_)) | (with_reducible refine ed_id ?_; refine ed_guard rfl (fun K' hK' => ?_))); simp [g11, g12, g0, g1, g8, g10, e3', hq', hq2]; repeat' (first | (with_reducible refine hK' _ _ ?_; clear hK' K') | (with_reducible refine And.intro ?_ ?_) | (with_reducible intro hg) | (clear hK' K'; omega)))
        | (with_reducible refine w_cond (fun A B hA hB => ?_); simp [g11, g12, g0, g1, g8, g10, e3', hq', hq2]; repeat' (first | (with_reducible refine hA ?_; clear hA hB A B) | (with_reducible refine hB ?_; clear hA hB A B) | (with_reducible refine And.intro ?_ ?_) | (with_reducible intro hc)))
        | (with_reducible refine awp_seq ?_))
      all_goals try omega
      all_goals simp
#print axioms matchMore_ret
end Go.Am
