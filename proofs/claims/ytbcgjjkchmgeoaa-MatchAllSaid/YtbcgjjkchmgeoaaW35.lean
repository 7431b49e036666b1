/- Contracts: whether two sides may be. -/
import Derived.Test.YtbcgjjkchmgeoaaW34
import Derived.Test.YtbcgjjkchmgeoaaM8
namespace Go.Am
open Go Go.Proofs
set_option linter.unusedVariables false
set_option linter.unusedSimpArgs false
variable {w0 : World}
attribute [local irreducible] AWP ACalls
attribute [local congr] acalls_congr

/-- Whether two sides may be. -/
def mayM (n : Int) (adj : List (List Int)) : Bool := decide (0 ≤ n) && decide (n ≤ 64) && decide (adj.length ≤ 64) && adj.all fun l => ptsB l n

theorem mayM_iff {n : Int} {adj : List (List Int)} : mayM n adj = true ↔ ∃ m : Nat, n = m ∧ GrM m adj := by
  simp only [mayM, ptsB, Bool.and_eq_true, decide_eq_true_eq, List.all_eq_true, rises_iff]
  constructor
  · rintro ⟨⟨⟨h0, h1⟩, h2⟩, h3⟩
    obtain ⟨m, rfl⟩ := Int.eq_ofNat_of_zero_le h0
    exact ⟨m, rfl, h2, by omega, fun l hl => (h3 l hl).1, fun l hl x hx => ⟨((h3 l hl).1.ok x hx).1, (h3 l hl).2 x hx⟩⟩
  · rintro ⟨m, rfl, h1, h2, h3, h4⟩
    exact ⟨⟨⟨by omega, by omega⟩, h1⟩, fun l hl => ⟨h3 l hl, fun x hx => (h4 l hl x hx).2⟩⟩

theorem may82_at {l : List Int} {n : Int} (hl : okLen l) {H : Heap} {r : Nat} (hb : H r = some (.box [I n])) : RetAt Try.prog w0 82 [ints l, .ptr r 0 0] (B (!ptsB l n)) H := by
  refine .of ?_
  refine w_enter Try.func82 rfl Try.ntmps82 (ts := [3]) rfl (by simp) (by kernel_rfl) ?_
  cases hr : risesB (-1) l with
  | false =>
    repeat' (first
      | (with_reducible refine awp_skip ?_)
      | (with_reducible refine then_any ?_)
      | (with_reducible refine then_ret ?_)
      | (with_reducible refine then_exit ?_)
      | (with_reducible refine inBlock_normal ?_)
      | (with_reducible refine inBlock_ret ?_)
      | (with_reducible refine inBlock_hit ?_)
      | (with_reducible refine inBlock_miss (by decide) ?_)
      | (with_reducible refine awp_ret ?_)
      | (with_reducible refine awp_exit ?_)
      | (with_reducible refine post_ret ?_)
      | (with_reducible refine post_normal ?_)
      | (with_reducible refine awp_block ?_)
      | (with_reducible refine v_reg [] (fun K hK => ?_))
      | (with_reducible refine v_reg1 [] (fun K hK => ?_))
      | (with_reducible refine v_draw mixed [] [] (by kernel_rfl) (fun K hK => ?_))
      | (with_reducible refine v_draw1 mixed [] [] (by kernel_rfl) (fun K hK => ?_))
      | (with_reducible refine ev_nil (hK _ _ ?_); clear hK K)
      | (with_reducible refine ed_nil (hK _ _ ?_); clear hK K)
      | ((first | with_reducible refine ev_cons (fun K' hK' => ?_) | with_reducible refine ed_cons (fun K' hK' => ?_) | (with_reducible refine ev_id ?_; refine ev_guard rfl (fun K' hK' => ?_)) | (with_reducible refine ed_id ?_; refine ed_guard rfl (fun K' hK' => ?_))); simp [ints, hr, hb]; repeat' (first | (with_reducible refine hK' _ _ ?_; clear hK' K') | (with_reducible refine Ret.use (may_ret hl) ?_; try simp [ints, hr, hb]) | (with_reducible refine And.intro ?_ ?_) | (with_reducible intro hg) | (clear hK' K'; omega)))
      | (with_reducible refine w_cond (fun A B hA hB => ?_); simp [ints, hr, hb]; repeat' (first | (with_reducible refine hA ?_; clear hA hB A B) | (with_reducible refine hB ?_; clear hA hB A B) | (with_reducible refine And.intro ?_ ?_) | (with_reducible intro hc)))
      | (with_reducible refine awp_seq ?_))
    simp [ptsB, hr]
  | true =>
    by_cases hne : l = []
    · subst hne
      repeat' (first
        | (with_reducible refine awp_skip ?_)
        | (with_reducible refine then_any ?_)
        | (with_reducible refine then_ret ?_)
        | (with_reducible refine then_exit ?_)
        | (with_reducible refine inBlock_normal ?_)
        | (with_reducible refine inBlock_ret ?_)
        | (with_reducible refine inBlock_hit ?_)
        | (with_reducible refine inBlock_miss (by decide) ?_)
        | (with_reducible refine awp_ret ?_)
        | (with_reducible refine awp_exit ?_)
        | (with_reducible refine post_ret ?_)
        | (with_reducible refine post_normal ?_)
        | (with_reducible refine awp_block ?_)
        | (with_reducible refine v_reg [] (fun K hK => ?_))
        | (with_reducible refine v_reg1 [] (fun K hK => ?_))
        | (with_reducible refine v_draw mixed [] [] (by kernel_rfl) (fun K hK => ?_))
        | (with_reducible refine v_draw1 mixed [] [] (by kernel_rfl) (fun K hK => ?_))
        | (with_reducible refine ev_nil (hK _ _ ?_); clear hK K)
        | (with_reducible refine ed_nil (hK _ _ ?_); clear hK K)
        | ((first | with_reducible refine ev_cons (fun K' hK' => ?_) | with_reducible refine ed_cons (fun K' hK' => ?_) | (with_reducible refine ev_id ?_; refine ev_guard rfl (fun K' hK' => ?_)) | (with_reducible refine ed_id ?_; refine ed_guard rfl (fun K' hK' => ?_))); simp [ints, hr, hb]; repeat' (first | (with_reducible refine hK' _ _ ?_; clear hK' K') | ((with_reducible refine Ret.use_eq (may_ret hl) ?_ ?_; (· simp)); try simp [ints, hr, hb]) | (with_reducible refine And.intro ?_ ?_) | (with_reducible intro hg) | (clear hK' K'; omega)))
        | (with_reducible refine w_cond (fun A B hA hB => ?_); simp [ints, hr, hb]; repeat' (first | (with_reducible refine hA ?_; clear hA hB A B) | (with_reducible refine hB ?_; clear hA hB A B) | (with_reducible refine And.intro ?_ ?_) | (with_reducible intro hc)))
        | (with_reducible refine awp_seq ?_))
      all_goals try simp [ptsB, hr]
    · have hpos := List.length_pos_iff.2 hne
      have hlt : l.length - 1 < l.length := by omega
      have hlast := ptsB_last (n := n) hr hne hlt
      have hi : ((l.length : Int) - 1).toNat = l.length - 1 := by omega
      have hi0 : (0 : Int) ≤ (l.length : Int) - 1 := by omega
      repeat' (first
        | (with_reducible refine awp_skip ?_)
        | (with_reducible refine then_any ?_)
        | (with_reducible refine then_ret ?_)
        | (with_reducible refine then_exit ?_)
        | (with_reducible refine inBlock_normal ?_)
        | (with_reducible refine inBlock_ret ?_)
        | (with_reducible refine inBlock_hit ?_)
        | (with_reducible refine inBlock_miss (by decide) ?_)
        | (with_reducible refine awp_ret ?_)
        | (with_reducible refine awp_exit ?_)
        | (with_reducible refine post_ret ?_)
        | (with_reducible refine post_normal ?_)
        | (with_reducible refine awp_block ?_)
        | (with_reducible refine v_reg [] (fun K hK => ?_))
        | (with_reducible refine v_reg1 [] (fun K hK => ?_))
        | (with_reducible refine v_draw mixed [] [] (by kernel_rfl) (fun K hK => ?_))
        | (with_reducible refine v_draw1 mixed [] [] (by kernel_rfl) (fun K hK => ?_))
        | (with_reducible refine ev_nil (hK _ _ ?_); clear hK K)
        | (with_reducible refine ed_nil (hK _ _ ?_); clear hK K)
        | ((first | with_reducible refine ev_cons (fun K' hK' => ?_) | with_reducible refine ed_cons (fun K' hK' => ?_) | (with_reducible refine ev_id ?_; refine ev_guard rfl (fun K' hK' => ?_)) | (with_reducible refine ed_id ?_; refine ed_guard rfl (fun K' hK' => ?_))); simp [ints, hr, hne, hi, hi0, hlt, hb]; repeat' (first | (with_reducible refine hK' _ _ ?_; clear hK' K') | (with_reducible refine Ret.use (may_ret hl) ?_; try simp [ints, hr, hne, hi, hi0, hlt, hb]) | (with_reducible refine And.intro ?_ ?_) | (with_reducible intro hg) | (clear hK' K'; omega)))
        | (with_reducible refine w_cond (fun A B hA hB => ?_); simp [ints, hr, hne, hi, hi0, hlt, hb]; repeat' (first | (with_reducible refine hA ?_; clear hA hB A B) | (with_reducible refine hB ?_; clear hA hB A B) | (with_reducible refine And.intro ?_ ?_) | (with_reducible intro hc)))
        | (with_reducible refine awp_seq ?_))
      all_goals try omega
      all_goals try simp [ptsB, hr, hlast]
      all_goals (by_cases hq : l[l.length - 1] < n <;> simp [hq] <;> omega)

theorem matchMay_ret {n : Int} {adj : List (List Int)} (ha : okLen adj) (hl : ∀ l ∈ adj, okLen l) : Ret Try.prog w0 52 [I n, rows adj] (B (mayM n adj)) := by
  intro H
  have hany : (!adj.any fun l => !ptsB l n) = adj.all fun l => ptsB l n := by rw [List.all_eq_not_any_not]
  refine w_enter Try.func52 rfl Try.ntmps52 (ts := [4]) rfl (by simp) (by kernel_rfl) ?_
  by_cases h0 : n < 0
  · repeat' (first
      | (with_reducible refine awp_skip ?_)
      | (with_reducible refine then_any ?_)
      | (with_reducible refine then_ret ?_)
      | (with_reducible refine then_exit ?_)
      | (with_reducible refine inBlock_normal ?_)
      | (with_reducible refine inBlock_ret ?_)
      | (with_reducible refine inBlock_hit ?_)
      | (with_reducible refine inBlock_miss (by decide) ?_)
      | (with_reducible refine awp_ret ?_)
      | (with_reducible refine awp_exit ?_)
      | (with_reducible refine post_ret ?_)
      | (with_reducible refine post_normal ?_)
      | (with_reducible refine awp_block ?_)
      | (with_reducible refine v_reg [2] (fun K hK => ?_))
      | (with_reducible refine v_reg1 [2] (fun K hK => ?_))
      | (with_reducible refine v_draw mixed [2] [] (by kernel_rfl) (fun K hK => ?_))
      | (with_reducible refine v_draw1 mixed [2] [] (by kernel_rfl) (fun K hK => ?_))
      | (with_reducible refine ev_nil (hK _ _ ?_); clear hK K)
      | (with_reducible refine ed_nil (hK _ _ ?_); clear hK K)
      | ((first | with_reducible refine ev_cons (fun K' hK' => ?_) | with_reducible refine ed_cons (fun K' hK' => ?_) | (with_reducible refine ev_id ?_; refine ev_guard rfl (fun K' hK' => ?_)) | (with_reducible refine ed_id ?_; refine ed_guard rfl (fun K' hK' => ?_))); simp [rows, h0]; repeat' (first | (with_reducible refine hK' _ _ ?_; clear hK' K') | (with_reducible refine And.intro ?_ ?_) | (with_reducible intro hg) | (clear hK' K'; omega)))
      | (with_reducible refine w_cond (fun A B hA hB => ?_); simp [rows, h0]; repeat' (first | (with_reducible refine hA ?_; clear hA hB A B) | (with_reducible refine hB ?_; clear hA hB A B) | (with_reducible refine And.intro ?_ ?_) | (with_reducible intro hc)))
      | (with_reducible refine awp_seq ?_))
    all_goals exact ⟨by simp [mayM]; omega, sub_new (by assumption)⟩
  by_cases h1 : 64 < n
  · repeat' (first
      | (with_reducible refine awp_skip ?_)
      | (with_reducible refine then_any ?_)
      | (with_reducible refine then_ret ?_)
      | (with_reducible refine then_exit ?_)
      | (with_reducible refine inBlock_normal ?_)
      | (with_reducible refine inBlock_ret ?_)
      | (with_reducible refine inBlock_hit ?_)
      | (with_reducible refine inBlock_miss (by decide) ?_)
      | (with_reducible refine awp_ret ?_)
      | (with_reducible refine awp_exit ?_)
      | (with_reducible refine post_ret ?_)
      | (with_reducible refine post_normal ?_)
      | (with_reducible refine awp_block ?_)
      | (with_reducible refine v_reg [2] (fun K hK => ?_))
      | (with_reducible refine v_reg1 [2] (fun K hK => ?_))
      | (with_reducible refine v_draw mixed [2] [] (by kernel_rfl) (fun K hK => ?_))
      | (with_reducible refine v_draw1 mixed [2] [] (by kernel_rfl) (fun K hK => ?_))
      | (with_reducible refine ev_nil (hK _ _ ?_); clear hK K)
      | (with_reducible refine ed_nil (hK _ _ ?_); clear hK K)
      | ((first | with_reducible refine ev_cons (fun K' hK' => ?_) | with_reducible refine ed_cons (fun K' hK' => ?_) | (with_reducible refine ev_id ?_; refine ev_guard rfl (fun K' hK' => ?_)) | (with_reducible refine ed_id ?_; refine ed_guard rfl (fun K' hK' => ?_))); simp [rows, h0, h1]; repeat' (first | (with_reducible refine hK' _ _ ?_; clear hK' K') | (with_reducible refine And.intro ?_ ?_) | (with_reducible intro hg) | (clear hK' K'; omega)))
      | (with_reducible refine w_cond (fun A B hA hB => ?_); simp [rows, h0, h1]; repeat' (first | (with_reducible refine hA ?_; clear hA hB A B) | (with_reducible refine hB ?_; clear hA hB A B) | (with_reducible refine And.intro ?_ ?_) | (with_reducible intro hc)))
      | (with_reducible refine awp_seq ?_))
    all_goals exact ⟨by simp [mayM]; omega, sub_new (by assumption)⟩
  by_cases h2 : adj.length ≤ 64
  rotate_left
  · have h2' : (64 : Int) < adj.length := by omega
    repeat' (first
      | (with_reducible refine awp_skip ?_)
      | (with_reducible refine then_any ?_)
      | (with_reducible refine then_ret ?_)
      | (with_reducible refine then_exit ?_)
      | (with_reducible refine inBlock_normal ?_)
      | (with_reducible refine inBlock_ret ?_)
      | (with_reducible refine inBlock_hit ?_)
      | (with_reducible refine inBlock_miss (by decide) ?_)
      | (with_reducible refine awp_ret ?_)
      | (with_reducible refine awp_exit ?_)
      | (with_reducible refine post_ret ?_)
      | (with_reducible refine post_normal ?_)
      | (with_reducible refine awp_block ?_)
      | (with_reducible refine v_reg [2] (fun K hK => ?_))
      | (with_reducible refine v_reg1 [2] (fun K hK => ?_))
      | (with_reducible refine v_draw mixed [2] [] (by kernel_rfl) (fun K hK => ?_))
      | (with_reducible refine v_draw1 mixed [2] [] (by kernel_rfl) (fun K hK => ?_))
      | (with_reducible refine ev_nil (hK _ _ ?_); clear hK K)
      | (with_reducible refine ed_nil (hK _ _ ?_); clear hK K)
      | ((first | with_reducible refine ev_cons (fun K' hK' => ?_) | with_reducible refine ed_cons (fun K' hK' => ?_) | (with_reducible refine ev_id ?_; refine ev_guard rfl (fun K' hK' => ?_)) | (with_reducible refine ed_id ?_; refine ed_guard rfl (fun K' hK' => ?_))); simp [rows, h0, h1, h2']; repeat' (first | (with_reducible refine hK' _ _ ?_; clear hK' K') | (with_reducible refine And.intro ?_ ?_) | (with_reducible intro hg) | (clear hK' K'; omega)))
      | (with_reducible refine w_cond (fun A B hA hB => ?_); simp [rows, h0, h1, h2']; repeat' (first | (with_reducible refine hA ?_; clear hA hB A B) | (with_reducible refine hB ?_; clear hA hB A B) | (with_reducible refine And.intro ?_ ?_) | (with_reducible intro hc)))
      | (with_reducible refine awp_seq ?_))
    all_goals exact ⟨by simp [mayM]; omega, sub_new (by assumption)⟩
  have h2' : ¬ (64 : Int) < adj.length := by omega
  repeat' (first
    | (with_reducible refine awp_skip ?_)
    | (with_reducible refine then_any ?_)
    | (with_reducible refine then_ret ?_)
    | (with_reducible refine then_exit ?_)
    | (with_reducible refine inBlock_normal ?_)
    | (with_reducible refine inBlock_ret ?_)
    | (with_reducible refine inBlock_hit ?_)
    | (with_reducible refine inBlock_miss (by decide) ?_)
    | (with_reducible refine awp_ret ?_)
    | (with_reducible refine awp_exit ?_)
    | (with_reducible refine post_ret ?_)
    | (with_reducible refine post_normal ?_)
    | (with_reducible refine awp_block ?_)
    | (with_reducible refine v_reg [2] (fun K hK => ?_))
    | (with_reducible refine v_reg1 [2] (fun K hK => ?_))
    | (with_reducible refine v_draw mixed [2] [] (by kernel_rfl) (fun K hK => ?_))
    | (with_reducible refine v_draw1 mixed [2] [] (by kernel_rfl) (fun K hK => ?_))
    | (with_reducible refine ev_nil (hK _ _ ?_); clear hK K)
    | (with_reducible refine ed_nil (hK _ _ ?_); clear hK K)
    | ((first | with_reducible refine ev_cons (fun K' hK' => ?_) | with_reducible refine ed_cons (fun K' hK' => ?_) | (with_reducible refine ev_id ?_; refine ev_guard rfl (fun K' hK' => ?_)) | (with_reducible refine ed_id ?_; refine ed_guard rfl (fun K' hK' => ?_))); simp [rows, h0, h1, h2']; repeat' (first | (with_reducible refine hK' _ _ ?_; clear hK' K') | ((with_reducible refine RetAt.use (containsRows_at (p := fun l => !ptsB l n) ha (fun l hm => may82_at (hl l hm) (by simp))) ?_; try simp only [hany]); try simp [rows, h0, h1, h2']) | (with_reducible refine And.intro ?_ ?_) | (with_reducible intro hg) | (clear hK' K'; omega)))
    | (with_reducible refine w_cond (fun A B hA hB => ?_); simp [rows, h0, h1, h2']; repeat' (first | (with_reducible refine hA ?_; clear hA hB A B) | (with_reducible refine hB ?_; clear hA hB A B) | (with_reducible refine And.intro ?_ ?_) | (with_reducible intro hc)))
    | (with_reducible refine awp_seq ?_))
  all_goals try omega
  have e : mayM n adj = adj.all fun l => ptsB l n := by simp [mayM, h2]; omega
  refine ⟨by simp [e, ← hany], ?_⟩
  exact sub_new (by assumption)

theorem may6_ret {n : Int} {adj : List (List Int)} (ha : okLen adj) (hl : ∀ l ∈ adj, okLen l) : Ret Try.prog w0 48 [I n, rows adj] (B (mayM n adj)) := by
  intro H
  refine w_enter Try.func48 rfl Try.ntmps48 (ts := [4]) rfl (by simp) (by kernel_rfl) ?_
  repeat' (first
    | (with_reducible refine awp_skip ?_)
    | (with_reducible refine then_any ?_)
    | (with_reducible refine then_ret ?_)
    | (with_reducible refine then_exit ?_)
    | (with_reducible refine inBlock_normal ?_)
    | (with_reducible refine inBlock_ret ?_)
    | (with_reducible refine inBlock_hit ?_)
    | (with_reducible refine inBlock_miss (by decide) ?_)
    | (with_reducible refine awp_ret ?_)
    | (with_reducible refine awp_exit ?_)
    | (with_reducible refine post_ret ?_)
    | (with_reducible refine post_normal ?_)
    | (with_reducible refine awp_block ?_)
    | (with_reducible refine v_reg [] (fun K hK => ?_))
    | (with_reducible refine v_reg1 [] (fun K hK => ?_))
    | (with_reducible refine v_draw mixed [] [] (by kernel_rfl) (fun K hK => ?_))
    | (with_reducible refine v_draw1 mixed [] [] (by kernel_rfl) (fun K hK => ?_))
    | (with_reducible refine ev_nil (hK _ _ ?_); clear hK K)
    | (with_reducible refine ed_nil (hK _ _ ?_); clear hK K)
    | ((first | with_reducible refine ev_cons (fun K' hK' => ?_) | with_reducible refine ed_cons (fun K' hK' => ?_) | (with_reducible refine ev_id ?_; refine ev_guard rfl (fun K' hK' => ?_)) | (with_reducible refine ed_id ?_; refine ed_guard rfl (fun K' hK' => ?_))); simp [rows]; repeat' (first | (with_reducible refine hK' _ _ ?_; clear hK' K') | (with_reducible refine And.intro ?_ ?_) | (with_reducible intro hg) | (clear hK' K'; omega)))
    | (with_reducible refine w_cond (fun A B hA hB => ?_); simp [rows]; repeat' (first | (with_reducible refine hA ?_; clear hA hB A B) | (with_reducible refine hB ?_; clear hA hB A B) | (with_reducible refine And.intro ?_ ?_) | (with_reducible intro hc)))
    | (with_reducible refine awp_seq ?_))
  refine awp_loop (fun env h => ∃ k : Nat, k ≤ adj.length ∧ env 5 = I k ∧ env 0 = I n ∧ env 1 = rows adj ∧ (∀ x ∈ adj.take k, ptsB x n = true) ∧ h = H) (fun env _ => adj.length - natA (env 5)) ?_ ?_
  · exact ⟨0, by omega, by simp, by simp, by simp [rows], by simp, rfl⟩
  rintro env h ⟨k, hk, h5, h0, h1, ht, rfl⟩
  have hnat : natA (env 5) = k := by simp [h5]
  rw [hnat]; clear hnat
  by_cases hlt : k < adj.length
  · have hlk := hl adj[k] (List.getElem_mem _)
    have hgo : ptsB adj[k] n = true → ∀ x ∈ adj.take (k + 1), ptsB x n = true := by
      intro hb x hx
      rw [List.take_succ_eq_append_getElem hlt, List.mem_append, List.mem_singleton] at hx
      rcases hx with hx | rfl
      · exact ht x hx
      · exact hb
    have hno : ptsB adj[k] n = false → mayM n adj = false := by
      intro hb
      cases hm : mayM n adj with
      | false => rfl
      | true =>
        simp only [mayM, Bool.and_eq_true, List.all_eq_true] at hm
        rw [hm.2 _ (List.getElem_mem hlt)] at hb; cases hb
    obtain ⟨l, hle⟩ : ∃ l, l = adj[k] := ⟨_, rfl⟩
    have hadj : ∀ h, adj[k]'h = l := fun _ => hle.symm
    rw [← hle] at hlk hgo hno
    cases hr : risesB (-1) l with
    | false =>
      have hb : ptsB l n = false := by simp [ptsB, hr]
      repeat' (first
        | (with_reducible refine awp_skip ?_)
        | (with_reducible refine then_any ?_)
        | (with_reducible refine then_ret ?_)
        | (with_reducible refine then_exit ?_)
        | (with_reducible refine inBlock_normal ?_)
        | (with_reducible refine inBlock_ret ?_)
        | (with_reducible refine inBlock_hit ?_)
        | (with_reducible refine inBlock_miss (by decide) ?_)
        | (with_reducible refine awp_ret ?_)
        | (with_reducible refine awp_exit ?_)
        | (with_reducible refine post_ret ?_)
        | (with_reducible refine post_normal ?_)
        | (with_reducible refine awp_block ?_)
        | (with_reducible refine v_reg [] (fun K hK => ?_))
        | (with_reducible refine v_reg1 [] (fun K hK => ?_))
        | (with_reducible refine v_draw mixed [] [] (by kernel_rfl) (fun K hK => ?_))
        | (with_reducible refine v_draw1 mixed [] [] (by kernel_rfl) (fun K hK => ?_))
        | (with_reducible refine ev_nil (hK _ _ ?_); clear hK K)
        | (with_reducible refine ed_nil (hK _ _ ?_); clear hK K)
        | ((first | with_reducible refine ev_cons (fun K' hK' => ?_) | with_reducible refine ed_cons (fun K' hK' => ?_) | (with_reducible refine ev_id ?_; refine ev_guard rfl (fun K' hK' => ?_)) | (with_reducible refine ed_id ?_; refine ed_guard rfl (fun K' hK' => ?_))); simp [h5, h0, h1, rows, hlt, hadj, hr]; repeat' (first | (with_reducible refine hK' _ _ ?_; clear hK' K') | (with_reducible refine Ret.use (may2_ret hlk) ?_; try simp [h5, h0, h1, rows, hlt, hadj, hr]) | (with_reducible refine And.intro ?_ ?_) | (with_reducible intro hg) | (clear hK' K'; omega)))
        | (with_reducible refine w_cond (fun A B hA hB => ?_); simp [h5, h0, h1, rows, hlt, hadj, hr]; repeat' (first | (with_reducible refine hA ?_; clear hA hB A B) | (with_reducible refine hB ?_; clear hA hB A B) | (with_reducible refine And.intro ?_ ?_) | (with_reducible intro hc)))
        | (with_reducible refine awp_seq ?_))
      simp [hno hb]
    | true =>
      by_cases hne : l = []
      · subst hne
        have hb : ptsB [] n = true := by simp [ptsB, hr]
        repeat' (first
          | (with_reducible refine awp_skip ?_)
          | (with_reducible refine then_any ?_)
          | (with_reducible refine then_ret ?_)
          | (with_reducible refine then_exit ?_)
          | (with_reducible refine inBlock_normal ?_)
          | (with_reducible refine inBlock_ret ?_)
          | (with_reducible refine inBlock_hit ?_)
          | (with_reducible refine inBlock_miss (by decide) ?_)
          | (with_reducible refine awp_ret ?_)
          | (with_reducible refine awp_exit ?_)
          | (with_reducible refine post_ret ?_)
          | (with_reducible refine post_normal ?_)
          | (with_reducible refine awp_block ?_)
          | (with_reducible refine v_reg [] (fun K hK => ?_))
          | (with_reducible refine v_reg1 [] (fun K hK => ?_))
          | (with_reducible refine v_draw mixed [] [] (by kernel_rfl) (fun K hK => ?_))
          | (with_reducible refine v_draw1 mixed [] [] (by kernel_rfl) (fun K hK => ?_))
          | (with_reducible refine ev_nil (hK _ _ ?_); clear hK K)
          | (with_reducible refine ed_nil (hK _ _ ?_); clear hK K)
          | ((first | with_reducible refine ev_cons (fun K' hK' => ?_) | with_reducible refine ed_cons (fun K' hK' => ?_) | (with_reducible refine ev_id ?_; refine ev_guard rfl (fun K' hK' => ?_)) | (with_reducible refine ed_id ?_; refine ed_guard rfl (fun K' hK' => ?_))); simp [h5, h0, h1, rows, hlt, hadj, hr, ints]; repeat' (first | (with_reducible refine hK' _ _ ?_; clear hK' K') | ((with_reducible refine Ret.use_eq (may2_ret hlk) ?_ ?_; (· simp [ints])); try simp [h5, h0, h1, rows, hlt, hadj, hr, ints]) | (with_reducible refine And.intro ?_ ?_) | (with_reducible intro hg) | (clear hK' K'; omega)))
          | (with_reducible refine w_cond (fun A B hA hB => ?_); simp [h5, h0, h1, rows, hlt, hadj, hr, ints]; repeat' (first | (with_reducible refine hA ?_; clear hA hB A B) | (with_reducible refine hB ?_; clear hA hB A B) | (with_reducible refine And.intro ?_ ?_) | (with_reducible intro hc)))
          | (with_reducible refine awp_seq ?_))
        all_goals try omega
        exact ⟨⟨k + 1, by omega, by simp, by simp [h0], by simp [h1, rows], hgo hb, rfl⟩, by simp; omega⟩
      · have hpos := List.length_pos_iff.2 hne
        have hll : l.length - 1 < l.length := by omega
        have hlast := ptsB_last (n := n) hr hne hll
        have hi : ((l.length : Int) - 1).toNat = l.length - 1 := by omega
        have hi0 : (0 : Int) ≤ (l.length : Int) - 1 := by omega
        by_cases hn : l[l.length - 1] < n
        · have hb : ptsB l n = true := by simp [ptsB, hr, hlast, hn]
          have hn' : ¬ n ≤ l[l.length - 1] := by omega
          repeat' (first
            | (with_reducible refine awp_skip ?_)
            | (with_reducible refine then_any ?_)
            | (with_reducible refine then_ret ?_)
            | (with_reducible refine then_exit ?_)
            | (with_reducible refine inBlock_normal ?_)
            | (with_reducible refine inBlock_ret ?_)
            | (with_reducible refine inBlock_hit ?_)
            | (with_reducible refine inBlock_miss (by decide) ?_)
            | (with_reducible refine awp_ret ?_)
            | (with_reducible refine awp_exit ?_)
            | (with_reducible refine post_ret ?_)
            | (with_reducible refine post_normal ?_)
            | (with_reducible refine awp_block ?_)
            | (with_reducible refine v_reg [] (fun K hK => ?_))
            | (with_reducible refine v_reg1 [] (fun K hK => ?_))
            | (with_reducible refine v_draw mixed [] [] (by kernel_rfl) (fun K hK => ?_))
            | (with_reducible refine v_draw1 mixed [] [] (by kernel_rfl) (fun K hK => ?_))
            | (with_reducible refine ev_nil (hK _ _ ?_); clear hK K)
            | (with_reducible refine ed_nil (hK _ _ ?_); clear hK K)
            | ((first | with_reducible refine ev_cons (fun K' hK' => ?_) | with_reducible refine ed_cons (fun K' hK' => ?_) | (with_reducible refine ev_id ?_; refine ev_guard rfl (fun K' hK' => ?_)) | (with_reducible refine ed_id ?_; refine ed_guard rfl (fun K' hK' => ?_))); simp [h5, h0, h1, rows, hlt, hadj, hr, ints, hne, hi, hi0, hll, hn']; repeat' (first | (with_reducible refine hK' _ _ ?_; clear hK' K') | ((with_reducible refine Ret.use_eq (may2_ret hlk) ?_ ?_; (· simp [ints])); try simp [h5, h0, h1, rows, hlt, hadj, hr, ints, hne, hi, hi0, hll, hn']) | (with_reducible refine And.intro ?_ ?_) | (with_reducible intro hg) | (clear hK' K'; omega)))
            | (with_reducible refine w_cond (fun A B hA hB => ?_); simp [h5, h0, h1, rows, hlt, hadj, hr, ints, hne, hi, hi0, hll, hn']; repeat' (first | (with_reducible refine hA ?_; clear hA hB A B) | (with_reducible refine hB ?_; clear hA hB A B) | (with_reducible refine And.intro ?_ ?_) | (with_reducible intro hc)))
            | (with_reducible refine awp_seq ?_))
          all_goals try omega
          exact ⟨⟨k + 1, by omega, by simp, by simp [h0], by simp [h1, rows], hgo hb, rfl⟩, by simp; omega⟩
        · have hb : ptsB l n = false := by simp [ptsB, hr, hlast, hn]
          have hn' : n ≤ l[l.length - 1] := by omega
          repeat' (first
            | (with_reducible refine awp_skip ?_)
            | (with_reducible refine then_any ?_)
            | (with_reducible refine then_ret ?_)
            | (with_reducible refine then_exit ?_)
            | (with_reducible refine inBlock_normal ?_)
            | (with_reducible refine inBlock_ret ?_)
            | (with_reducible refine inBlock_hit ?_)
            | (with_reducible refine inBlock_miss (by decide) ?_)
            | (with_reducible refine awp_ret ?_)
            | (with_reducible refine awp_exit ?_)
            | (with_reducible refine post_ret ?_)
            | (with_reducible refine post_normal ?_)
            | (with_reducible refine awp_block ?_)
            | (with_reducible refine v_reg [] (fun K hK => ?_))
            | (with_reducible refine v_reg1 [] (fun K hK => ?_))
            | (with_reducible refine v_draw mixed [] [] (by kernel_rfl) (fun K hK => ?_))
            | (with_reducible refine v_draw1 mixed [] [] (by kernel_rfl) (fun K hK => ?_))
            | (with_reducible refine ev_nil (hK _ _ ?_); clear hK K)
            | (with_reducible refine ed_nil (hK _ _ ?_); clear hK K)
            | ((first | with_reducible refine ev_cons (fun K' hK' => ?_) | with_reducible refine ed_cons (fun K' hK' => ?_) | (with_reducible refine ev_id ?_; refine ev_guard rfl (fun K' hK' => ?_)) | (with_reducible refine ed_id ?_; refine ed_guard rfl (fun K' hK' => ?_))); simp [h5, h0, h1, rows, hlt, hadj, hr, ints, hne, hi, hi0, hll, hn']; repeat' (first | (with_reducible refine hK' _ _ ?_; clear hK' K') | ((with_reducible refine Ret.use_eq (may2_ret hlk) ?_ ?_; (· simp [ints])); try simp [h5, h0, h1, rows, hlt, hadj, hr, ints, hne, hi, hi0, hll, hn']) | (with_reducible refine And.intro ?_ ?_) | (with_reducible intro hg) | (clear hK' K'; omega)))
            | (with_reducible refine w_cond (fun A B hA hB => ?_); simp [h5, h0, h1, rows, hlt, hadj, hr, ints, hne, hi, hi0, hll, hn']; repeat' (first | (with_reducible refine hA ?_; clear hA hB A B) | (with_reducible refine hB ?_; clear hA hB A B) | (with_reducible refine And.intro ?_ ?_) | (with_reducible intro hc)))
            | (with_reducible refine awp_seq ?_))
          all_goals try omega
          all_goals simp [hno hb]
  · have : k = adj.length := by omega
    subst this
    rw [List.take_length] at ht
    have hm : mayM n adj = (decide (0 ≤ n) && decide (n ≤ 64) && decide (adj.length ≤ 64)) := by
      simp only [mayM]
      rw [List.all_eq_true.2 ht, Bool.and_true]
    repeat' (first
      | (with_reducible refine awp_skip ?_)
      | (with_reducible refine then_any ?_)
      | (with_reducible refine then_ret ?_)
      | (with_reducible refine then_exit ?_)
      | (with_reducible refine inBlock_normal ?_)
      | (with_reducible refine inBlock_ret ?_)
      | (with_reducible refine inBlock_hit ?_)
      | (with_reducible refine inBlock_miss (by decide) ?_)
      | (with_reducible refine awp_ret ?_)
      | (with_reducible refine awp_exit ?_)
      | (with_reducible refine post_ret ?_)
      | (with_reducible refine post_normal ?_)
      | (with_reducible refine awp_block ?_)
      | (with_reducible refine v_reg [] (fun K hK => ?_))
      | (with_reducible refine v_reg1 [] (fun K hK => ?_))
      | (with_reducible refine v_draw mixed [] [] (by kernel_rfl) (fun K hK => ?_))
      | (with_reducible refine v_draw1 mixed [] [] (by kernel_rfl) (fun K hK => ?_))
      | (with_reducible refine ev_nil (hK _ _ ?_); clear hK K)
      | (with_reducible refine ed_nil (hK _ _ ?_); clear hK K)
      | ((first | with_reducible refine ev_cons (fun K' hK' => ?_) | with_reducible refine ed_cons (fun K' hK' => ?_) | (with_reducible refine ev_id ?_; refine ev_guard rfl (fun K' hK' => ?_)) | (with_reducible refine ed_id ?_; refine ed_guard rfl (fun K' hK' => ?_))); simp [h5, h0, h1, rows]; repeat' (first | (with_reducible refine hK' _ _ ?_; clear hK' K') | (with_reducible refine And.intro ?_ ?_) | (with_reducible intro hg) | (clear hK' K'; omega)))
      | (with_reducible refine w_cond (fun A B hA hB => ?_); simp [h5, h0, h1, rows]; repeat' (first | (with_reducible refine hA ?_; clear hA hB A B) | (with_reducible refine hB ?_; clear hA hB A B) | (with_reducible refine And.intro ?_ ?_) | (with_reducible intro hc)))
      | (with_reducible refine awp_seq ?_))
    all_goals simp [hm]
    all_goals first | omega | (rw [Bool.eq_iff_iff]; simp; omega)
end Go.Am
