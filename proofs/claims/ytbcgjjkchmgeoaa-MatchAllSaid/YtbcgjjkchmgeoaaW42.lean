/- Contracts: the fixed case of chapter 06; laws. -/
import Derived.Test.YtbcgjjkchmgeoaaW41
import Derived.Test.YtbcgjjkchmgeoaaAm23
namespace Go.Am
open Go Go.Proofs
set_option linter.unusedVariables false
set_option linter.unusedSimpArgs false
variable {w0 : World}
attribute [local irreducible] AWP ACalls
attribute [local congr] acalls_congr

theorem MInv.nu {m : Nat} {adj : List (List Int)} {f g : Int → Int} (hG : GrM m adj) (h : MInv m adj adj.length f g) : IsNu m adj (cntM adj.length f) := by
  obtain ⟨hf, _, Z, hZ, hw⟩ := h
  refine ⟨⟨f, hf.mtc, rfl⟩, ?_⟩
  have dZ : ∀ k, Decidable (Z k) := fun k => Classical.propDecidable _
  have dR : ∀ j : Int, Decidable (∃ k : Int, 0 ≤ k ∧ k < m ∧ Z k ∧ g k = j) := fun k => Classical.propDecidable _
  have hr : Rch m adj f g (fun j => decide (f j = -1) || decide (∃ k : Int, 0 ≤ k ∧ k < m ∧ Z k ∧ g k = j)) (fun k => decide (Z k)) := by
    refine ⟨fun j a b c => ⟨by simp [c], fun y hy => by simpa using hw j a b c y hy⟩, fun j a b c => ?_, fun k a b c => ?_⟩
    · rw [Bool.or_eq_true, decide_eq_true_eq, decide_eq_true_eq] at c
      rcases c with c | ⟨k, a1, a2, a3, a4⟩
      · exact .inl c
      · exact .inr ⟨k, a1, a2, by simpa using a3, a4⟩
    · have hz : Z k := by simpa using c
      refine ⟨(hZ k hz).1, ?_, fun y hy => by simpa using (hZ k hz).2 y hy⟩
      rw [Bool.or_eq_true, decide_eq_true_eq, decide_eq_true_eq]
      exact .inr ⟨k, a, b, hz, rfl⟩
  obtain ⟨h1, h2⟩ := hr.cover hG hf
  exact ⟨_, _, h1, h2⟩

theorem max_no {n : Int} {adj : List (List Int)} (ha : okLen adj) (hl : ∀ l ∈ adj, okLen l) (hm : mayM n adj = false) : Ret Try.prog w0 50 [I n, rows adj] (.tup [ints [], I 0]) := by
  intro H
  refine w_enter Try.func50 rfl Try.ntmps50 (ts := [4, 5]) rfl (by simp) (by kernel_rfl) ?_
  repeat' (first
    | (with_reducible refine awp_skip ?_)
    | (with_reducible refine then_any ?_)
    | (with_reducible refine then_ret ?_)
    | (with_reducible refine then_exit ?_)
    | (with_reducible refine inBlock_normal ?_)
    | (with_reducible refine inBlock_ret ?_)
    | (with_reducible refine inBlock_hit ?_)
    | (with_reducible refine inBlock_miss (by decide) ?_)
    | (with_reducible refine awp_ret ?_)
    | (with_reducible refine awp_exit ?_)
    | (with_reducible refine post_ret ?_)
    | (with_reducible refine post_normal ?_)
    | (with_reducible refine awp_block ?_)
    | (with_reducible refine v_reg [] (fun K hK => ?_))
    | (with_reducible refine v_reg1 [] (fun K hK => ?_))
    | (with_reducible refine v_draw mixed [] [] (by kernel_rfl) (fun K hK => ?_))
    | (with_reducible refine v_draw1 mixed [] [] (by kernel_rfl) (fun K hK => ?_))
    | (with_reducible refine ev_nil (hK _ _ ?_); clear hK K)
    | (with_reducible refine ed_nil (hK _ _ ?_); clear hK K)
    | ((first | with_reducible refine ev_cons (fun K' hK' => ?_) | with_reducible refine ed_cons (fun K' hK' => ?_) | (with_reducible refine ev_id ?_; refine ev_guard rfl (fun K' hK' => ?_)) | (with_reducible refine ed_id ?_; refine ed_guard rfl (fun K' hK' => ?_))); simp [hm]; repeat' (first | (with_reducible refine hK' _ _ ?_; clear hK' K') | (with_reducible refine Ret.use (matchMay_ret ha hl) ?_; try simp [hm]) | (with_reducible refine And.intro ?_ ?_) | (with_reducible intro hg) | (clear hK' K'; omega)))
    | (with_reducible refine w_cond (fun A B hA hB => ?_); simp [hm]; repeat' (first | (with_reducible refine hA ?_; clear hA hB A B) | (with_reducible refine hB ?_; clear hA hB A B) | (with_reducible refine And.intro ?_ ?_) | (with_reducible intro hc)))
    | (with_reducible refine awp_seq ?_))
  simp [ints]
theorem cover_no {n : Int} {adj : List (List Int)} (ha : okLen adj) (hl : ∀ l ∈ adj, okLen l) (hm : mayM n adj = false) : Ret Try.prog w0 51 [I n, rows adj] (.tup [ints [], ints []]) := by
  intro H
  refine w_enter Try.func51 rfl Try.ntmps51 (ts := [4, 5]) rfl (by simp) (by kernel_rfl) ?_
  repeat' (first
    | (with_reducible refine awp_skip ?_)
    | (with_reducible refine then_any ?_)
    | (with_reducible refine then_ret ?_)
    | (with_reducible refine then_exit ?_)
    | (with_reducible refine inBlock_normal ?_)
    | (with_reducible refine inBlock_ret ?_)
    | (with_reducible refine inBlock_hit ?_)
    | (with_reducible refine inBlock_miss (by decide) ?_)
    | (with_reducible refine awp_ret ?_)
    | (with_reducible refine awp_exit ?_)
    | (with_reducible refine post_ret ?_)
    | (with_reducible refine post_normal ?_)
    | (with_reducible refine awp_block ?_)
    | (with_reducible refine v_reg [] (fun K hK => ?_))
    | (with_reducible refine v_reg1 [] (fun K hK => ?_))
    | (with_reducible refine v_draw mixed [] [] (by kernel_rfl) (fun K hK => ?_))
    | (with_reducible refine v_draw1 mixed [] [] (by kernel_rfl) (fun K hK => ?_))
    | (with_reducible refine ev_nil (hK _ _ ?_); clear hK K)
    | (with_reducible refine ed_nil (hK _ _ ?_); clear hK K)
    | ((first | with_reducible refine ev_cons (fun K' hK' => ?_) | with_reducible refine ed_cons (fun K' hK' => ?_) | (with_reducible refine ev_id ?_; refine ev_guard rfl (fun K' hK' => ?_)) | (with_reducible refine ed_id ?_; refine ed_guard rfl (fun K' hK' => ?_))); simp [hm]; repeat' (first | (with_reducible refine hK' _ _ ?_; clear hK' K') | (with_reducible refine Ret.use (matchMay_ret ha hl) ?_; try simp [hm]) | (with_reducible refine And.intro ?_ ?_) | (with_reducible intro hg) | (clear hK' K'; omega)))
    | (with_reducible refine w_cond (fun A B hA hB => ?_); simp [hm]; repeat' (first | (with_reducible refine hA ?_; clear hA hB A B) | (with_reducible refine hB ?_; clear hA hB A B) | (with_reducible refine And.intro ?_ ?_) | (with_reducible intro hc)))
    | (with_reducible refine awp_seq ?_))
  exact ⟨by simp [ints], sub_new (by assumption)⟩

/-- The sides of the fixed case. -/
abbrev adj6 : List (List Int) := [[0], [0], [0, 1]]
theorem g6 : mayM 2 adj6 = true := by decide +kernel
theorem g61 : mayM 1 adj6 = false := by decide +kernel
theorem g60 : mayM 0 [[], []] = true := by decide +kernel
theorem gr6 : GrM 2 adj6 := by
  obtain ⟨m, e, h⟩ := mayM_iff.1 g6
  have : m = 2 := by omega
  subst this; exact h
theorem gr60 : GrM 0 [[], []] := by
  obtain ⟨m, e, h⟩ := mayM_iff.1 g60
  have : m = 0 := by omega
  subst this; exact h
theorem nu6 : IsNu 2 adj6 2 := by
  refine ⟨⟨fun i => if i = 0 then 0 else if i = 2 then 1 else -1, ⟨fun i a b c => ?_, fun i j a b a' b' c e => ?_⟩, by decide +kernel⟩, [2], [0], ⟨⟨by simp, by simp⟩, ⟨by simp, by simp⟩, by simp, by simp, fun i a b c y hy => ?_⟩, by simp⟩
  · simp at b
    have : i = 0 ∨ i = 1 ∨ i = 2 := by omega
    rcases this with rfl | rfl | rfl <;> simp [nbM] at *
  · simp at b b'
    have h1 : i = 0 ∨ i = 1 ∨ i = 2 := by omega
    have h2 : j = 0 ∨ j = 1 ∨ j = 2 := by omega
    rcases h1 with rfl | rfl | rfl <;> rcases h2 with rfl | rfl | rfl <;> simp at *
  · simp at b c
    have : i = 0 ∨ i = 1 := by omega
    rcases this with rfl | rfl <;> simp [nbM] at * <;> exact hy
theorem nu60 {f g : Int → Int} (h : MInv 0 [[], []] 2 f g) : leftL 2 f = [-1, -1] ∧ cntM 2 f = 0 := by
  have h0 := h.good.l 0 (by simp) (by simp)
  have h1 := h.good.l 1 (by simp) (by simp)
  simp [nbM] at h0 h1
  have e : upto 2 = [0, 1] := by decide
  constructor
  · simp [leftL, e, h0, h1]
  · simp [cntM, e, h0, h1]

set_option maxHeartbeats 4000000 in
theorem fixed6_ret : Ret Try.prog w0 49 [] (B true) := by
  intro H
  have ha : okLen adj6 := by decide
  have hl : ∀ l ∈ adj6, okLen l := by decide
  have ha0 : okLen ([[], []] : List (List Int)) := by decide
  have hl0 : ∀ l ∈ ([[], []] : List (List Int)), okLen l := by decide
  have e6 : rows adj6 = .sl [.sl [I 0] 1, .sl [I 0] 1, .sl [I 0, I 1] 2] 3 := by simp [rows, ints]
  have m1 : ∀ H K, (∀ f, Mtc adj6 f → cntM 3 f = 2 → K (.tup [ints (leftL 3 f), I 2]) H) → ACalls Try.prog w0 50 [I 2, rows adj6] H K := fun H K k => max_use ha hl gr6 (fun f g hi => by
    have e := (hi.nu gr6).uniq nu6
    have := k f hi.good.mtc e
    show K (.tup [ints (leftL 3 f), I ((cntM 3 f : Nat) : Int)]) H
    have e' : cntM 3 f = 2 := e
    rw [e']; exact this)
  have m2 : ∀ H K, (∀ l r, Cv 2 adj6 l r → l.length + r.length = 2 → K (.tup [ints l, ints r]) H) → ACalls Try.prog w0 51 [I 2, rows adj6] H K := fun H K k => cover_use ha hl gr6 (fun f g l r hi hc he => by
    have e := (hi.nu gr6).uniq nu6
    exact k l r hc (by omega))
  have m4 := max_no (w0 := w0) ha hl g61
  have m5 := matchMay_ret (w0 := w0) (n := 2) ha hl
  have m6 := matchMay_ret (w0 := w0) (n := 1) ha hl
  rw [g6] at m5
  rw [g61] at m6
  have hmat : ∀ f, Mtc adj6 f → cntM 3 f = 2 → Ret Try.prog w0 54 [I 2, rows adj6, ints (leftL 3 f), I 2] (B true) := fun f hf e => by
    have h := matches_ret (w0 := w0) (m := 2) (right := 2) ha hl gr6 hf
    have e' : cntM adj6.length f = 2 := e
    rw [e'] at h; exact h
  have hcov : ∀ l r, Cv 2 adj6 l r → l.length + r.length = 2 → Ret Try.prog w0 55 [I 2, rows adj6, ints l, ints r] (B true) := fun l r hc he => covers_ret (w0 := w0) (m := 2) gr6 hc (by omega) (by omega)
  have hsame : Ret Try.prog w0 28 [.sl [I (-1), I (-1)] 2, .sl [I (-1), I (-1)] 2] (B true) := by simpa [ints] using same_ret (w0 := w0) (a := [-1, -1]) (b := [-1, -1]) (by decide) (by decide)
  have hw : ∀ (i : Nat) (a b : AV), ([I 0, .sl [.sc (.slice none 0 0), .sc (.slice none 0 0)] 2] : List AV)[i]? = some a → ([I 0, rows [[], []]] : List AV)[i]? = some b → Wks a b := by
    intro i a b h1 h2
    match i with
    | 0 => simp at h1 h2; subst h1; subst h2; exact Wks.refl _
    | 1 =>
      simp at h1 h2; subst h1; subst h2
      refine Wks.sl rfl fun j a b h1 h2 => ?_
      match j with
      | 0 => simp at h1 h2; subst h1; subst h2; exact ⟨by simpa [ints] using Wks.nil, by simp [ints]⟩
      | 1 => simp at h1 h2; subst h1; subst h2; exact ⟨by simpa [ints] using Wks.nil, by simp [ints]⟩
      | j + 2 => simp at h1
    | i + 2 => simp at h1
  have m3 : ∀ H K, K (.tup [.sl [I (-1), I (-1)] 2, I 0]) H → ACalls Try.prog w0 50 [I 0, .sl [.sc (.slice none 0 0), .sc (.slice none 0 0)] 2] H K := fun H K k => ACalls.wks (by simp) hw (max_use (m := 0) ha0 hl0 gr60 (fun f g hi => by
    obtain ⟨e1, e2⟩ := nu60 hi
    show K (.tup [ints (leftL 2 f), I ((cntM 2 f : Nat) : Int)]) H
    rw [e1, e2]; simpa [ints] using k))
  clear hw ha hl ha0 hl0
  refine w_enter Try.func49 rfl Try.ntmps49 (ts := [0]) rfl (by simp) (by kernel_rfl) ?_
  repeat' (first
    | (with_reducible refine awp_skip ?_)
    | (with_reducible refine then_any ?_)
    | (with_reducible refine then_ret ?_)
    | (with_reducible refine then_exit ?_)
    | (with_reducible refine inBlock_normal ?_)
    | (with_reducible refine inBlock_ret ?_)
    | (with_reducible refine inBlock_hit ?_)
    | (with_reducible refine inBlock_miss (by decide) ?_)
    | (with_reducible refine awp_ret ?_)
    | (with_reducible refine awp_exit ?_)
    | (with_reducible refine post_ret ?_)
    | (with_reducible refine post_normal ?_)
    | (with_reducible refine awp_block ?_)
    | ((fail_if_success (with_reducible refine at_reg 2 ?_)); with_reducible refine v_reg [] (fun K hK => ?_))
    | (with_reducible refine v_reg1 [] (fun K hK => ?_))
    | ((fail_if_success (with_reducible refine at_reg 2 ?_)); with_reducible refine v_draw mixed [] [] (by kernel_rfl) (fun K hK => ?_))
    | (with_reducible refine v_draw1 mixed [] [] (by kernel_rfl) (fun K hK => ?_))
    | (with_reducible refine ev_nil (hK _ _ ?_); clear hK K)
    | (with_reducible refine ed_nil (hK _ _ ?_); clear hK K)
    | ((first | with_reducible refine ev_cons (fun K' hK' => ?_) | with_reducible refine ed_cons (fun K' hK' => ?_) | (with_reducible refine ev_id ?_; refine ev_guard rfl (fun K' hK' => ?_)) | (with_reducible refine ed_id ?_; refine ed_guard rfl (fun K' hK' => ?_))); simp; repeat' (first | (with_reducible refine hK' _ _ ?_; clear hK' K') | (with_reducible refine And.intro ?_ ?_) | (with_reducible intro hg) | (clear hK' K'; omega)))
    | (with_reducible refine w_cond (fun A B hA hB => ?_); simp; repeat' (first | (with_reducible refine hA ?_; clear hA hB A B) | (with_reducible refine hB ?_; clear hA hB A B) | (with_reducible refine And.intro ?_ ?_) | (with_reducible intro hc)))
    | ((fail_if_success (with_reducible refine at_reg 2 ?_)); with_reducible refine awp_seq ?_))
  refine awp_wks 1 (b := rows adj6) (by rw [e6]; simpa using Wks.refl _) fun env he he2 => ?_
  clear he2 e6
  generalize adj6 = adj at *
  repeat' (first
    | (with_reducible refine awp_skip ?_)
    | (with_reducible refine then_any ?_)
    | (with_reducible refine then_ret ?_)
    | (with_reducible refine then_exit ?_)
    | (with_reducible refine inBlock_normal ?_)
    | (with_reducible refine inBlock_ret ?_)
    | (with_reducible refine inBlock_hit ?_)
    | (with_reducible refine inBlock_miss (by decide) ?_)
    | (with_reducible refine awp_ret ?_)
    | (with_reducible refine awp_exit ?_)
    | (with_reducible refine post_ret ?_)
    | (with_reducible refine post_normal ?_)
    | (with_reducible refine awp_block ?_)
    | ((fail_if_success (with_reducible refine at_reg 6 ?_)); with_reducible refine v_reg [] (fun K hK => ?_))
    | (with_reducible refine v_reg1 [] (fun K hK => ?_))
    | ((fail_if_success (with_reducible refine at_reg 6 ?_)); with_reducible refine v_draw mixed [] [] (by kernel_rfl) (fun K hK => ?_))
    | (with_reducible refine v_draw1 mixed [] [] (by kernel_rfl) (fun K hK => ?_))
    | (with_reducible refine ev_nil (hK _ _ ?_); clear hK K)
    | (with_reducible refine ed_nil (hK _ _ ?_); clear hK K)
    | ((first | with_reducible refine ev_cons (fun K' hK' => ?_) | with_reducible refine ed_cons (fun K' hK' => ?_) | (with_reducible refine ev_id ?_; refine ev_guard rfl (fun K' hK' => ?_)) | (with_reducible refine ed_id ?_; refine ed_guard rfl (fun K' hK' => ?_))); simp [he]; repeat' (first | (with_reducible refine hK' _ _ ?_; clear hK' K') | ((with_reducible refine m1 _ _ (fun f hf ef => ?_)); try simp [he]) | ((with_reducible refine m2 _ _ (fun l r hc hlr => ?_)); try simp [he]) | ((with_reducible refine m3 _ _ ?_); try simp [he]) | (with_reducible refine Ret.use m4 ?_; try simp [he]) | (with_reducible refine And.intro ?_ ?_) | (with_reducible intro hg) | (clear hK' K'; omega)))
    | (with_reducible refine w_cond (fun A B hA hB => ?_); simp [he]; repeat' (first | (with_reducible refine hA ?_; clear hA hB A B) | (with_reducible refine hB ?_; clear hA hB A B) | (with_reducible refine And.intro ?_ ?_) | (with_reducible intro hc)))
    | ((fail_if_success (with_reducible refine at_reg 6 ?_)); with_reducible refine awp_seq ?_))
  have n1 := hmat f hf ef
  have n2 := hcov l r hc hlr
  have hlr' : (l.length : Int) + r.length = 2 := by omega
  have h3 : (leftL 3 f).length = 3 := leftL_length 3 f
  simp only [ints] at n1 n2
  repeat' (first
    | (with_reducible refine awp_skip ?_)
    | (with_reducible refine then_any ?_)
    | (with_reducible refine then_ret ?_)
    | (with_reducible refine then_exit ?_)
    | (with_reducible refine inBlock_normal ?_)
    | (with_reducible refine inBlock_ret ?_)
    | (with_reducible refine inBlock_hit ?_)
    | (with_reducible refine inBlock_miss (by decide) ?_)
    | (with_reducible refine awp_ret ?_)
    | (with_reducible refine awp_exit ?_)
    | (with_reducible refine post_ret ?_)
    | (with_reducible refine post_normal ?_)
    | (with_reducible refine awp_block ?_)
    | (with_reducible refine v_reg [] (fun K hK => ?_))
    | (with_reducible refine v_reg1 [] (fun K hK => ?_))
    | (with_reducible refine v_draw mixed [] [] (by kernel_rfl) (fun K hK => ?_))
    | (with_reducible refine v_draw1 mixed [] [] (by kernel_rfl) (fun K hK => ?_))
    | (with_reducible refine ev_nil (hK _ _ ?_); clear hK K)
    | (with_reducible refine ed_nil (hK _ _ ?_); clear hK K)
    | ((first | with_reducible refine ev_cons (fun K' hK' => ?_) | with_reducible refine ed_cons (fun K' hK' => ?_) | (with_reducible refine ev_id ?_; refine ev_guard rfl (fun K' hK' => ?_)) | (with_reducible refine ed_id ?_; refine ed_guard rfl (fun K' hK' => ?_))); simp [he, ints, hlr']; repeat' (first | (with_reducible refine hK' _ _ ?_; clear hK' K') | (with_reducible refine Ret.use n1 ?_; try simp [he, ints, hlr']) | (with_reducible refine Ret.use n2 ?_; try simp [he, ints, hlr']) | (with_reducible refine Ret.use hsame ?_; try simp [he, ints, hlr']) | (with_reducible refine Ret.use m5 ?_; try simp [he, ints, hlr']) | (with_reducible refine Ret.use m6 ?_; try simp [he, ints, hlr']) | (with_reducible refine And.intro ?_ ?_) | (with_reducible intro hg) | (clear hK' K'; omega)))
    | (with_reducible refine w_cond (fun A B hA hB => ?_); simp [he, ints, hlr']; repeat' (first | (with_reducible refine hA ?_; clear hA hB A B) | (with_reducible refine hB ?_; clear hA hB A B) | (with_reducible refine And.intro ?_ ?_) | (with_reducible intro hc)))
    | (with_reducible refine awp_seq ?_))
  all_goals simp
#print axioms fixed6_ret
end Go.Am
