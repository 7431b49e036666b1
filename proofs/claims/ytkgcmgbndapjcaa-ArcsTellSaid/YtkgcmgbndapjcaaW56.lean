/- Contracts: the reference's Subset, Enters. -/
import Derived.Test.YtkgcmgbndapjcaaW55
namespace Go.Am
open Go Go.Proofs
set_option linter.unusedVariables false
set_option linter.unusedSimpArgs false
variable {w0 : World}
attribute [local irreducible] AWP ACalls
attribute [local congr] acalls_congr

theorem exists_mask' (p : Nat → Bool) : ∀ n : Nat, ∃ s, s < 2 ^ n ∧ ∀ j, j < n → s.testBit j = p j := by
  intro n
  induction n with
  | zero => exact ⟨0, by simp, fun j h => by omega⟩
  | succ n ih =>
    obtain ⟨s, hs, h⟩ := ih
    have h2 : 2 ^ (n + 1) = 2 ^ n + 2 ^ n := by rw [Nat.pow_succ]; omega
    cases hp : p n with
    | false =>
      refine ⟨s, by omega, fun j hj => ?_⟩
      by_cases e : j = n
      · subst e; rw [hp]; exact Nat.testBit_lt_two_pow hs
      · exact h j (by omega)
    | true =>
      refine ⟨2 ^ n + s, by omega, fun j hj => ?_⟩
      by_cases e : j = n
      · subst e; rw [hp, Nat.testBit_two_pow_add_eq, Nat.testBit_lt_two_pow hs]; rfl
      · rw [Nat.testBit_two_pow_add_gt (by omega)]; exact h j (by omega)

theorem and_one' (x : Nat) (hx : x < 4611686018427387904) : IntKind.i64.wrap ((BitVec.ofInt 64 (x : Int) &&& 1#64).toNat : Int) = ((x % 2 : Nat) : Int) := by
  have e : (BitVec.ofInt 64 (x : Int) &&& 1#64).toNat = x % 2 := by
    rw [BitVec.toNat_and]
    have h1 : (BitVec.ofInt 64 (x : Int)).toNat = x := by
      rw [BitVec.toNat_ofInt]
      omega
    rw [h1]
    show x &&& 1 = x % 2
    exact Nat.and_one_is_mod x
  rw [e]
  unfold IntKind.wrap
  simp [IntKind.bits, IntKind.signed]
  omega
theorem bit_and {s q : Nat} (hs : s < 4611686018427387904) : IntKind.i64.wrap ((BitVec.ofInt 64 ((s : Int) / 2 ^ q) &&& 1#64).toNat : Int) = ((if s.testBit q then 1 else 0 : Nat) : Int) := by
  have hbit : (s / 2 ^ q) % 2 = if s.testBit q then 1 else 0 := by
    rw [Nat.testBit_eq_decide_div_mod_eq]
    by_cases e : s / 2 ^ q % 2 = 1
    · simp [e]
    · simp [e]; omega
  have e : (s : Int) / 2 ^ q = ((s / 2 ^ q : Nat) : Int) := by simp
  rw [e, and_one' _ (by have := Nat.div_le_self s (2 ^ q); omega), hbit]
theorem bit_fdiv (s q : Nat) : (s : Int).fdiv (2 ^ q) = (s : Int) / 2 ^ q := by
  rw [Int.fdiv_eq_ediv_of_nonneg _ (by exact Int.pow_nonneg (by omega))]

/-- The set that a number's bits tell. -/
def subL (n bits : Nat) : List Int := (upto n).filter fun j => bits.testBit j.toNat
theorem mem_subL {n bits : Nat} {x : Int} : x ∈ subL n bits ↔ (0 ≤ x ∧ x < n) ∧ bits.testBit x.toNat = true := by simp [subL, List.mem_filter, mem_upto]
theorem subL_pts {n : Nat} (h : n ≤ 4096) (bits : Nat) : Pts n (subL n bits) := ⟨(isSet_upto (by omega)).filter _, fun x hx => (mem_subL.1 hx).1⟩
theorem subL_of {n : Nat} {s : List Int} (h : s.Pairwise (· < ·)) (hr : ∀ x ∈ s, 0 ≤ x ∧ x < n) : ∃ b, b < 2 ^ n ∧ subL n b = s := by
  obtain ⟨b, hb, hj⟩ := exists_mask' (fun j => decide ((j : Int) ∈ s)) n
  refine ⟨b, hb, up_ext ((up_upto n).filter _) h fun x => ?_⟩
  rw [mem_subL]
  constructor
  · intro ⟨⟨h0, h1⟩, h2⟩
    rw [hj _ (by omega)] at h2
    simp only [decide_eq_true_eq] at h2
    rwa [show ((x.toNat : Nat) : Int) = x by omega] at h2
  · intro hx
    obtain ⟨h0, h1⟩ := hr x hx
    refine ⟨⟨h0, h1⟩, ?_⟩
    rw [hj _ (by omega)]
    simpa [show ((x.toNat : Nat) : Int) = x by omega] using hx

theorem subset_ret {n bits : Nat} (hn : n ≤ 60) (hb : bits < 4611686018427387904) : Ret Try.prog w0 33 [I n, I bits] (ints (subL n bits)) := by
  intro H
  refine w_enter Try.func33 rfl Try.ntmps33 (ts := [4]) rfl (by simp) (by kernel_rfl) ?_ |> ret_frz
  repeat' (first
    | (with_reducible refine awp_skip ?_)
    | (with_reducible refine then_any ?_)
    | (with_reducible refine then_ret ?_)
    | (with_reducible refine then_exit ?_)
    | (with_reducible refine inBlock_normal ?_)
    | (with_reducible refine inBlock_ret ?_)
    | (with_reducible refine inBlock_hit ?_)
    | (with_reducible refine inBlock_miss (by decide) ?_)
    | (with_reducible refine awp_ret ?_)
    | (with_reducible refine awp_exit ?_)
    | (with_reducible refine post_ret ?_)
    | (with_reducible refine post_normal ?_)
    | (with_reducible refine awp_block ?_)
    | (with_reducible refine v_reg [7] (fun K hK => ?_))
    | (with_reducible refine v_reg1 [7] (fun K hK => ?_))
    | (with_reducible refine v_draw mixed [7] [] (by kernel_rfl) (fun K hK => ?_))
    | (with_reducible refine v_draw1 mixed [7] [] (by kernel_rfl) (fun K hK => ?_))
    | (with_reducible refine ev_nil (hK _ _ ?_); clear hK K)
    | (with_reducible refine ed_nil (hK _ _ ?_); clear hK K)
    | ((first | with_reducible refine ev_cons (fun K' hK' => ?_) | with_reducible refine ed_cons (fun K' hK' => ?_) | (with_reducible refine ev_id ?_; refine ev_guard rfl (fun K' hK' => ?_)) | (with_reducible refine ed_id ?_; refine ed_guard rfl (fun K' hK' => ?_))); simp; repeat' (first | (with_reducible refine hK' _ _ ?_; clear hK' K') | (with_reducible refine And.intro ?_ ?_) | (with_reducible intro hg) | (clear hK' K'; omega)))
    | (with_reducible refine w_cond (fun A B hA hB => ?_); simp; repeat' (first | (with_reducible refine hA ?_; clear hA hB A B) | (with_reducible refine hB ?_; clear hA hB A B) | (with_reducible refine And.intro ?_ ?_) | (with_reducible intro hc)))
    | (with_reducible refine awp_seq ?_))
  rename_i r
  have hr : H r = none := hg
  clear hg
  refine awp_loop (fun env h => ∃ k : Nat, k ≤ n ∧ env 6 = I k ∧ env 0 = I n ∧ env 1 = I bits ∧ env 5 = .ref r 0 (subL k bits).length (subL k bits).length ∧ h = upd H r (some (.arr 1 3 ((subL k bits).map I) (subL k bits).length))) (fun env _ => n - natA (env 6)) ?_ ?_
  · exact ⟨0, by omega, by simp, by simp, by simp, by simp [subL, upto_zero], by simp [subL, upto_zero]⟩
  rintro env h ⟨k, hk, h6, h0, h1, h5, rfl⟩
  have hnat : natA (env 6) = k := by simp [h6]
  rw [hnat]; clear hnat
  by_cases hlt : k < n
  · have hmk : min k 64 = k := by omega
    have hfd := bit_fdiv bits k
    have hand := bit_and (q := k) hb
    have hfs : subL (k + 1) bits = subL k bits ++ if bits.testBit k then [(k : Int)] else [] := by
      rw [subL, upto_succ, List.filter_append, List.filter_cons]
      by_cases h : bits.testBit k = true <;> simp [h, subL]
    have hle : (subL k bits).length ≤ k := by
      have := List.length_filter_le (fun j : Int => bits.testBit j.toNat) (upto k)
      rw [upto_length] at this
      exact this
    generalize subL k bits = o at *
    cases hb2 : bits.testBit k
    · rw [hb2] at hfs hand
      simp only [Bool.false_eq_true, if_false, List.append_nil] at hfs hand
      repeat' (first
        | (with_reducible refine awp_skip ?_)
        | (with_reducible refine then_any ?_)
        | (with_reducible refine then_ret ?_)
        | (with_reducible refine then_exit ?_)
        | (with_reducible refine inBlock_normal ?_)
        | (with_reducible refine inBlock_ret ?_)
        | (with_reducible refine inBlock_hit ?_)
        | (with_reducible refine inBlock_miss (by decide) ?_)
        | (with_reducible refine awp_ret ?_)
        | (with_reducible refine awp_exit ?_)
        | (with_reducible refine post_ret ?_)
        | (with_reducible refine post_normal ?_)
        | (with_reducible refine awp_block ?_)
        | (with_reducible refine v_reg [] (fun K hK => ?_))
        | (with_reducible refine v_reg1 [] (fun K hK => ?_))
        | (with_reducible refine v_draw mixed [] [] (by kernel_rfl) (fun K hK => ?_))
        | (with_reducible refine v_draw1 mixed [] [] (by kernel_rfl) (fun K hK => ?_))
        | (with_reducible refine ev_nil (hK _ _ ?_); clear hK K)
        | (with_reducible refine ed_nil (hK _ _ ?_); clear hK K)
        | ((first | with_reducible refine ev_cons (fun K' hK' => ?_) | with_reducible refine ed_cons (fun K' hK' => ?_) | (with_reducible refine ev_id ?_; refine ev_guard rfl (fun K' hK' => ?_)) | (with_reducible refine ed_id ?_; refine ed_guard rfl (fun K' hK' => ?_))); simp [h6, h0, h1, h5, hlt, hmk, hfd, hand, IntKind.bits]; repeat' (first | (with_reducible refine hK' _ _ ?_; clear hK' K') | (with_reducible refine And.intro ?_ ?_) | (with_reducible intro hg) | (clear hK' K'; omega)))
        | (with_reducible refine w_cond (fun A B hA hB => ?_); simp [h6, h0, h1, h5, hlt, hmk, hfd, hand, IntKind.bits]; repeat' (first | (with_reducible refine hA ?_; clear hA hB A B) | (with_reducible refine hB ?_; clear hA hB A B) | (with_reducible refine And.intro ?_ ?_) | (with_reducible intro hc)))
        | (with_reducible refine awp_seq ?_))
      all_goals try omega
      all_goals first | exact absurd (hc.symm.trans hand) (by decide) | exact ⟨⟨k + 1, by omega, by simp, by simp [h0], by simp [h1], by rw [hfs]; simp [h5], by rw [hfs]⟩, by simp; omega⟩
    · rw [hb2] at hfs hand
      simp only [if_true] at hfs hand
      repeat' (first
        | (with_reducible refine awp_skip ?_)
        | (with_reducible refine then_any ?_)
        | (with_reducible refine then_ret ?_)
        | (with_reducible refine then_exit ?_)
        | (with_reducible refine inBlock_normal ?_)
        | (with_reducible refine inBlock_ret ?_)
        | (with_reducible refine inBlock_hit ?_)
        | (with_reducible refine inBlock_miss (by decide) ?_)
        | (with_reducible refine awp_ret ?_)
        | (with_reducible refine awp_exit ?_)
        | (with_reducible refine post_ret ?_)
        | (with_reducible refine post_normal ?_)
        | (with_reducible refine awp_block ?_)
        | (with_reducible refine v_reg [] (fun K hK => ?_))
        | (with_reducible refine v_reg1 [] (fun K hK => ?_))
        | (with_reducible refine v_draw mixed [] [] (by kernel_rfl) (fun K hK => ?_))
        | (with_reducible refine v_draw1 mixed [] [] (by kernel_rfl) (fun K hK => ?_))
        | (with_reducible refine ev_nil (hK _ _ ?_); clear hK K)
        | (with_reducible refine ed_nil (hK _ _ ?_); clear hK K)
        | ((first | with_reducible refine ev_cons (fun K' hK' => ?_) | with_reducible refine ed_cons (fun K' hK' => ?_) | (with_reducible refine ev_id ?_; refine ev_guard rfl (fun K' hK' => ?_)) | (with_reducible refine ed_id ?_; refine ed_guard rfl (fun K' hK' => ?_))); simp [h6, h0, h1, h5, hlt, hmk, hfd, hand, IntKind.bits]; repeat' (first | (with_reducible refine hK' _ _ ?_; clear hK' K') | (with_reducible refine And.intro ?_ ?_) | (with_reducible intro hg) | (clear hK' K'; omega)))
        | (with_reducible refine w_cond (fun A B hA hB => ?_); simp [h6, h0, h1, h5, hlt, hmk, hfd, hand, IntKind.bits]; repeat' (first | (with_reducible refine hA ?_; clear hA hB A B) | (with_reducible refine hB ?_; clear hA hB A B) | (with_reducible refine And.intro ?_ ?_) | (with_reducible intro hc)))
        | (with_reducible refine awp_seq ?_))
      all_goals try omega
      all_goals first | exact absurd hand hc | exact ⟨⟨k + 1, by omega, by simp, by simp [h0], by simp [h1], by rw [hfs]; simp, by rw [hfs]; simp⟩, by simp; omega⟩
  · have : k = n := by omega
    subst this
    repeat' (first
      | (with_reducible refine awp_skip ?_)
      | (with_reducible refine then_any ?_)
      | (with_reducible refine then_ret ?_)
      | (with_reducible refine then_exit ?_)
      | (with_reducible refine inBlock_normal ?_)
      | (with_reducible refine inBlock_ret ?_)
      | (with_reducible refine inBlock_hit ?_)
      | (with_reducible refine inBlock_miss (by decide) ?_)
      | (with_reducible refine awp_ret ?_)
      | (with_reducible refine awp_exit ?_)
      | (with_reducible refine post_ret ?_)
      | (with_reducible refine post_normal ?_)
      | (with_reducible refine awp_block ?_)
      | (with_reducible refine v_reg [] (fun K hK => ?_))
      | (with_reducible refine v_reg1 [] (fun K hK => ?_))
      | (with_reducible refine v_draw mixed [] [] (by kernel_rfl) (fun K hK => ?_))
      | (with_reducible refine v_draw1 mixed [] [] (by kernel_rfl) (fun K hK => ?_))
      | (with_reducible refine ev_nil (hK _ _ ?_); clear hK K)
      | (with_reducible refine ed_nil (hK _ _ ?_); clear hK K)
      | ((first | with_reducible refine ev_cons (fun K' hK' => ?_) | with_reducible refine ed_cons (fun K' hK' => ?_) | (with_reducible refine ev_id ?_; refine ev_guard rfl (fun K' hK' => ?_)) | (with_reducible refine ed_id ?_; refine ed_guard rfl (fun K' hK' => ?_))); simp [h6, h0, h1, h5]; repeat' (first | (with_reducible refine hK' _ _ ?_; clear hK' K') | (with_reducible refine And.intro ?_ ?_) | (with_reducible intro hg) | (clear hK' K'; omega)))
      | (with_reducible refine w_cond (fun A B hA hB => ?_); simp [h6, h0, h1, h5]; repeat' (first | (with_reducible refine hA ?_; clear hA hB A B) | (with_reducible refine hB ?_; clear hA hB A B) | (with_reducible refine And.intro ?_ ?_) | (with_reducible intro hc)))
      | (with_reducible refine awp_seq ?_))
    exact frz hr (by simp) rfl (by simp)

theorem in19_ret {l : List Int} {x : Int} (hl : okLen l) : Ret Try.prog w0 44 [ints l, I x] (B (decide (x ∈ l))) := by
  intro H
  refine w_enter Try.func44 rfl Try.ntmps44 (ts := [4]) rfl (by simp) (by kernel_rfl) ?_
  repeat' (first
    | (with_reducible refine awp_skip ?_)
    | (with_reducible refine then_any ?_)
    | (with_reducible refine then_ret ?_)
    | (with_reducible refine then_exit ?_)
    | (with_reducible refine inBlock_normal ?_)
    | (with_reducible refine inBlock_ret ?_)
    | (with_reducible refine inBlock_hit ?_)
    | (with_reducible refine inBlock_miss (by decide) ?_)
    | (with_reducible refine awp_ret ?_)
    | (with_reducible refine awp_exit ?_)
    | (with_reducible refine post_ret ?_)
    | (with_reducible refine post_normal ?_)
    | (with_reducible refine awp_block ?_)
    | (with_reducible refine v_reg [] (fun K hK => ?_))
    | (with_reducible refine v_reg1 [] (fun K hK => ?_))
    | (with_reducible refine v_draw mixed [] [] (by kernel_rfl) (fun K hK => ?_))
    | (with_reducible refine v_draw1 mixed [] [] (by kernel_rfl) (fun K hK => ?_))
    | (with_reducible refine ev_nil (hK _ _ ?_); clear hK K)
    | (with_reducible refine ed_nil (hK _ _ ?_); clear hK K)
    | ((first | with_reducible refine ev_cons (fun K' hK' => ?_) | with_reducible refine ed_cons (fun K' hK' => ?_) | (with_reducible refine ev_id ?_; refine ev_guard rfl (fun K' hK' => ?_)) | (with_reducible refine ed_id ?_; refine ed_guard rfl (fun K' hK' => ?_))); simp [ints]; repeat' (first | (with_reducible refine hK' _ _ ?_; clear hK' K') | (with_reducible refine And.intro ?_ ?_) | (with_reducible intro hg) | (clear hK' K'; omega)))
    | (with_reducible refine w_cond (fun A B hA hB => ?_); simp [ints]; repeat' (first | (with_reducible refine hA ?_; clear hA hB A B) | (with_reducible refine hB ?_; clear hA hB A B) | (with_reducible refine And.intro ?_ ?_) | (with_reducible intro hc)))
    | (with_reducible refine awp_seq ?_))
  refine awp_loop (fun env h => ∃ k : Nat, k ≤ l.length ∧ x ∉ l.take k ∧ env 5 = I k ∧ env 0 = ints l ∧ env 1 = I x ∧ h = H) (fun env _ => l.length - natA (env 5)) ?_ ?_
  · exact ⟨0, by omega, by simp, by simp, by simp [ints], by simp, rfl⟩
  rintro env h ⟨k, hk, hno, h5, h0, h1, rfl⟩
  have hnat : natA (env 5) = k := by simp [h5]
  rw [hnat]; clear hnat
  by_cases hlt : k < l.length
  · by_cases e : l[k] = x
    · have hm : x ∈ l := by rw [← e]; exact List.getElem_mem _
      repeat' (first
        | (with_reducible refine awp_skip ?_)
        | (with_reducible refine then_any ?_)
        | (with_reducible refine then_ret ?_)
        | (with_reducible refine then_exit ?_)
        | (with_reducible refine inBlock_normal ?_)
        | (with_reducible refine inBlock_ret ?_)
        | (with_reducible refine inBlock_hit ?_)
        | (with_reducible refine inBlock_miss (by decide) ?_)
        | (with_reducible refine awp_ret ?_)
        | (with_reducible refine awp_exit ?_)
        | (with_reducible refine post_ret ?_)
        | (with_reducible refine post_normal ?_)
        | (with_reducible refine awp_block ?_)
        | (with_reducible refine v_reg [] (fun K hK => ?_))
        | (with_reducible refine v_reg1 [] (fun K hK => ?_))
        | (with_reducible refine v_draw mixed [] [] (by kernel_rfl) (fun K hK => ?_))
        | (with_reducible refine v_draw1 mixed [] [] (by kernel_rfl) (fun K hK => ?_))
        | (with_reducible refine ev_nil (hK _ _ ?_); clear hK K)
        | (with_reducible refine ed_nil (hK _ _ ?_); clear hK K)
        | ((first | with_reducible refine ev_cons (fun K' hK' => ?_) | with_reducible refine ed_cons (fun K' hK' => ?_) | (with_reducible refine ev_id ?_; refine ev_guard rfl (fun K' hK' => ?_)) | (with_reducible refine ed_id ?_; refine ed_guard rfl (fun K' hK' => ?_))); simp [h5, h0, h1, ints, hlt, e]; repeat' (first | (with_reducible refine hK' _ _ ?_; clear hK' K') | (with_reducible refine And.intro ?_ ?_) | (with_reducible intro hg) | (clear hK' K'; omega)))
        | (with_reducible refine w_cond (fun A B hA hB => ?_); simp [h5, h0, h1, ints, hlt, e]; repeat' (first | (with_reducible refine hA ?_; clear hA hB A B) | (with_reducible refine hB ?_; clear hA hB A B) | (with_reducible refine And.intro ?_ ?_) | (with_reducible intro hc)))
        | (with_reducible refine awp_seq ?_))
      simp [hm]
    · repeat' (first
        | (with_reducible refine awp_skip ?_)
        | (with_reducible refine then_any ?_)
        | (with_reducible refine then_ret ?_)
        | (with_reducible refine then_exit ?_)
        | (with_reducible refine inBlock_normal ?_)
        | (with_reducible refine inBlock_ret ?_)
        | (with_reducible refine inBlock_hit ?_)
        | (with_reducible refine inBlock_miss (by decide) ?_)
        | (with_reducible refine awp_ret ?_)
        | (with_reducible refine awp_exit ?_)
        | (with_reducible refine post_ret ?_)
        | (with_reducible refine post_normal ?_)
        | (with_reducible refine awp_block ?_)
        | (with_reducible refine v_reg [] (fun K hK => ?_))
        | (with_reducible refine v_reg1 [] (fun K hK => ?_))
        | (with_reducible refine v_draw mixed [] [] (by kernel_rfl) (fun K hK => ?_))
        | (with_reducible refine v_draw1 mixed [] [] (by kernel_rfl) (fun K hK => ?_))
        | (with_reducible refine ev_nil (hK _ _ ?_); clear hK K)
        | (with_reducible refine ed_nil (hK _ _ ?_); clear hK K)
        | ((first | with_reducible refine ev_cons (fun K' hK' => ?_) | with_reducible refine ed_cons (fun K' hK' => ?_) | (with_reducible refine ev_id ?_; refine ev_guard rfl (fun K' hK' => ?_)) | (with_reducible refine ed_id ?_; refine ed_guard rfl (fun K' hK' => ?_))); simp [h5, h0, h1, ints, hlt, e]; repeat' (first | (with_reducible refine hK' _ _ ?_; clear hK' K') | (with_reducible refine And.intro ?_ ?_) | (with_reducible intro hg) | (clear hK' K'; omega)))
        | (with_reducible refine w_cond (fun A B hA hB => ?_); simp [h5, h0, h1, ints, hlt, e]; repeat' (first | (with_reducible refine hA ?_; clear hA hB A B) | (with_reducible refine hB ?_; clear hA hB A B) | (with_reducible refine And.intro ?_ ?_) | (with_reducible intro hc)))
        | (with_reducible refine awp_seq ?_))
      exact ⟨⟨k + 1, by omega, by rw [List.take_succ_eq_append_getElem hlt, List.mem_append, List.mem_singleton]; exact fun h => h.elim hno fun e' => e e'.symm, by simp, by simp [h0], by simp [h1], rfl⟩, by simp; omega⟩
  · have : k = l.length := by omega
    subst this
    rw [List.take_length] at hno
    repeat' (first
      | (with_reducible refine awp_skip ?_)
      | (with_reducible refine then_any ?_)
      | (with_reducible refine then_ret ?_)
      | (with_reducible refine then_exit ?_)
      | (with_reducible refine inBlock_normal ?_)
      | (with_reducible refine inBlock_ret ?_)
      | (with_reducible refine inBlock_hit ?_)
      | (with_reducible refine inBlock_miss (by decide) ?_)
      | (with_reducible refine awp_ret ?_)
      | (with_reducible refine awp_exit ?_)
      | (with_reducible refine post_ret ?_)
      | (with_reducible refine post_normal ?_)
      | (with_reducible refine awp_block ?_)
      | (with_reducible refine v_reg [] (fun K hK => ?_))
      | (with_reducible refine v_reg1 [] (fun K hK => ?_))
      | (with_reducible refine v_draw mixed [] [] (by kernel_rfl) (fun K hK => ?_))
      | (with_reducible refine v_draw1 mixed [] [] (by kernel_rfl) (fun K hK => ?_))
      | (with_reducible refine ev_nil (hK _ _ ?_); clear hK K)
      | (with_reducible refine ed_nil (hK _ _ ?_); clear hK K)
      | ((first | with_reducible refine ev_cons (fun K' hK' => ?_) | with_reducible refine ed_cons (fun K' hK' => ?_) | (with_reducible refine ev_id ?_; refine ev_guard rfl (fun K' hK' => ?_)) | (with_reducible refine ed_id ?_; refine ed_guard rfl (fun K' hK' => ?_))); simp [h5, h0, h1, ints]; repeat' (first | (with_reducible refine hK' _ _ ?_; clear hK' K') | (with_reducible refine And.intro ?_ ?_) | (with_reducible intro hg) | (clear hK' K'; omega)))
      | (with_reducible refine w_cond (fun A B hA hB => ?_); simp [h5, h0, h1, ints]; repeat' (first | (with_reducible refine hA ?_; clear hA hB A B) | (with_reducible refine hB ?_; clear hA hB A B) | (with_reducible refine And.intro ?_ ?_) | (with_reducible intro hc)))
      | (with_reducible refine awp_seq ?_))
    simp [hno]

theorem enters19_ret {arcs : List (Int × Int)} {s : List Int} (ha : smLen arcs) (hs : okLen s) : Ret Try.prog w0 24 [pairs arcs, ints s] (ints (entA arcs no0 s)) := by
  intro H
  refine w_enter Try.func24 rfl Try.ntmps24 (ts := [4]) rfl (by simp) (by kernel_rfl) ?_ |> ret_frz
  repeat' (first
    | (with_reducible refine awp_skip ?_)
    | (with_reducible refine then_any ?_)
    | (with_reducible refine then_ret ?_)
    | (with_reducible refine then_exit ?_)
    | (with_reducible refine inBlock_normal ?_)
    | (with_reducible refine inBlock_ret ?_)
    | (with_reducible refine inBlock_hit ?_)
    | (with_reducible refine inBlock_miss (by decide) ?_)
    | (with_reducible refine awp_ret ?_)
    | (with_reducible refine awp_exit ?_)
    | (with_reducible refine post_ret ?_)
    | (with_reducible refine post_normal ?_)
    | (with_reducible refine awp_block ?_)
    | (with_reducible refine v_reg [7] (fun K hK => ?_))
    | (with_reducible refine v_reg1 [7] (fun K hK => ?_))
    | (with_reducible refine v_draw mixed [7] [] (by kernel_rfl) (fun K hK => ?_))
    | (with_reducible refine v_draw1 mixed [7] [] (by kernel_rfl) (fun K hK => ?_))
    | (with_reducible refine ev_nil (hK _ _ ?_); clear hK K)
    | (with_reducible refine ed_nil (hK _ _ ?_); clear hK K)
    | ((first | with_reducible refine ev_cons (fun K' hK' => ?_) | with_reducible refine ed_cons (fun K' hK' => ?_) | (with_reducible refine ev_id ?_; refine ev_guard rfl (fun K' hK' => ?_)) | (with_reducible refine ed_id ?_; refine ed_guard rfl (fun K' hK' => ?_))); simp [pairs, ints]; repeat' (first | (with_reducible refine hK' _ _ ?_; clear hK' K') | (with_reducible refine And.intro ?_ ?_) | (with_reducible intro hg) | (clear hK' K'; omega)))
    | (with_reducible refine w_cond (fun A B hA hB => ?_); simp [pairs, ints]; repeat' (first | (with_reducible refine hA ?_; clear hA hB A B) | (with_reducible refine hB ?_; clear hA hB A B) | (with_reducible refine And.intro ?_ ?_) | (with_reducible intro hc)))
    | (with_reducible refine awp_seq ?_))
  rename_i r
  have hr : H r = none := hg
  clear hg
  refine awp_loop (fun env h => ∃ k : Nat, k ≤ arcs.length ∧ env 6 = I k ∧ env 0 = pairs arcs ∧ env 1 = ints s ∧
      env 5 = .ref r 0 ((upto k).filter fun i => !no0 i && decide (hdA arcs i ∈ s) && !decide (tlA arcs i ∈ s)).length ((upto k).filter fun i => !no0 i && decide (hdA arcs i ∈ s) && !decide (tlA arcs i ∈ s)).length ∧
      h = upd H r (some (.arr 1 3 (((upto k).filter fun i => !no0 i && decide (hdA arcs i ∈ s) && !decide (tlA arcs i ∈ s)).map I) ((upto k).filter fun i => !no0 i && decide (hdA arcs i ∈ s) && !decide (tlA arcs i ∈ s)).length))) (fun env _ => arcs.length - natA (env 6)) ?_ ?_
  · exact ⟨0, by omega, by simp, by simp [pairs], by simp [ints], by simp [upto_zero], by simp [upto_zero]⟩
  rintro env h ⟨k, hk, h6, h0, h1, h5, rfl⟩
  have hnat : natA (env 6) = k := by simp [h6]
  rw [hnat]; clear hnat
  by_cases hlt : k < arcs.length
  · have hp := pairs_at hlt
    rw [tlA_get hlt, hdA_get hlt] at hp
    have hin := fun x => in19_ret (w0 := w0) (l := s) (x := x) hs
    have hfs : ((upto (k + 1)).filter fun i => !no0 i && decide (hdA arcs i ∈ s) && !decide (tlA arcs i ∈ s)) = ((upto k).filter fun i => !no0 i && decide (hdA arcs i ∈ s) && !decide (tlA arcs i ∈ s)) ++ if decide (hdA arcs k ∈ s) && !decide (tlA arcs k ∈ s) then [(k : Int)] else [] := by
      rw [upto_succ, List.filter_append, List.filter_cons]
      cases h : decide (hdA arcs k ∈ s) && !decide (tlA arcs k ∈ s) <;> simp [h]
    have hle := List.length_filter_le (fun i => !no0 i && decide (hdA arcs i ∈ s) && !decide (tlA arcs i ∈ s)) (upto k)
    rw [upto_length] at hle
    generalize ((upto k).filter fun i => !no0 i && decide (hdA arcs i ∈ s) && !decide (tlA arcs i ∈ s)) = o at *
    by_cases e1 : hdA arcs k ∈ s
    · by_cases e2 : tlA arcs k ∈ s
      · repeat' (first
          | (with_reducible refine awp_skip ?_)
          | (with_reducible refine then_any ?_)
          | (with_reducible refine then_ret ?_)
          | (with_reducible refine then_exit ?_)
          | (with_reducible refine inBlock_normal ?_)
          | (with_reducible refine inBlock_ret ?_)
          | (with_reducible refine inBlock_hit ?_)
          | (with_reducible refine inBlock_miss (by decide) ?_)
          | (with_reducible refine awp_ret ?_)
          | (with_reducible refine awp_exit ?_)
          | (with_reducible refine post_ret ?_)
          | (with_reducible refine post_normal ?_)
          | (with_reducible refine awp_block ?_)
          | (with_reducible refine v_reg [] (fun K hK => ?_))
          | (with_reducible refine v_reg1 [] (fun K hK => ?_))
          | (with_reducible refine v_draw mixed [] [] (by kernel_rfl) (fun K hK => ?_))
          | (with_reducible refine v_draw1 mixed [] [] (by kernel_rfl) (fun K hK => ?_))
          | (with_reducible refine ev_nil (hK _ _ ?_); clear hK K)
          | (with_reducible refine ed_nil (hK _ _ ?_); clear hK K)
          | ((first | with_reducible refine ev_cons (fun K' hK' => ?_) | with_reducible refine ed_cons (fun K' hK' => ?_) | (with_reducible refine ev_id ?_; refine ev_guard rfl (fun K' hK' => ?_)) | (with_reducible refine ed_id ?_; refine ed_guard rfl (fun K' hK' => ?_))); simp [h6, h0, h1, h5, pairs, ints, hlt, pairs_len, sum2, hp.1, hp.2.1, hp.2.2, e1, e2]; repeat' (first | (with_reducible refine hK' _ _ ?_; clear hK' K') | (with_reducible refine Ret.use (hin (tlA arcs k)) ?_; try simp [h6, h0, h1, h5, pairs, ints, hlt, pairs_len, sum2, hp.1, hp.2.1, hp.2.2, e1, e2]) | (with_reducible refine Ret.use (hin (hdA arcs k)) ?_; try simp [h6, h0, h1, h5, pairs, ints, hlt, pairs_len, sum2, hp.1, hp.2.1, hp.2.2, e1, e2]) | (with_reducible refine And.intro ?_ ?_) | (with_reducible intro hg) | (clear hK' K'; omega)))
          | (with_reducible refine w_cond (fun A B hA hB => ?_); simp [h6, h0, h1, h5, pairs, ints, hlt, pairs_len, sum2, hp.1, hp.2.1, hp.2.2, e1, e2]; repeat' (first | (with_reducible refine hA ?_; clear hA hB A B) | (with_reducible refine hB ?_; clear hA hB A B) | (with_reducible refine And.intro ?_ ?_) | (with_reducible intro hc)))
          | (with_reducible refine awp_seq ?_))
        exact ⟨⟨k + 1, by omega, by simp, by simp [h0], by simp [h1], by rw [hfs]; simp [h5, e1, e2], by rw [hfs]; simp [e1, e2]⟩, by simp; omega⟩
      · repeat' (first
          | (with_reducible refine awp_skip ?_)
          | (with_reducible refine then_any ?_)
          | (with_reducible refine then_ret ?_)
          | (with_reducible refine then_exit ?_)
          | (with_reducible refine inBlock_normal ?_)
          | (with_reducible refine inBlock_ret ?_)
          | (with_reducible refine inBlock_hit ?_)
          | (with_reducible refine inBlock_miss (by decide) ?_)
          | (with_reducible refine awp_ret ?_)
          | (with_reducible refine awp_exit ?_)
          | (with_reducible refine post_ret ?_)
          | (with_reducible refine post_normal ?_)
          | (with_reducible refine awp_block ?_)
          | (with_reducible refine v_reg [] (fun K hK => ?_))
          | (with_reducible refine v_reg1 [] (fun K hK => ?_))
          | (with_reducible refine v_draw mixed [] [] (by kernel_rfl) (fun K hK => ?_))
          | (with_reducible refine v_draw1 mixed [] [] (by kernel_rfl) (fun K hK => ?_))
          | (with_reducible refine ev_nil (hK _ _ ?_); clear hK K)
          | (with_reducible refine ed_nil (hK _ _ ?_); clear hK K)
          | ((first | with_reducible refine ev_cons (fun K' hK' => ?_) | with_reducible refine ed_cons (fun K' hK' => ?_) | (with_reducible refine ev_id ?_; refine ev_guard rfl (fun K' hK' => ?_)) | (with_reducible refine ed_id ?_; refine ed_guard rfl (fun K' hK' => ?_))); simp [h6, h0, h1, h5, pairs, ints, hlt, pairs_len, sum2, hp.1, hp.2.1, hp.2.2, e1, e2]; repeat' (first | (with_reducible refine hK' _ _ ?_; clear hK' K') | (with_reducible refine Ret.use (hin (tlA arcs k)) ?_; try simp [h6, h0, h1, h5, pairs, ints, hlt, pairs_len, sum2, hp.1, hp.2.1, hp.2.2, e1, e2]) | (with_reducible refine Ret.use (hin (hdA arcs k)) ?_; try simp [h6, h0, h1, h5, pairs, ints, hlt, pairs_len, sum2, hp.1, hp.2.1, hp.2.2, e1, e2]) | (with_reducible refine And.intro ?_ ?_) | (with_reducible intro hg) | (clear hK' K'; omega)))
          | (with_reducible refine w_cond (fun A B hA hB => ?_); simp [h6, h0, h1, h5, pairs, ints, hlt, pairs_len, sum2, hp.1, hp.2.1, hp.2.2, e1, e2]; repeat' (first | (with_reducible refine hA ?_; clear hA hB A B) | (with_reducible refine hB ?_; clear hA hB A B) | (with_reducible refine And.intro ?_ ?_) | (with_reducible intro hc)))
          | (with_reducible refine awp_seq ?_))
        exact ⟨⟨k + 1, by omega, by simp, by simp [h0], by simp [h1], by rw [hfs]; simp [e1, e2], by rw [hfs]; simp [e1, e2]⟩, by simp; omega⟩
    · repeat' (first
        | (with_reducible refine awp_skip ?_)
        | (with_reducible refine then_any ?_)
        | (with_reducible refine then_ret ?_)
        | (with_reducible refine then_exit ?_)
        | (with_reducible refine inBlock_normal ?_)
        | (with_reducible refine inBlock_ret ?_)
        | (with_reducible refine inBlock_hit ?_)
        | (with_reducible refine inBlock_miss (by decide) ?_)
        | (with_reducible refine awp_ret ?_)
        | (with_reducible refine awp_exit ?_)
        | (with_reducible refine post_ret ?_)
        | (with_reducible refine post_normal ?_)
        | (with_reducible refine awp_block ?_)
        | (with_reducible refine v_reg [] (fun K hK => ?_))
        | (with_reducible refine v_reg1 [] (fun K hK => ?_))
        | (with_reducible refine v_draw mixed [] [] (by kernel_rfl) (fun K hK => ?_))
        | (with_reducible refine v_draw1 mixed [] [] (by kernel_rfl) (fun K hK => ?_))
        | (with_reducible refine ev_nil (hK _ _ ?_); clear hK K)
        | (with_reducible refine ed_nil (hK _ _ ?_); clear hK K)
        | ((first | with_reducible refine ev_cons (fun K' hK' => ?_) | with_reducible refine ed_cons (fun K' hK' => ?_) | (with_reducible refine ev_id ?_; refine ev_guard rfl (fun K' hK' => ?_)) | (with_reducible refine ed_id ?_; refine ed_guard rfl (fun K' hK' => ?_))); simp [h6, h0, h1, h5, pairs, ints, hlt, pairs_len, sum2, hp.1, hp.2.1, hp.2.2, e1]; repeat' (first | (with_reducible refine hK' _ _ ?_; clear hK' K') | (with_reducible refine Ret.use (hin (tlA arcs k)) ?_; try simp [h6, h0, h1, h5, pairs, ints, hlt, pairs_len, sum2, hp.1, hp.2.1, hp.2.2, e1]) | (with_reducible refine Ret.use (hin (hdA arcs k)) ?_; try simp [h6, h0, h1, h5, pairs, ints, hlt, pairs_len, sum2, hp.1, hp.2.1, hp.2.2, e1]) | (with_reducible refine And.intro ?_ ?_) | (with_reducible intro hg) | (clear hK' K'; omega)))
        | (with_reducible refine w_cond (fun A B hA hB => ?_); simp [h6, h0, h1, h5, pairs, ints, hlt, pairs_len, sum2, hp.1, hp.2.1, hp.2.2, e1]; repeat' (first | (with_reducible refine hA ?_; clear hA hB A B) | (with_reducible refine hB ?_; clear hA hB A B) | (with_reducible refine And.intro ?_ ?_) | (with_reducible intro hc)))
        | (with_reducible refine awp_seq ?_))
      exact ⟨⟨k + 1, by omega, by simp, by simp [h0], by simp [h1], by rw [hfs]; simp [h5, e1], by rw [hfs]; simp [e1]⟩, by simp; omega⟩
  · have : k = arcs.length := by omega
    subst this
    repeat' (first
      | (with_reducible refine awp_skip ?_)
      | (with_reducible refine then_any ?_)
      | (with_reducible refine then_ret ?_)
      | (with_reducible refine then_exit ?_)
      | (with_reducible refine inBlock_normal ?_)
      | (with_reducible refine inBlock_ret ?_)
      | (with_reducible refine inBlock_hit ?_)
      | (with_reducible refine inBlock_miss (by decide) ?_)
      | (with_reducible refine awp_ret ?_)
      | (with_reducible refine awp_exit ?_)
      | (with_reducible refine post_ret ?_)
      | (with_reducible refine post_normal ?_)
      | (with_reducible refine awp_block ?_)
      | (with_reducible refine v_reg [] (fun K hK => ?_))
      | (with_reducible refine v_reg1 [] (fun K hK => ?_))
      | (with_reducible refine v_draw mixed [] [] (by kernel_rfl) (fun K hK => ?_))
      | (with_reducible refine v_draw1 mixed [] [] (by kernel_rfl) (fun K hK => ?_))
      | (with_reducible refine ev_nil (hK _ _ ?_); clear hK K)
      | (with_reducible refine ed_nil (hK _ _ ?_); clear hK K)
      | ((first | with_reducible refine ev_cons (fun K' hK' => ?_) | with_reducible refine ed_cons (fun K' hK' => ?_) | (with_reducible refine ev_id ?_; refine ev_guard rfl (fun K' hK' => ?_)) | (with_reducible refine ed_id ?_; refine ed_guard rfl (fun K' hK' => ?_))); simp [h6, h0, h1, h5, pairs, ints]; repeat' (first | (with_reducible refine hK' _ _ ?_; clear hK' K') | (with_reducible refine And.intro ?_ ?_) | (with_reducible intro hg) | (clear hK' K'; omega)))
      | (with_reducible refine w_cond (fun A B hA hB => ?_); simp [h6, h0, h1, h5, pairs, ints]; repeat' (first | (with_reducible refine hA ?_; clear hA hB A B) | (with_reducible refine hB ?_; clear hA hB A B) | (with_reducible refine And.intro ?_ ?_) | (with_reducible intro hc)))
      | (with_reducible refine awp_seq ?_))
    exact frz hr (by simp) rfl (by rw [cut_map]; rfl)
end Go.Am
