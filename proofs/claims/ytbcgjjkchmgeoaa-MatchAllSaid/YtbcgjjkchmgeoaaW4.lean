/- Contracts: the program's sets. -/
import Derived.Test.YtbcgjjkchmgeoaaW3
namespace Go.Am
open Go Go.Proofs
set_option linter.unusedVariables false
set_option linter.unusedSimpArgs false
variable {w0 : World}
attribute [local irreducible] AWP ACalls
attribute [local congr] acalls_congr

theorem all_ret {n : Int} : Ret Try.prog w0 62 [I n] (ints (allL n)) := by
  intro H
  refine w_enter Try.func62 rfl Try.ntmps62 (ts := [2]) rfl (by simp) (by kernel_rfl) ?_ |> ret_frz
  repeat' (first
    | (with_reducible refine awp_skip ?_)
    | (with_reducible refine then_any ?_)
    | (with_reducible refine then_ret ?_)
    | (with_reducible refine then_exit ?_)
    | (with_reducible refine inBlock_normal ?_)
    | (with_reducible refine inBlock_ret ?_)
    | (with_reducible refine inBlock_hit ?_)
    | (with_reducible refine inBlock_miss (by decide) ?_)
    | (with_reducible refine awp_ret ?_)
    | (with_reducible refine awp_exit ?_)
    | (with_reducible refine post_ret ?_)
    | (with_reducible refine post_normal ?_)
    | (with_reducible refine awp_block ?_)
    | (with_reducible refine v_reg [] (fun K hK => ?_))
    | (with_reducible refine v_reg1 [] (fun K hK => ?_))
    | (with_reducible refine v_draw mixed [] [] (by kernel_rfl) (fun K hK => ?_))
    | (with_reducible refine v_draw1 mixed [] [] (by kernel_rfl) (fun K hK => ?_))
    | (with_reducible refine ev_nil (hK _ _ ?_); clear hK K)
    | (with_reducible refine ed_nil (hK _ _ ?_); clear hK K)
    | ((first | with_reducible refine ev_cons (fun K' hK' => ?_) | with_reducible refine ed_cons (fun K' hK' => ?_) | (with_reducible refine ev_id ?_; refine ev_guard rfl (fun K' hK' => ?_)) | (with_reducible refine ed_id ?_; refine ed_guard rfl (fun K' hK' => ?_))); simp [ints]; repeat' (first | (with_reducible refine hK' _ _ ?_; clear hK' K') | (with_reducible refine And.intro ?_ ?_) | (with_reducible intro hg) | (clear hK' K'; omega)))
    | (with_reducible refine w_cond (fun A B hA hB => ?_); simp [ints]; repeat' (first | (with_reducible refine hA ?_; clear hA hB A B) | (with_reducible refine hB ?_; clear hA hB A B) | (with_reducible refine And.intro ?_ ?_) | (with_reducible intro hc)))
    | (with_reducible refine awp_seq ?_))
  · exact .inl ⟨by simp [allL, show ¬ n ≤ 100000 by omega], .refl _⟩
  · rename_i hn1 r
    have hr : H r = none := hg
    clear hg
    refine awp_loop (fun env h => ∃ (k : Nat), (k : Int) ≤ n ∧ env 14 = I k ∧ env 13 = I n ∧ env 3 = .ref r 0 n.toNat n.toNat ∧ h = upd H r (some (.arr 1 3 ((upto k ++ List.replicate (n.toNat - k) 0).map I) n.toNat))) (fun env _ => n.toNat - natA (env 14)) ?_ ?_
    · exact ⟨0, by omega, by simp, by simp, by simp, by simp [upto_zero]⟩
    rintro env h ⟨k, hk, h14, h13, h3, rfl⟩
    have hnat : natA (env 14) = k := by simp [h14]
    rw [hnat]; clear hnat
    by_cases hlt : (k : Int) < n
    · have hlt' : k < n.toNat := by omega
      obtain ⟨m, hm⟩ : ∃ m, n.toNat - k = m + 1 := ⟨n.toNat - k - 1, by omega⟩
      have hs := set_next (upto k) m (0 : Int) k
      rw [upto_length, ← upto_succ] at hs
      rw [hm]
      repeat' (first
        | (with_reducible refine awp_skip ?_)
        | (with_reducible refine then_any ?_)
        | (with_reducible refine then_ret ?_)
        | (with_reducible refine then_exit ?_)
        | (with_reducible refine inBlock_normal ?_)
        | (with_reducible refine inBlock_ret ?_)
        | (with_reducible refine inBlock_hit ?_)
        | (with_reducible refine inBlock_miss (by decide) ?_)
        | (with_reducible refine awp_ret ?_)
        | (with_reducible refine awp_exit ?_)
        | (with_reducible refine post_ret ?_)
        | (with_reducible refine post_normal ?_)
        | (with_reducible refine awp_block ?_)
        | (with_reducible refine v_reg [] (fun K hK => ?_))
        | (with_reducible refine v_reg1 [] (fun K hK => ?_))
        | (with_reducible refine v_draw mixed [] [] (by kernel_rfl) (fun K hK => ?_))
        | (with_reducible refine v_draw1 mixed [] [] (by kernel_rfl) (fun K hK => ?_))
        | (with_reducible refine ev_nil (hK _ _ ?_); clear hK K)
        | (with_reducible refine ed_nil (hK _ _ ?_); clear hK K)
        | ((first | with_reducible refine ev_cons (fun K' hK' => ?_) | with_reducible refine ed_cons (fun K' hK' => ?_) | (with_reducible refine ev_id ?_; refine ev_guard rfl (fun K' hK' => ?_)) | (with_reducible refine ed_id ?_; refine ed_guard rfl (fun K' hK' => ?_))); simp [h14, h13, h3, hlt, hlt']; repeat' (first | (with_reducible refine hK' _ _ ?_; clear hK' K') | (with_reducible refine And.intro ?_ ?_) | (with_reducible intro hg) | (clear hK' K'; omega)))
        | (with_reducible refine w_cond (fun A B hA hB => ?_); simp [h14, h13, h3, hlt, hlt']; repeat' (first | (with_reducible refine hA ?_; clear hA hB A B) | (with_reducible refine hB ?_; clear hA hB A B) | (with_reducible refine And.intro ?_ ?_) | (with_reducible intro hc)))
        | (with_reducible refine awp_seq ?_))
      refine ⟨⟨k + 1, by omega, by simp, by simp [h13], by simp [h3], ?_⟩, by simp; omega⟩
      have hm' : n.toNat - (k + 1) = m := by omega
      rw [hm', ← hs]
      simp [upd_upd]
    · have : n.toNat = k := by omega
      rw [this, Nat.sub_self]
      repeat' (first
        | (with_reducible refine awp_skip ?_)
        | (with_reducible refine then_any ?_)
        | (with_reducible refine then_ret ?_)
        | (with_reducible refine then_exit ?_)
        | (with_reducible refine inBlock_normal ?_)
        | (with_reducible refine inBlock_ret ?_)
        | (with_reducible refine inBlock_hit ?_)
        | (with_reducible refine inBlock_miss (by decide) ?_)
        | (with_reducible refine awp_ret ?_)
        | (with_reducible refine awp_exit ?_)
        | (with_reducible refine post_ret ?_)
        | (with_reducible refine post_normal ?_)
        | (with_reducible refine awp_block ?_)
        | (with_reducible refine v_reg [] (fun K hK => ?_))
        | (with_reducible refine v_reg1 [] (fun K hK => ?_))
        | (with_reducible refine v_draw mixed [] [] (by kernel_rfl) (fun K hK => ?_))
        | (with_reducible refine v_draw1 mixed [] [] (by kernel_rfl) (fun K hK => ?_))
        | (with_reducible refine ev_nil (hK _ _ ?_); clear hK K)
        | (with_reducible refine ed_nil (hK _ _ ?_); clear hK K)
        | ((first | with_reducible refine ev_cons (fun K' hK' => ?_) | with_reducible refine ed_cons (fun K' hK' => ?_) | (with_reducible refine ev_id ?_; refine ev_guard rfl (fun K' hK' => ?_)) | (with_reducible refine ed_id ?_; refine ed_guard rfl (fun K' hK' => ?_))); simp [h14, h13, h3, this]; repeat' (first | (with_reducible refine hK' _ _ ?_; clear hK' K') | (with_reducible refine And.intro ?_ ?_) | (with_reducible intro hg) | (clear hK' K'; omega)))
        | (with_reducible refine w_cond (fun A B hA hB => ?_); simp [h14, h13, h3, this]; repeat' (first | (with_reducible refine hA ?_; clear hA hB A B) | (with_reducible refine hB ?_; clear hA hB A B) | (with_reducible refine And.intro ?_ ?_) | (with_reducible intro hc)))
        | (with_reducible refine awp_seq ?_))
      refine frz hr (by simp) rfl ?_
      have hn5 : n ≤ 100000 := by assumption
      simp [cut_upto, allL, this, hn5]
  · exact .inl ⟨by simp [allL, show n.toNat = 0 by omega, upto_zero], .refl _⟩

/-- What is taken of two sets. -/
def mergeL (l r b : Bool) : List Int → List Int → List Int
  | [], [] => []
  | [], y :: bs => if r then y :: mergeL l r b [] bs else mergeL l r b [] bs
  | x :: xs, [] => if l then x :: mergeL l r b xs [] else mergeL l r b xs []
  | x :: xs, y :: bs =>
    if x < y then (if l then x :: mergeL l r b xs (y :: bs) else mergeL l r b xs (y :: bs))
    else if y < x then (if r then y :: mergeL l r b (x :: xs) bs else mergeL l r b (x :: xs) bs)
    else (if b then x :: mergeL l r b xs bs else mergeL l r b xs bs)
termination_by a b => a.length + b.length

theorem merge_ret {a b : List Int} {l r c : Bool} (ha : smLen a) (hb : smLen b) : Ret Try.prog w0 90 [ints a, ints b, B l, B r, B c] (ints (if risesB (-1) a && risesB (-1) b then mergeL l r c a b else [])) := by
  intro H
  have ha' : okLen a := by omega
  have hb' : okLen b := by omega
  refine w_enter Try.func90 rfl Try.ntmps90 (ts := [10]) rfl (by simp) (by kernel_rfl) ?_ |> ret_frz
  repeat' (first
    | (with_reducible refine awp_skip ?_)
    | (with_reducible refine then_any ?_)
    | (with_reducible refine then_ret ?_)
    | (with_reducible refine then_exit ?_)
    | (with_reducible refine inBlock_normal ?_)
    | (with_reducible refine inBlock_ret ?_)
    | (with_reducible refine inBlock_hit ?_)
    | (with_reducible refine inBlock_miss (by decide) ?_)
    | (with_reducible refine awp_ret ?_)
    | (with_reducible refine awp_exit ?_)
    | (with_reducible refine post_ret ?_)
    | (with_reducible refine post_normal ?_)
    | (with_reducible refine awp_block ?_)
    | (with_reducible refine v_reg [11] (fun K hK => ?_))
    | (with_reducible refine v_reg1 [11] (fun K hK => ?_))
    | (with_reducible refine v_draw mixed [11] [] (by kernel_rfl) (fun K hK => ?_))
    | (with_reducible refine v_draw1 mixed [11] [] (by kernel_rfl) (fun K hK => ?_))
    | (with_reducible refine ev_nil (hK _ _ ?_); clear hK K)
    | (with_reducible refine ed_nil (hK _ _ ?_); clear hK K)
    | ((first | with_reducible refine ev_cons (fun K' hK' => ?_) | with_reducible refine ed_cons (fun K' hK' => ?_) | (with_reducible refine ev_id ?_; refine ev_guard rfl (fun K' hK' => ?_)) | (with_reducible refine ed_id ?_; refine ed_guard rfl (fun K' hK' => ?_))); simp [ints]; repeat' (first | (with_reducible refine hK' _ _ ?_; clear hK' K') | (with_reducible refine Ret.use (may_ret ha') ?_; try simp [ints]) | (with_reducible refine Ret.use (may_ret hb') ?_; try simp [ints]) | (with_reducible refine And.intro ?_ ?_) | (with_reducible intro hg) | (clear hK' K'; omega)))
    | (with_reducible refine w_cond (fun A B hA hB => ?_); simp [ints]; repeat' (first | (with_reducible refine hA ?_; clear hA hB A B) | (with_reducible refine hB ?_; clear hA hB A B) | (with_reducible refine And.intro ?_ ?_) | (with_reducible intro hc)))
    | (with_reducible refine awp_seq ?_))
  · exact .inl ⟨by simp [hc], .refl _⟩
  · rename_i hra r' 
    have hr : H r' = none := hg
    clear hg
    rw [hra, hc]
    simp only [Bool.and_self, if_true]
    refine awp_loop (fun env h => ∃ (out a' b' : List Int), out ++ mergeL l r c a' b' = mergeL l r c a b ∧ a'.length ≤ a.length ∧ b'.length ≤ b.length ∧ out.length + a'.length + b'.length ≤ a.length + b.length ∧
       env 0 = ints a' ∧ env 1 = ints b' ∧ env 2 = B l ∧ env 3 = B r ∧ env 4 = B c ∧ env 11 = .ref r' 0 out.length out.length ∧ h = upd H r' (some (.arr 1 3 (out.map I) out.length))) (fun env _ => lenA (env 0) + lenA (env 1)) ?_ ?_
    · exact ⟨[], a, b, rfl, by omega, by omega, by simp, by simp [ints], by simp [ints], by simp, by simp, by simp, by simp, by simp⟩
    rintro env h ⟨out, a', b', ho, hla, hlb, hlo, h0, h1, h2, h3, h4, h11, rfl⟩
    have hm : lenA (env 0) + lenA (env 1) = a'.length + b'.length := by simp [h0, h1, lenA, ints]
    rw [hm]; clear hm
    cases a' with
    | nil =>
      cases b' with
      | nil =>
        repeat' (first
          | (with_reducible refine awp_skip ?_)
          | (with_reducible refine then_any ?_)
          | (with_reducible refine then_ret ?_)
          | (with_reducible refine then_exit ?_)
          | (with_reducible refine inBlock_normal ?_)
          | (with_reducible refine inBlock_ret ?_)
          | (with_reducible refine inBlock_hit ?_)
          | (with_reducible refine inBlock_miss (by decide) ?_)
          | (with_reducible refine awp_ret ?_)
          | (with_reducible refine awp_exit ?_)
          | (with_reducible refine post_ret ?_)
          | (with_reducible refine post_normal ?_)
          | (with_reducible refine awp_block ?_)
          | (with_reducible refine v_reg [] (fun K hK => ?_))
          | (with_reducible refine v_reg1 [] (fun K hK => ?_))
          | (with_reducible refine v_draw mixed [] [] (by kernel_rfl) (fun K hK => ?_))
          | (with_reducible refine v_draw1 mixed [] [] (by kernel_rfl) (fun K hK => ?_))
          | (with_reducible refine ev_nil (hK _ _ ?_); clear hK K)
          | (with_reducible refine ed_nil (hK _ _ ?_); clear hK K)
          | ((first | with_reducible refine ev_cons (fun K' hK' => ?_) | with_reducible refine ed_cons (fun K' hK' => ?_) | (with_reducible refine ev_id ?_; refine ev_guard rfl (fun K' hK' => ?_)) | (with_reducible refine ed_id ?_; refine ed_guard rfl (fun K' hK' => ?_))); simp [h0, h1, h2, h3, h4, h11, ints]; repeat' (first | (with_reducible refine hK' _ _ ?_; clear hK' K') | (with_reducible refine And.intro ?_ ?_) | (with_reducible intro hg) | (clear hK' K'; omega)))
          | (with_reducible refine w_cond (fun A B hA hB => ?_); simp [h0, h1, h2, h3, h4, h11, ints]; repeat' (first | (with_reducible refine hA ?_; clear hA hB A B) | (with_reducible refine hB ?_; clear hA hB A B) | (with_reducible refine And.intro ?_ ?_) | (with_reducible intro hc)))
          | (with_reducible refine awp_seq ?_))
        refine frz hr (by simp) rfl ?_
        rw [mergeL, List.append_nil] at ho
        simp [ho]
      | cons y ys =>
        rw [mergeL] at ho
        simp only [List.length_cons, List.length_nil] at hla hlb hlo
        repeat' (first
          | (with_reducible refine awp_skip ?_)
          | (with_reducible refine then_any ?_)
          | (with_reducible refine then_ret ?_)
          | (with_reducible refine then_exit ?_)
          | (with_reducible refine inBlock_normal ?_)
          | (with_reducible refine inBlock_ret ?_)
          | (with_reducible refine inBlock_hit ?_)
          | (with_reducible refine inBlock_miss (by decide) ?_)
          | (with_reducible refine awp_ret ?_)
          | (with_reducible refine awp_exit ?_)
          | (with_reducible refine post_ret ?_)
          | (with_reducible refine post_normal ?_)
          | (with_reducible refine awp_block ?_)
          | (with_reducible refine v_reg [] (fun K hK => ?_))
          | (with_reducible refine v_reg1 [] (fun K hK => ?_))
          | (with_reducible refine v_draw mixed [] [] (by kernel_rfl) (fun K hK => ?_))
          | (with_reducible refine v_draw1 mixed [] [] (by kernel_rfl) (fun K hK => ?_))
          | (with_reducible refine ev_nil (hK _ _ ?_); clear hK K)
          | (with_reducible refine ed_nil (hK _ _ ?_); clear hK K)
          | ((first | with_reducible refine ev_cons (fun K' hK' => ?_) | with_reducible refine ed_cons (fun K' hK' => ?_) | (with_reducible refine ev_id ?_; refine ev_guard rfl (fun K' hK' => ?_)) | (with_reducible refine ed_id ?_; refine ed_guard rfl (fun K' hK' => ?_))); simp [h0, h1, h2, h3, h4, h11, ints]; repeat' (first | (with_reducible refine hK' _ _ ?_; clear hK' K') | (with_reducible refine And.intro ?_ ?_) | (with_reducible intro hg) | (clear hK' K'; omega)))
          | (with_reducible refine w_cond (fun A B hA hB => ?_); simp [h0, h1, h2, h3, h4, h11, ints]; repeat' (first | (with_reducible refine hA ?_; clear hA hB A B) | (with_reducible refine hB ?_; clear hA hB A B) | (with_reducible refine And.intro ?_ ?_) | (with_reducible intro hc)))
          | (with_reducible refine awp_seq ?_))
        · exact ⟨⟨out ++ [y], [], ys, by simpa [hc] using ho, by (try simp) <;> omega, by (try simp) <;> omega, by (try simp) <;> omega, by simp [h0], by simp [h1], by simp [h2], by simp [h3], by simp [h4], by simp [h11], by simp⟩, by (try simp [lenA, h0, h1]) <;> omega⟩
        · exact ⟨⟨out, [], ys, by simpa [hc] using ho, by (try simp) <;> omega, by (try simp) <;> omega, by (try simp) <;> omega, by simp [h0], by simp [h1], by simp [h2], by simp [h3], by simp [h4], by simp [h11], by simp⟩, by (try simp [lenA, h0, h1]) <;> omega⟩
    | cons x xs =>
      cases b' with
      | nil =>
        rw [mergeL] at ho
        simp only [List.length_cons, List.length_nil] at hla hlb hlo
        repeat' (first
          | (with_reducible refine awp_skip ?_)
          | (with_reducible refine then_any ?_)
          | (with_reducible refine then_ret ?_)
          | (with_reducible refine then_exit ?_)
          | (with_reducible refine inBlock_normal ?_)
          | (with_reducible refine inBlock_ret ?_)
          | (with_reducible refine inBlock_hit ?_)
          | (with_reducible refine inBlock_miss (by decide) ?_)
          | (with_reducible refine awp_ret ?_)
          | (with_reducible refine awp_exit ?_)
          | (with_reducible refine post_ret ?_)
          | (with_reducible refine post_normal ?_)
          | (with_reducible refine awp_block ?_)
          | (with_reducible refine v_reg [] (fun K hK => ?_))
          | (with_reducible refine v_reg1 [] (fun K hK => ?_))
          | (with_reducible refine v_draw mixed [] [] (by kernel_rfl) (fun K hK => ?_))
          | (with_reducible refine v_draw1 mixed [] [] (by kernel_rfl) (fun K hK => ?_))
          | (with_reducible refine ev_nil (hK _ _ ?_); clear hK K)
          | (with_reducible refine ed_nil (hK _ _ ?_); clear hK K)
          | ((first | with_reducible refine ev_cons (fun K' hK' => ?_) | with_reducible refine ed_cons (fun K' hK' => ?_) | (with_reducible refine ev_id ?_; refine ev_guard rfl (fun K' hK' => ?_)) | (with_reducible refine ed_id ?_; refine ed_guard rfl (fun K' hK' => ?_))); simp [h0, h1, h2, h3, h4, h11, ints]; repeat' (first | (with_reducible refine hK' _ _ ?_; clear hK' K') | (with_reducible refine And.intro ?_ ?_) | (with_reducible intro hg) | (clear hK' K'; omega)))
          | (with_reducible refine w_cond (fun A B hA hB => ?_); simp [h0, h1, h2, h3, h4, h11, ints]; repeat' (first | (with_reducible refine hA ?_; clear hA hB A B) | (with_reducible refine hB ?_; clear hA hB A B) | (with_reducible refine And.intro ?_ ?_) | (with_reducible intro hc)))
          | (with_reducible refine awp_seq ?_))
        · exact ⟨⟨out ++ [x], xs, [], by simpa [hc] using ho, by (try simp) <;> omega, by (try simp) <;> omega, by (try simp) <;> omega, by simp [h0], by simp [h1], by simp [h2], by simp [h3], by simp [h4], by simp [h11], by simp⟩, by (try simp [lenA, h0, h1]) <;> omega⟩
        · exact ⟨⟨out, xs, [], by simpa [hc] using ho, by (try simp) <;> omega, by (try simp) <;> omega, by (try simp) <;> omega, by simp [h0], by simp [h1], by simp [h2], by simp [h3], by simp [h4], by simp [h11], by simp⟩, by (try simp [lenA, h0, h1]) <;> omega⟩
      | cons y ys =>
        rw [mergeL] at ho
        simp only [List.length_cons, List.length_nil] at hla hlb hlo
        repeat' (first
          | (with_reducible refine awp_skip ?_)
          | (with_reducible refine then_any ?_)
          | (with_reducible refine then_ret ?_)
          | (with_reducible refine then_exit ?_)
          | (with_reducible refine inBlock_normal ?_)
          | (with_reducible refine inBlock_ret ?_)
          | (with_reducible refine inBlock_hit ?_)
          | (with_reducible refine inBlock_miss (by decide) ?_)
          | (with_reducible refine awp_ret ?_)
          | (with_reducible refine awp_exit ?_)
          | (with_reducible refine post_ret ?_)
          | (with_reducible refine post_normal ?_)
          | (with_reducible refine awp_block ?_)
          | (with_reducible refine v_reg [] (fun K hK => ?_))
          | (with_reducible refine v_reg1 [] (fun K hK => ?_))
          | (with_reducible refine v_draw mixed [] [] (by kernel_rfl) (fun K hK => ?_))
          | (with_reducible refine v_draw1 mixed [] [] (by kernel_rfl) (fun K hK => ?_))
          | (with_reducible refine ev_nil (hK _ _ ?_); clear hK K)
          | (with_reducible refine ed_nil (hK _ _ ?_); clear hK K)
          | ((first | with_reducible refine ev_cons (fun K' hK' => ?_) | with_reducible refine ed_cons (fun K' hK' => ?_) | (with_reducible refine ev_id ?_; refine ev_guard rfl (fun K' hK' => ?_)) | (with_reducible refine ed_id ?_; refine ed_guard rfl (fun K' hK' => ?_))); simp [h0, h1, h2, h3, h4, h11, ints]; repeat' (first | (with_reducible refine hK' _ _ ?_; clear hK' K') | (with_reducible refine And.intro ?_ ?_) | (with_reducible intro hg) | (clear hK' K'; omega)))
          | (with_reducible refine w_cond (fun A B hA hB => ?_); simp [h0, h1, h2, h3, h4, h11, ints]; repeat' (first | (with_reducible refine hA ?_; clear hA hB A B) | (with_reducible refine hB ?_; clear hA hB A B) | (with_reducible refine And.intro ?_ ?_) | (with_reducible intro hc)))
          | (with_reducible refine awp_seq ?_))
        all_goals first
          | (exfalso; omega)
          | exact ⟨⟨out ++ [x], xs, y :: ys, by rw [if_pos (by omega), if_pos hc] at ho; simpa using ho, by (try simp) <;> omega, by (try simp) <;> omega, by (try simp) <;> omega, by simp [h0], by simp [h1], by simp [h2], by simp [h3], by simp [h4], by simp [h11], by simp⟩, by (try simp [lenA, h0, h1]) <;> omega⟩
          | exact ⟨⟨out, xs, y :: ys, by rw [if_pos (by omega), if_neg (by simp [hc])] at ho; simpa using ho, by (try simp) <;> omega, by (try simp) <;> omega, by (try simp) <;> omega, by simp [h0], by simp [h1], by simp [h2], by simp [h3], by simp [h4], by simp [h11], by simp⟩, by (try simp [lenA, h0, h1]) <;> omega⟩
          | exact ⟨⟨out ++ [y], x :: xs, ys, by rw [if_neg (by omega), if_pos (by omega), if_pos hc] at ho; simpa using ho, by (try simp) <;> omega, by (try simp) <;> omega, by (try simp) <;> omega, by simp [h0], by simp [h1], by simp [h2], by simp [h3], by simp [h4], by simp [h11], by simp⟩, by (try simp [lenA, h0, h1]) <;> omega⟩
          | exact ⟨⟨out, x :: xs, ys, by rw [if_neg (by omega), if_pos (by omega), if_neg (by simp [hc])] at ho; simpa using ho, by (try simp) <;> omega, by (try simp) <;> omega, by (try simp) <;> omega, by simp [h0], by simp [h1], by simp [h2], by simp [h3], by simp [h4], by simp [h11], by simp⟩, by (try simp [lenA, h0, h1]) <;> omega⟩
          | exact ⟨⟨out ++ [x], xs, ys, by rw [if_neg (by omega), if_neg (by omega), if_pos hc] at ho; simpa using ho, by (try simp) <;> omega, by (try simp) <;> omega, by (try simp) <;> omega, by simp [h0], by simp [h1], by simp [h2], by simp [h3], by simp [h4], by simp [h11], by simp⟩, by (try simp [lenA, h0, h1]) <;> omega⟩
          | exact ⟨⟨out, xs, ys, by rw [if_neg (by omega), if_neg (by omega), if_neg (by simp [hc])] at ho; simpa using ho, by (try simp) <;> omega, by (try simp) <;> omega, by (try simp) <;> omega, by simp [h0], by simp [h1], by simp [h2], by simp [h3], by simp [h4], by simp [h11], by simp⟩, by (try simp [lenA, h0, h1]) <;> omega⟩
  · exact .inl ⟨by simp [hg], .refl _⟩

end Go.Am
