/- Contracts: IndexFunc of an array, DeleteFunc. -/
import Derived.Test.YtkgcmgbndapjcaaW26
import Derived.Test.YtkgcmgbndapjcaaW19
namespace Go.Am
open Go Go.Proofs
set_option linter.unusedVariables false
set_option linter.unusedSimpArgs false
variable {w0 : World}
attribute [local irreducible] AWP ACalls
attribute [local congr] acalls_congr

/-- A predicate of numbers, without captured variables: its contract. -/
abbrev PredR (w0 : World) (f : FuncId) (p : Int → Bool) : Prop := ∀ x : Int, Ret Try.prog w0 f [I x] (B (p x))

theorem indexRef_at {l : List Int} {f : FuncId} {p : Int → Bool} {H : Heap} {r : Nat} (hl : okLen l) (hr : H r = some (.arr 1 3 (l.map I) l.length)) (hp : PredR w0 f p) :
    RetAt Try.prog w0 84 [.ref r 0 l.length l.length, .clo f [] []] (I (idxI p l)) H := by
  refine .of ?_
  refine w_enter Try.func84 rfl Try.ntmps84 (ts := [4]) rfl (by simp) (by kernel_rfl) ?_
  repeat' (first
    | (with_reducible refine awp_skip ?_)
    | (with_reducible refine then_any ?_)
    | (with_reducible refine then_ret ?_)
    | (with_reducible refine then_exit ?_)
    | (with_reducible refine inBlock_normal ?_)
    | (with_reducible refine inBlock_ret ?_)
    | (with_reducible refine inBlock_hit ?_)
    | (with_reducible refine inBlock_miss (by decide) ?_)
    | (with_reducible refine awp_ret ?_)
    | (with_reducible refine awp_exit ?_)
    | (with_reducible refine post_ret ?_)
    | (with_reducible refine post_normal ?_)
    | (with_reducible refine awp_block ?_)
    | (with_reducible refine v_reg [] (fun K hK => ?_))
    | (with_reducible refine v_reg1 [] (fun K hK => ?_))
    | (with_reducible refine v_draw mixed [] [] (by kernel_rfl) (fun K hK => ?_))
    | (with_reducible refine v_draw1 mixed [] [] (by kernel_rfl) (fun K hK => ?_))
    | (with_reducible refine ev_nil (hK _ _ ?_); clear hK K)
    | (with_reducible refine ed_nil (hK _ _ ?_); clear hK K)
    | ((first | with_reducible refine ev_cons (fun K' hK' => ?_) | with_reducible refine ed_cons (fun K' hK' => ?_) | (with_reducible refine ev_id ?_; refine ev_guard rfl (fun K' hK' => ?_)) | (with_reducible refine ed_id ?_; refine ed_guard rfl (fun K' hK' => ?_))); simp; repeat' (first | (with_reducible refine hK' _ _ ?_; clear hK' K') | (with_reducible refine And.intro ?_ ?_) | (with_reducible intro hg) | (clear hK' K'; omega)))
    | (with_reducible refine w_cond (fun A B hA hB => ?_); simp; repeat' (first | (with_reducible refine hA ?_; clear hA hB A B) | (with_reducible refine hB ?_; clear hA hB A B) | (with_reducible refine And.intro ?_ ?_) | (with_reducible intro hc)))
    | (with_reducible refine awp_seq ?_))
  refine awp_loop (fun env h => ∃ k : Nat, k ≤ l.length ∧ env 8 = I k ∧ env 7 = I l.length ∧ env 0 = .ref r 0 l.length l.length ∧ env 1 = .clo f [] [] ∧ (∀ x ∈ l.take k, p x = false) ∧ h = H) (fun env _ => l.length - natA (env 8)) ?_ ?_
  · exact ⟨0, by omega, by simp, by simp, by simp, by simp, by simp, rfl⟩
  rintro env h ⟨k, hk, h8, h7, h0, h1, ht, rfl⟩
  have hnat : natA (env 8) = k := by simp [h8]
  rw [hnat]; clear hnat
  by_cases hlt : k < l.length
  · have hpk := hp l[k]
    cases hb : p l[k] with
    | true =>
      have := idxI_take hlt ht hb
      rw [hb] at hpk
      repeat' (first
        | (with_reducible refine awp_skip ?_)
        | (with_reducible refine then_any ?_)
        | (with_reducible refine then_ret ?_)
        | (with_reducible refine then_exit ?_)
        | (with_reducible refine inBlock_normal ?_)
        | (with_reducible refine inBlock_ret ?_)
        | (with_reducible refine inBlock_hit ?_)
        | (with_reducible refine inBlock_miss (by decide) ?_)
        | (with_reducible refine awp_ret ?_)
        | (with_reducible refine awp_exit ?_)
        | (with_reducible refine post_ret ?_)
        | (with_reducible refine post_normal ?_)
        | (with_reducible refine awp_block ?_)
        | (with_reducible refine v_reg [] (fun K hK => ?_))
        | (with_reducible refine v_reg1 [] (fun K hK => ?_))
        | (with_reducible refine v_draw mixed [] [] (by kernel_rfl) (fun K hK => ?_))
        | (with_reducible refine v_draw1 mixed [] [] (by kernel_rfl) (fun K hK => ?_))
        | (with_reducible refine ev_nil (hK _ _ ?_); clear hK K)
        | (with_reducible refine ed_nil (hK _ _ ?_); clear hK K)
        | ((first | with_reducible refine ev_cons (fun K' hK' => ?_) | with_reducible refine ed_cons (fun K' hK' => ?_) | (with_reducible refine ev_id ?_; refine ev_guard rfl (fun K' hK' => ?_)) | (with_reducible refine ed_id ?_; refine ed_guard rfl (fun K' hK' => ?_))); simp [h8, h7, h0, h1, hlt, hr]; repeat' (first | (with_reducible refine hK' _ _ ?_; clear hK' K') | (with_reducible refine Ret.use hpk ?_; try simp [h8, h7, h0, h1, hlt, hr]) | (with_reducible refine And.intro ?_ ?_) | (with_reducible intro hg) | (clear hK' K'; omega)))
        | (with_reducible refine w_cond (fun A B hA hB => ?_); simp [h8, h7, h0, h1, hlt, hr]; repeat' (first | (with_reducible refine hA ?_; clear hA hB A B) | (with_reducible refine hB ?_; clear hA hB A B) | (with_reducible refine And.intro ?_ ?_) | (with_reducible intro hc)))
        | (with_reducible refine awp_seq ?_))
      simp [this]
    | false =>
      rw [hb] at hpk
      repeat' (first
        | (with_reducible refine awp_skip ?_)
        | (with_reducible refine then_any ?_)
        | (with_reducible refine then_ret ?_)
        | (with_reducible refine then_exit ?_)
        | (with_reducible refine inBlock_normal ?_)
        | (with_reducible refine inBlock_ret ?_)
        | (with_reducible refine inBlock_hit ?_)
        | (with_reducible refine inBlock_miss (by decide) ?_)
        | (with_reducible refine awp_ret ?_)
        | (with_reducible refine awp_exit ?_)
        | (with_reducible refine post_ret ?_)
        | (with_reducible refine post_normal ?_)
        | (with_reducible refine awp_block ?_)
        | (with_reducible refine v_reg [] (fun K hK => ?_))
        | (with_reducible refine v_reg1 [] (fun K hK => ?_))
        | (with_reducible refine v_draw mixed [] [] (by kernel_rfl) (fun K hK => ?_))
        | (with_reducible refine v_draw1 mixed [] [] (by kernel_rfl) (fun K hK => ?_))
        | (with_reducible refine ev_nil (hK _ _ ?_); clear hK K)
        | (with_reducible refine ed_nil (hK _ _ ?_); clear hK K)
        | ((first | with_reducible refine ev_cons (fun K' hK' => ?_) | with_reducible refine ed_cons (fun K' hK' => ?_) | (with_reducible refine ev_id ?_; refine ev_guard rfl (fun K' hK' => ?_)) | (with_reducible refine ed_id ?_; refine ed_guard rfl (fun K' hK' => ?_))); simp [h8, h7, h0, h1, hlt, hr]; repeat' (first | (with_reducible refine hK' _ _ ?_; clear hK' K') | (with_reducible refine Ret.use hpk ?_; try simp [h8, h7, h0, h1, hlt, hr]) | (with_reducible refine And.intro ?_ ?_) | (with_reducible intro hg) | (clear hK' K'; omega)))
        | (with_reducible refine w_cond (fun A B hA hB => ?_); simp [h8, h7, h0, h1, hlt, hr]; repeat' (first | (with_reducible refine hA ?_; clear hA hB A B) | (with_reducible refine hB ?_; clear hA hB A B) | (with_reducible refine And.intro ?_ ?_) | (with_reducible intro hc)))
        | (with_reducible refine awp_seq ?_))
      refine ⟨⟨k + 1, by omega, by simp, by simp [h7], by simp [h0], by simp [h1], fun x hx => ?_, rfl⟩, by simp; omega⟩
      rw [List.take_succ_eq_append_getElem hlt, List.mem_append, List.mem_singleton] at hx
      rcases hx with hx | rfl
      · exact ht x hx
      · exact hb
  · have : k = l.length := by omega
    subst this
    rw [List.take_length] at ht
    have := idxI_none ht
    repeat' (first
      | (with_reducible refine awp_skip ?_)
      | (with_reducible refine then_any ?_)
      | (with_reducible refine then_ret ?_)
      | (with_reducible refine then_exit ?_)
      | (with_reducible refine inBlock_normal ?_)
      | (with_reducible refine inBlock_ret ?_)
      | (with_reducible refine inBlock_hit ?_)
      | (with_reducible refine inBlock_miss (by decide) ?_)
      | (with_reducible refine awp_ret ?_)
      | (with_reducible refine awp_exit ?_)
      | (with_reducible refine post_ret ?_)
      | (with_reducible refine post_normal ?_)
      | (with_reducible refine awp_block ?_)
      | (with_reducible refine v_reg [] (fun K hK => ?_))
      | (with_reducible refine v_reg1 [] (fun K hK => ?_))
      | (with_reducible refine v_draw mixed [] [] (by kernel_rfl) (fun K hK => ?_))
      | (with_reducible refine v_draw1 mixed [] [] (by kernel_rfl) (fun K hK => ?_))
      | (with_reducible refine ev_nil (hK _ _ ?_); clear hK K)
      | (with_reducible refine ed_nil (hK _ _ ?_); clear hK K)
      | ((first | with_reducible refine ev_cons (fun K' hK' => ?_) | with_reducible refine ed_cons (fun K' hK' => ?_) | (with_reducible refine ev_id ?_; refine ev_guard rfl (fun K' hK' => ?_)) | (with_reducible refine ed_id ?_; refine ed_guard rfl (fun K' hK' => ?_))); simp [h8, h7, h0, h1]; repeat' (first | (with_reducible refine hK' _ _ ?_; clear hK' K') | (with_reducible refine And.intro ?_ ?_) | (with_reducible intro hg) | (clear hK' K'; omega)))
      | (with_reducible refine w_cond (fun A B hA hB => ?_); simp [h8, h7, h0, h1]; repeat' (first | (with_reducible refine hA ?_; clear hA hB A B) | (with_reducible refine hB ?_; clear hA hB A B) | (with_reducible refine And.intro ?_ ?_) | (with_reducible intro hc)))
      | (with_reducible refine awp_seq ?_))
    simp [this]

theorem idxI_cases {α : Type} (p : α → Bool) (l : List α) : (idxI p l = -1 ∧ ∀ x ∈ l, p x = false) ∨ ∃ (k : Nat) (h : k < l.length), idxI p l = k ∧ p l[k] = true ∧ ∀ x ∈ l.take k, p x = false := by
  unfold idxI
  cases h : l.findIdx? p with
  | none =>
    rw [List.findIdx?_eq_none_iff] at h
    exact .inl ⟨rfl, fun x hx => by simpa using h x hx⟩
  | some k =>
    rw [List.findIdx?_eq_some_iff_getElem] at h
    obtain ⟨hk, hp, hb⟩ := h
    refine .inr ⟨k, hk, rfl, hp, fun x hx => ?_⟩
    rw [List.mem_take_iff_getElem] at hx
    obtain ⟨j, hj, rfl⟩ := hx
    simpa using hb j (by omega)

theorem setL_length' (vs : List AV) : ∀ (cells : List AV) (o : Nat), (setL cells o vs).length = cells.length := by
  induction vs with
  | nil => intro c o; rfl
  | cons v vs ih => intro c o; rw [setL, ih]; simp
theorem setL_take (vs : List AV) : ∀ (cells : List AV) (o k : Nat), k ≤ o → (setL cells o vs).take k = cells.take k := by
  induction vs with
  | nil => intro c o k _; rfl
  | cons v vs ih => intro c o k h; rw [setL, ih _ _ _ (by omega), List.take_set_of_le h]
theorem setL_ints (vs : List Int) : ∀ (c : List Int) (o : Nat), ∃ c' : List Int, setL (c.map I) o (vs.map I) = c'.map I ∧ c'.length = c.length ∧ ∀ k, k ≤ o → c'.take k = c.take k := by
  induction vs with
  | nil => intro c o; exact ⟨c, rfl, rfl, fun _ _ => rfl⟩
  | cons v vs ih =>
    intro c o
    obtain ⟨c', h1, h2, h3⟩ := ih (c.set o v) (o + 1)
    refine ⟨c', ?_, by rw [h2]; simp, fun k hk => ?_⟩
    · rw [List.map_cons, setL, ← h1, List.map_set]
    · rw [h3 k (by omega), List.take_set_of_le hk]
theorem zrep_ints (n : Nat) : zrep [.int .i64 0] n = (List.replicate n (0 : Int)).map I := by simp

theorem delete_use {l : List Int} {f : FuncId} {p : Int → Bool} {H : Heap} {r : Nat} (hl : l.length ≤ 1099511627776) (hr : H r = none) (hp : PredR w0 f p) {K : AV → Heap → Prop}
    (k : ∀ (c : List Int) (m : Nat), c.length = l.length → m ≤ l.length → c.take m = l.filter (fun x => !p x) → K (.ref r 0 m l.length) (upd H r (some (.arr 1 3 (c.map I) l.length)))) :
    ACalls Try.prog w0 82 [.ref r 0 l.length l.length, .clo f [] []] (upd H r (some (.arr 1 3 (l.map I) l.length))) K := by
  refine (?_ : ACalls Try.prog w0 82 [.ref r 0 l.length l.length, .clo f [] []] (upd H r (some (.arr 1 3 (l.map I) l.length)))
     (fun v H' => ∃ (c : List Int) (m : Nat), c.length = l.length ∧ m ≤ l.length ∧ c.take m = l.filter (fun x => !p x) ∧ v = .ref r 0 m l.length ∧ H' = upd H r (some (.arr 1 3 (c.map I) l.length)))).drop ?_
  · have hix := indexRef_at (w0 := w0) (H := upd H r (some (.arr 1 3 (l.map I) l.length))) (r := r) (l := l) (by omega) (by simp) hp
    refine w_enter Try.func82 rfl Try.ntmps82 (ts := [4]) rfl (by simp) (by kernel_rfl) ?_
    rcases idxI_cases p l with ⟨hi, hno⟩ | ⟨i0, hi0, hi, hpi, hno⟩
    · rw [hi] at hix
      repeat' (first
        | (with_reducible refine awp_skip ?_)
        | (with_reducible refine then_any ?_)
        | (with_reducible refine then_ret ?_)
        | (with_reducible refine then_exit ?_)
        | (with_reducible refine inBlock_normal ?_)
        | (with_reducible refine inBlock_ret ?_)
        | (with_reducible refine inBlock_hit ?_)
        | (with_reducible refine inBlock_miss (by decide) ?_)
        | (with_reducible refine awp_ret ?_)
        | (with_reducible refine awp_exit ?_)
        | (with_reducible refine post_ret ?_)
        | (with_reducible refine post_normal ?_)
        | (with_reducible refine awp_block ?_)
        | (with_reducible refine v_reg [] (fun K hK => ?_))
        | (with_reducible refine v_reg1 [] (fun K hK => ?_))
        | (with_reducible refine v_draw mixed [] [] (by kernel_rfl) (fun K hK => ?_))
        | (with_reducible refine v_draw1 mixed [] [] (by kernel_rfl) (fun K hK => ?_))
        | (with_reducible refine ev_nil (hK _ _ ?_); clear hK K)
        | (with_reducible refine ed_nil (hK _ _ ?_); clear hK K)
        | ((first | with_reducible refine ev_cons (fun K' hK' => ?_) | with_reducible refine ed_cons (fun K' hK' => ?_) | (with_reducible refine ev_id ?_; refine ev_guard rfl (fun K' hK' => ?_)) | (with_reducible refine ed_id ?_; refine ed_guard rfl (fun K' hK' => ?_))); simp; repeat' (first | (with_reducible refine hK' _ _ ?_; clear hK' K') | ((with_reducible refine RetAt.use hix ?_; try simp); try simp) | (with_reducible refine And.intro ?_ ?_) | (with_reducible intro hg) | (clear hK' K'; omega)))
        | (with_reducible refine w_cond (fun A B hA hB => ?_); simp; repeat' (first | (with_reducible refine hA ?_; clear hA hB A B) | (with_reducible refine hB ?_; clear hA hB A B) | (with_reducible refine And.intro ?_ ?_) | (with_reducible intro hc)))
        | (with_reducible refine awp_seq ?_))
      refine ⟨l, l.length, rfl, by omega, ?_, by simp, rfl⟩
      rw [List.take_length, List.filter_eq_self.2]
      intro x hx; simp [hno x hx]
    · rw [hi] at hix
      repeat' (first
        | (with_reducible refine awp_skip ?_)
        | (with_reducible refine then_any ?_)
        | (with_reducible refine then_ret ?_)
        | (with_reducible refine then_exit ?_)
        | (with_reducible refine inBlock_normal ?_)
        | (with_reducible refine inBlock_ret ?_)
        | (with_reducible refine inBlock_hit ?_)
        | (with_reducible refine inBlock_miss (by decide) ?_)
        | (with_reducible refine awp_ret ?_)
        | (with_reducible refine awp_exit ?_)
        | (with_reducible refine post_ret ?_)
        | (with_reducible refine post_normal ?_)
        | (with_reducible refine awp_block ?_)
        | (with_reducible refine v_reg [] (fun K hK => ?_))
        | (with_reducible refine v_reg1 [] (fun K hK => ?_))
        | (with_reducible refine v_draw mixed [] [] (by kernel_rfl) (fun K hK => ?_))
        | (with_reducible refine v_draw1 mixed [] [] (by kernel_rfl) (fun K hK => ?_))
        | (with_reducible refine ev_nil (hK _ _ ?_); clear hK K)
        | (with_reducible refine ed_nil (hK _ _ ?_); clear hK K)
        | ((first | with_reducible refine ev_cons (fun K' hK' => ?_) | with_reducible refine ed_cons (fun K' hK' => ?_) | (with_reducible refine ev_id ?_; refine ev_guard rfl (fun K' hK' => ?_)) | (with_reducible refine ed_id ?_; refine ed_guard rfl (fun K' hK' => ?_))); simp; repeat' (first | (with_reducible refine hK' _ _ ?_; clear hK' K') | ((with_reducible refine RetAt.use hix ?_; try simp); try simp) | (with_reducible refine And.intro ?_ ?_) | (with_reducible intro hg) | (clear hK' K'; omega)))
        | (with_reducible refine w_cond (fun A B hA hB => ?_); simp; repeat' (first | (with_reducible refine hA ?_; clear hA hB A B) | (with_reducible refine hB ?_; clear hA hB A B) | (with_reducible refine And.intro ?_ ?_) | (with_reducible intro hc)))
        | (with_reducible refine awp_seq ?_))
      all_goals try omega
      refine awp_loop (fun env h => ∃ (i j : Nat) (c : List Int), i ≤ j ∧ i < j ∧ j ≤ l.length ∧ c.length = l.length ∧ c.take i = (l.take j).filter (fun x => !p x) ∧ c.drop j = l.drop j ∧ env 5 = I i ∧ env 6 = I j ∧ env 0 = .ref r 0 l.length l.length ∧ env 1 = .clo f [] [] ∧
          h = upd H r (some (.arr 1 3 (c.map I) l.length))) (fun env _ => l.length - natA (env 6)) ?_ ?_
      · refine ⟨i0, i0 + 1, l, by omega, by omega, by omega, rfl, ?_, rfl, by simp, by simp, by simp, by simp, rfl⟩
        rw [List.take_succ_eq_append_getElem hi0, List.filter_append, List.filter_eq_self.2 (fun x hx => by simp [hno x hx])]
        simp [hpi]
      rintro env h ⟨i, j, c, hij, hij', hj, hcl, hct, hcd, h5, h6, h0, h1, rfl⟩
      have hnat : natA (env 6) = j := by simp [h6]
      rw [hnat]; clear hnat
      by_cases hlt : j < l.length
      · have hcj : c[j] = l[j] := by
          have := congrArg (·[0]?) hcd
          simp only [List.getElem?_drop, Nat.add_zero] at this
          rw [List.getElem?_eq_getElem (by omega), List.getElem?_eq_getElem hlt] at this
          simpa using this
        have hcj' : ∀ h, c[j]'h = l[j] := fun _ => hcj
        have hjc : j < c.length := by omega
        have hic : i < c.length := by omega
        have hts : (l.take (j + 1)).filter (fun x => !p x) = (l.take j).filter (fun x => !p x) ++ if p l[j] then [] else [l[j]] := by
          rw [List.take_succ_eq_append_getElem hlt, List.filter_append, List.filter_cons]
          cases p l[j] <;> simp
        have hds : c.drop (j + 1) = l.drop (j + 1) := by
          have := congrArg (List.drop 1) hcd
          simpa [List.drop_drop] using this
        have hpj := hp l[j]
        cases hb : p l[j] with
        | true =>
          rw [hb] at hpj
          rw [hb, if_pos rfl, List.append_nil] at hts
          repeat' (first
            | (with_reducible refine awp_skip ?_)
            | (with_reducible refine then_any ?_)
            | (with_reducible refine then_ret ?_)
            | (with_reducible refine then_exit ?_)
            | (with_reducible refine inBlock_normal ?_)
            | (with_reducible refine inBlock_ret ?_)
            | (with_reducible refine inBlock_hit ?_)
            | (with_reducible refine inBlock_miss (by decide) ?_)
            | (with_reducible refine awp_ret ?_)
            | (with_reducible refine awp_exit ?_)
            | (with_reducible refine post_ret ?_)
            | (with_reducible refine post_normal ?_)
            | (with_reducible refine awp_block ?_)
            | (with_reducible refine v_reg [] (fun K hK => ?_))
            | (with_reducible refine v_reg1 [] (fun K hK => ?_))
            | (with_reducible refine v_draw mixed [] [] (by kernel_rfl) (fun K hK => ?_))
            | (with_reducible refine v_draw1 mixed [] [] (by kernel_rfl) (fun K hK => ?_))
            | (with_reducible refine ev_nil (hK _ _ ?_); clear hK K)
            | (with_reducible refine ed_nil (hK _ _ ?_); clear hK K)
            | ((first | with_reducible refine ev_cons (fun K' hK' => ?_) | with_reducible refine ed_cons (fun K' hK' => ?_) | (with_reducible refine ev_id ?_; refine ev_guard rfl (fun K' hK' => ?_)) | (with_reducible refine ed_id ?_; refine ed_guard rfl (fun K' hK' => ?_))); simp [h5, h6, h0, h1, hlt, hcl, hcj', hjc]; repeat' (first | (with_reducible refine hK' _ _ ?_; clear hK' K') | (with_reducible refine Ret.use hpj ?_; try simp [h5, h6, h0, h1, hlt, hcl, hcj', hjc]) | (with_reducible refine And.intro ?_ ?_) | (with_reducible intro hg) | (clear hK' K'; omega)))
            | (with_reducible refine w_cond (fun A B hA hB => ?_); simp [h5, h6, h0, h1, hlt, hcl, hcj', hjc]; repeat' (first | (with_reducible refine hA ?_; clear hA hB A B) | (with_reducible refine hB ?_; clear hA hB A B) | (with_reducible refine And.intro ?_ ?_) | (with_reducible intro hc)))
            | (with_reducible refine awp_seq ?_))
          exact ⟨⟨i, j + 1, c, by omega, by omega, by omega, hcl, by rw [hts]; exact hct, hds, by simp [h5], by simp, by simp [h0], by simp [h1], rfl⟩, by simp; omega⟩
        | false =>
          rw [hb] at hpj
          rw [hb, if_neg (by simp)] at hts
          repeat' (first
            | (with_reducible refine awp_skip ?_)
            | (with_reducible refine then_any ?_)
            | (with_reducible refine then_ret ?_)
            | (with_reducible refine then_exit ?_)
            | (with_reducible refine inBlock_normal ?_)
            | (with_reducible refine inBlock_ret ?_)
            | (with_reducible refine inBlock_hit ?_)
            | (with_reducible refine inBlock_miss (by decide) ?_)
            | (with_reducible refine awp_ret ?_)
            | (with_reducible refine awp_exit ?_)
            | (with_reducible refine post_ret ?_)
            | (with_reducible refine post_normal ?_)
            | (with_reducible refine awp_block ?_)
            | (with_reducible refine v_reg [] (fun K hK => ?_))
            | (with_reducible refine v_reg1 [] (fun K hK => ?_))
            | (with_reducible refine v_draw mixed [] [] (by kernel_rfl) (fun K hK => ?_))
            | (with_reducible refine v_draw1 mixed [] [] (by kernel_rfl) (fun K hK => ?_))
            | (with_reducible refine ev_nil (hK _ _ ?_); clear hK K)
            | (with_reducible refine ed_nil (hK _ _ ?_); clear hK K)
            | ((first | with_reducible refine ev_cons (fun K' hK' => ?_) | with_reducible refine ed_cons (fun K' hK' => ?_) | (with_reducible refine ev_id ?_; refine ev_guard rfl (fun K' hK' => ?_)) | (with_reducible refine ed_id ?_; refine ed_guard rfl (fun K' hK' => ?_))); simp [h5, h6, h0, h1, hlt, hcl, hcj', hjc, hic]; repeat' (first | (with_reducible refine hK' _ _ ?_; clear hK' K') | (with_reducible refine Ret.use hpj ?_; try simp [h5, h6, h0, h1, hlt, hcl, hcj', hjc, hic]) | (with_reducible refine And.intro ?_ ?_) | (with_reducible intro hg) | (clear hK' K'; omega)))
            | (with_reducible refine w_cond (fun A B hA hB => ?_); simp [h5, h6, h0, h1, hlt, hcl, hcj', hjc, hic]; repeat' (first | (with_reducible refine hA ?_; clear hA hB A B) | (with_reducible refine hB ?_; clear hA hB A B) | (with_reducible refine And.intro ?_ ?_) | (with_reducible intro hc)))
            | (with_reducible refine awp_seq ?_))
          refine ⟨⟨i + 1, j + 1, c.set i l[j], by omega, by omega, by omega, by simpa using hcl, ?_, ?_, by simp, by simp, by simp [h0], by simp [h1], by simp [List.map_set]⟩, by simp; omega⟩
          · rw [hts, ← hct, List.take_succ_eq_append_getElem (by simpa using hic), List.take_set_of_le (Nat.le_refl _)]
            simp
          · rw [List.drop_set_of_lt (by omega)]; exact hds
      · have : j = l.length := by omega
        subst this
        rw [List.take_length] at hct
        have hil : i ≤ l.length := by omega
        obtain ⟨c', e1, e2, e3⟩ := setL_ints (List.replicate (l.length - i) 0) c i
        rw [← zrep_ints] at e1
        repeat' (first
          | (with_reducible refine awp_skip ?_)
          | (with_reducible refine then_any ?_)
          | (with_reducible refine then_ret ?_)
          | (with_reducible refine then_exit ?_)
          | (with_reducible refine inBlock_normal ?_)
          | (with_reducible refine inBlock_ret ?_)
          | (with_reducible refine inBlock_hit ?_)
          | (with_reducible refine inBlock_miss (by decide) ?_)
          | (with_reducible refine awp_ret ?_)
          | (with_reducible refine awp_exit ?_)
          | (with_reducible refine post_ret ?_)
          | (with_reducible refine post_normal ?_)
          | (with_reducible refine awp_block ?_)
          | (with_reducible refine v_reg [] (fun K hK => ?_))
          | (with_reducible refine v_reg1 [] (fun K hK => ?_))
          | (with_reducible refine v_draw mixed [] [] (by kernel_rfl) (fun K hK => ?_))
          | (with_reducible refine v_draw1 mixed [] [] (by kernel_rfl) (fun K hK => ?_))
          | (with_reducible refine ev_nil (hK _ _ ?_); clear hK K)
          | (with_reducible refine ed_nil (hK _ _ ?_); clear hK K)
          | ((first | with_reducible refine ev_cons (fun K' hK' => ?_) | with_reducible refine ed_cons (fun K' hK' => ?_) | (with_reducible refine ev_id ?_; refine ev_guard rfl (fun K' hK' => ?_)) | (with_reducible refine ed_id ?_; refine ed_guard rfl (fun K' hK' => ?_))); simp [h5, h6, h0, h1, hcl, hil]; repeat' (first | (with_reducible refine hK' _ _ ?_; clear hK' K') | (with_reducible refine And.intro ?_ ?_) | (with_reducible intro hg) | (clear hK' K'; omega)))
          | (with_reducible refine w_cond (fun A B hA hB => ?_); simp [h5, h6, h0, h1, hcl, hil]; repeat' (first | (with_reducible refine hA ?_; clear hA hB A B) | (with_reducible refine hB ?_; clear hA hB A B) | (with_reducible refine And.intro ?_ ?_) | (with_reducible intro hc)))
          | (with_reducible refine awp_seq ?_))
        exact ⟨c', i, by omega, by omega, by rw [e3 i (Nat.le_refl _), hct], by simp, by rw [← e1]; simp⟩
  · rintro v H' ⟨c, m, h1, h2, h3, rfl, rfl⟩
    exact ⟨_, .refl _, k c m h1 h2 h3⟩
end Go.Am
