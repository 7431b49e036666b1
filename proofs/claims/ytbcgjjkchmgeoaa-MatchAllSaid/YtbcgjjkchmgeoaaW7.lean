/- Contracts: graphs, their components and ranks. -/
import Derived.Test.YtbcgjjkchmgeoaaW6
namespace Go.Am
open Go Go.Proofs
set_option linter.unusedVariables false
set_option linter.unusedSimpArgs false
variable {w0 : World}
attribute [local irreducible] AWP ACalls
attribute [local congr] acalls_congr

def edgeOk (n : Int) (e : Int × Int) : Bool := decide (0 ≤ e.1) && decide (0 ≤ e.2) && decide (e.1 < n) && decide (e.2 < n)
/-- A graph, of few vertices and edges. -/
def validG (n : Int) (es : List (Int × Int)) : Bool := decide (1 ≤ n) && decide (n ≤ 64) && decide (es.length ≤ 4096) && es.all (edgeOk n)

/-- Components' least vertices, and how many edges joined something. -/
def stepC (s : (Nat → Nat) × Nat) (e : Int × Int) : (Nat → Nat) × Nat :=
  let a := s.1 e.1.toNat
  let b := s.1 e.2.toNat
  (fun w => if s.1 w = max a b then min a b else s.1 w, if a = b then s.2 else s.2 + 1)
def compJ (es : List (Int × Int)) : (Nat → Nat) × Nat := es.foldl stepC (id, 0)

theorem compJ_take {es : List (Int × Int)} {k : Nat} (h : k < es.length) : compJ (es.take (k + 1)) = stepC (compJ (es.take k)) es[k] := by
  unfold compJ
  rw [List.take_succ_eq_append_getElem h, List.foldl_append]
  rfl
theorem compJ_le (es : List (Int × Int)) : (compJ es).2 ≤ es.length := by
  unfold compJ
  have : ∀ (es : List (Int × Int)) (s : (Nat → Nat) × Nat), (es.foldl stepC s).2 ≤ s.2 + es.length := by
    intro es
    induction es with
    | nil => intro s; simp
    | cons e es ih =>
      intro s
      have := ih (stepC s e)
      simp only [List.foldl_cons, List.length_cons]
      have h2 : (stepC s e).2 ≤ s.2 + 1 := by simp only [stepC]; split <;> omega
      omega
  simpa using this es (id, 0)

/-- The cells of pairs. -/
theorem pairs_get {es : List (Int × Int)} {k : Nat} (h : k < es.length) : (es.flatMap fun e => [I e.1, I e.2])[k * 2]? = some (I es[k].1) ∧ (es.flatMap fun e => [I e.1, I e.2])[k * 2 + 1]? = some (I es[k].2) ∧
    ((es.flatMap fun e => [I e.1, I e.2]).drop (k * 2)).take 2 = [I es[k].1, I es[k].2] := by
  induction es generalizing k with
  | nil => simp at h
  | cons e es ih =>
    cases k with
    | zero => simp
    | succ k =>
      have := ih (k := k) (by simpa using h)
      simp only [List.flatMap_cons, List.getElem_cons_succ, Nat.succ_mul]
      refine ⟨?_, ?_, ?_⟩
      · have := this.1; simpa using this
      · have := this.2.1; simpa [Nat.add_right_comm] using this
      · have := this.2.2; simpa using this
theorem pairs_len (es : List (Int × Int)) : (es.flatMap fun e => [I e.1, I e.2]).length = es.length * 2 := by
  induction es with
  | nil => rfl
  | cons e es ih => simp [ih, Nat.succ_mul]

theorem sum2 (es : List (Int × Int)) : (es.map fun _ => 2).sum = es.length * 2 := by
  induction es with
  | nil => rfl
  | cons e es ih => simp [ih, Nat.succ_mul]; omega

theorem graph_ret {n : Int} {es : List (Int × Int)} (he : okLen es) : Ret Try.prog w0 34 [I n, pairs es] (B (validG n es)) := by
  intro H
  refine w_enter Try.func34 rfl Try.ntmps34 (ts := [4]) rfl (by simp) (by kernel_rfl) ?_
  repeat' (first
    | (with_reducible refine awp_skip ?_)
    | (with_reducible refine then_any ?_)
    | (with_reducible refine then_ret ?_)
    | (with_reducible refine then_exit ?_)
    | (with_reducible refine inBlock_normal ?_)
    | (with_reducible refine inBlock_ret ?_)
    | (with_reducible refine inBlock_hit ?_)
    | (with_reducible refine inBlock_miss (by decide) ?_)
    | (with_reducible refine awp_ret ?_)
    | (with_reducible refine awp_exit ?_)
    | (with_reducible refine post_ret ?_)
    | (with_reducible refine post_normal ?_)
    | (with_reducible refine awp_block ?_)
    | (with_reducible refine v_reg [] (fun K hK => ?_))
    | (with_reducible refine v_reg1 [] (fun K hK => ?_))
    | (with_reducible refine v_draw mixed [] [] (by kernel_rfl) (fun K hK => ?_))
    | (with_reducible refine v_draw1 mixed [] [] (by kernel_rfl) (fun K hK => ?_))
    | (with_reducible refine ev_nil (hK _ _ ?_); clear hK K)
    | (with_reducible refine ed_nil (hK _ _ ?_); clear hK K)
    | ((first | with_reducible refine ev_cons (fun K' hK' => ?_) | with_reducible refine ed_cons (fun K' hK' => ?_) | (with_reducible refine ev_id ?_; refine ev_guard rfl (fun K' hK' => ?_)) | (with_reducible refine ed_id ?_; refine ed_guard rfl (fun K' hK' => ?_))); simp [pairs]; repeat' (first | (with_reducible refine hK' _ _ ?_; clear hK' K') | (with_reducible refine And.intro ?_ ?_) | (with_reducible intro hg) | (clear hK' K'; omega)))
    | (with_reducible refine w_cond (fun A B hA hB => ?_); simp [pairs]; repeat' (first | (with_reducible refine hA ?_; clear hA hB A B) | (with_reducible refine hB ?_; clear hA hB A B) | (with_reducible refine And.intro ?_ ?_) | (with_reducible intro hc)))
    | (with_reducible refine awp_seq ?_))
  refine awp_loop (fun env h => ∃ (k : Nat), k ≤ es.length ∧ env 5 = I k ∧ env 0 = I n ∧ env 1 = pairs es ∧ (es.take k).all (edgeOk n) = true ∧ h = H) (fun env _ => es.length - natA (env 5)) ?_ ?_
  · exact ⟨0, by omega, by simp, by simp, by simp [pairs], by simp, rfl⟩
  rintro env h ⟨k, hk, h5, h0, h1, ht, rfl⟩
  have hnat : natA (env 5) = k := by simp [h5]
  rw [hnat]; clear hnat
  by_cases hlt : k < es.length
  · have hp := pairs_get hlt
    have hf : (es.take (k + 1)).all (edgeOk n) = edgeOk n es[k] := by rw [List.take_succ_eq_append_getElem hlt, List.all_append, ht]; simp
    have hno : edgeOk n es[k] = false → validG n es = false := by
      intro h
      have : es.all (edgeOk n) = false := by rw [List.all_eq_false]; exact ⟨es[k], by simp, by simp [h]⟩
      simp [validG, this]
    repeat' (first
      | (with_reducible refine awp_skip ?_)
      | (with_reducible refine then_any ?_)
      | (with_reducible refine then_ret ?_)
      | (with_reducible refine then_exit ?_)
      | (with_reducible refine inBlock_normal ?_)
      | (with_reducible refine inBlock_ret ?_)
      | (with_reducible refine inBlock_hit ?_)
      | (with_reducible refine inBlock_miss (by decide) ?_)
      | (with_reducible refine awp_ret ?_)
      | (with_reducible refine awp_exit ?_)
      | (with_reducible refine post_ret ?_)
      | (with_reducible refine post_normal ?_)
      | (with_reducible refine awp_block ?_)
      | (with_reducible refine v_reg [] (fun K hK => ?_))
      | (with_reducible refine v_reg1 [] (fun K hK => ?_))
      | (with_reducible refine v_draw mixed [] [] (by kernel_rfl) (fun K hK => ?_))
      | (with_reducible refine v_draw1 mixed [] [] (by kernel_rfl) (fun K hK => ?_))
      | (with_reducible refine ev_nil (hK _ _ ?_); clear hK K)
      | (with_reducible refine ed_nil (hK _ _ ?_); clear hK K)
      | ((first | with_reducible refine ev_cons (fun K' hK' => ?_) | with_reducible refine ed_cons (fun K' hK' => ?_) | (with_reducible refine ev_id ?_; refine ev_guard rfl (fun K' hK' => ?_)) | (with_reducible refine ed_id ?_; refine ed_guard rfl (fun K' hK' => ?_))); simp [h5, h0, h1, pairs, hlt, hp.1, hp.2.1, pairs_len]; repeat' (first | (with_reducible refine hK' _ _ ?_; clear hK' K') | (with_reducible refine And.intro ?_ ?_) | (with_reducible intro hg) | (clear hK' K'; omega)))
      | (with_reducible refine w_cond (fun A B hA hB => ?_); simp [h5, h0, h1, pairs, hlt, hp.1, hp.2.1, pairs_len]; repeat' (first | (with_reducible refine hA ?_; clear hA hB A B) | (with_reducible refine hB ?_; clear hA hB A B) | (with_reducible refine And.intro ?_ ?_) | (with_reducible intro hc)))
      | (with_reducible refine awp_seq ?_))
    all_goals first
      | exact ⟨⟨k + 1, by omega, by simp, by simp [h0], by simp [h1], by rw [hf]; simp [edgeOk, *], rfl⟩, by simp; omega⟩
      | (have hb := hno (by simp [edgeOk]; omega); simp [hb])
  · have : k = es.length := by omega
    subst this
    rw [List.take_length] at ht
    repeat' (first
      | (with_reducible refine awp_skip ?_)
      | (with_reducible refine then_any ?_)
      | (with_reducible refine then_ret ?_)
      | (with_reducible refine then_exit ?_)
      | (with_reducible refine inBlock_normal ?_)
      | (with_reducible refine inBlock_ret ?_)
      | (with_reducible refine inBlock_hit ?_)
      | (with_reducible refine inBlock_miss (by decide) ?_)
      | (with_reducible refine awp_ret ?_)
      | (with_reducible refine awp_exit ?_)
      | (with_reducible refine post_ret ?_)
      | (with_reducible refine post_normal ?_)
      | (with_reducible refine awp_block ?_)
      | (with_reducible refine v_reg [] (fun K hK => ?_))
      | (with_reducible refine v_reg1 [] (fun K hK => ?_))
      | (with_reducible refine v_draw mixed [] [] (by kernel_rfl) (fun K hK => ?_))
      | (with_reducible refine v_draw1 mixed [] [] (by kernel_rfl) (fun K hK => ?_))
      | (with_reducible refine ev_nil (hK _ _ ?_); clear hK K)
      | (with_reducible refine ed_nil (hK _ _ ?_); clear hK K)
      | ((first | with_reducible refine ev_cons (fun K' hK' => ?_) | with_reducible refine ed_cons (fun K' hK' => ?_) | (with_reducible refine ev_id ?_; refine ev_guard rfl (fun K' hK' => ?_)) | (with_reducible refine ed_id ?_; refine ed_guard rfl (fun K' hK' => ?_))); simp [h5, h0, h1, pairs]; repeat' (first | (with_reducible refine hK' _ _ ?_; clear hK' K') | (with_reducible refine And.intro ?_ ?_) | (with_reducible intro hg) | (clear hK' K'; omega)))
      | (with_reducible refine w_cond (fun A B hA hB => ?_); simp [h5, h0, h1, pairs]; repeat' (first | (with_reducible refine hA ?_; clear hA hB A B) | (with_reducible refine hB ?_; clear hA hB A B) | (with_reducible refine And.intro ?_ ?_) | (with_reducible intro hc)))
      | (with_reducible refine awp_seq ?_))
    all_goals simp [validG, ht, *]
    all_goals omega

/-- The forest of a graph lies in two blocks of its own; what is no graph has none. -/
def ForestAt (n : Int) (es : List (Int × Int)) (H : Heap) (v : AV) (H' : Heap) : Prop :=
  (validG n es = false ∧ v = .sc (.pointer none) ∧ Sub H H') ∨
  (validG n es = true ∧ ∃ F R up, R ≠ F ∧ H F = none ∧ H R = none ∧ Par up n.toNat ∧ (∀ w, w < n.toNat → rootN up w = (compJ es).1 w) ∧ v = .ptr F 0 0 ∧ Sub (fst H F R up (compJ es).2) H')

theorem forest_ok {n : Int} {es : List (Int × Int)} {H : Heap} (he : okLen es) : ACalls Try.prog w0 67 [I n, pairs es] H (ForestAt n es H) := by
  refine w_enter Try.func67 rfl Try.ntmps67 (ts := [4]) rfl (by simp) (by kernel_rfl) ?_
  repeat' (first
    | (with_reducible refine awp_skip ?_)
    | (with_reducible refine then_any ?_)
    | (with_reducible refine then_ret ?_)
    | (with_reducible refine then_exit ?_)
    | (with_reducible refine inBlock_normal ?_)
    | (with_reducible refine inBlock_ret ?_)
    | (with_reducible refine inBlock_hit ?_)
    | (with_reducible refine inBlock_miss (by decide) ?_)
    | (with_reducible refine awp_ret ?_)
    | (with_reducible refine awp_exit ?_)
    | (with_reducible refine post_ret ?_)
    | (with_reducible refine post_normal ?_)
    | (with_reducible refine awp_block ?_)
    | (with_reducible refine v_reg [] (fun K hK => ?_))
    | (with_reducible refine v_reg1 [] (fun K hK => ?_))
    | (with_reducible refine v_draw mixed [] [] (by kernel_rfl) (fun K hK => ?_))
    | (with_reducible refine v_draw1 mixed [] [] (by kernel_rfl) (fun K hK => ?_))
    | (with_reducible refine ev_nil (hK _ _ ?_); clear hK K)
    | (with_reducible refine ed_nil (hK _ _ ?_); clear hK K)
    | ((first | with_reducible refine ev_cons (fun K' hK' => ?_) | with_reducible refine ed_cons (fun K' hK' => ?_) | (with_reducible refine ev_id ?_; refine ev_guard rfl (fun K' hK' => ?_)) | (with_reducible refine ed_id ?_; refine ed_guard rfl (fun K' hK' => ?_))); simp [pairs]; repeat' (first | (with_reducible refine hK' _ _ ?_; clear hK' K') | (with_reducible refine And.intro ?_ ?_) | (with_reducible intro hg) | (clear hK' K'; omega)))
    | (with_reducible refine w_cond (fun A B hA hB => ?_); simp [pairs]; repeat' (first | (with_reducible refine hA ?_; clear hA hB A B) | (with_reducible refine hB ?_; clear hA hB A B) | (with_reducible refine And.intro ?_ ?_) | (with_reducible intro hc)))
    | (with_reducible refine awp_seq ?_))
  rotate_left
  · rename_i h1n hn64 R hR F
    have hRF : R ≠ F := by rintro rfl; simp at hg
    have hF : H F = none := by rw [if_neg (fun e => hRF e.symm)] at hg; exact hg
    clear hg
    obtain ⟨m, rfl⟩ := Int.eq_ofNat_of_zero_le (show 0 ≤ n by omega)
    simp only [ForestAt, Int.toNat_natCast]
    refine awp_loop (fun env h => ∃ (k : Nat), k ≤ m ∧ env 29 = I k ∧ env 28 = I m ∧ env 5 = .ptr F 0 0 ∧ env 0 = I m ∧ env 1 = pairs es ∧ h = fst H F R (List.range k ++ List.replicate (m - k) 0) 0) (fun env _ => m - natA (env 29)) ?_ ?_
    · exact ⟨0, by omega, by simp, by simp, by simp, by simp, by simp [pairs], by simp [fst]⟩
    rintro env h ⟨k, hk, h29, h28, h5, h0, h1, rfl⟩
    have hnat : natA (env 29) = k := by simp [h29]
    rw [hnat]; clear hnat
    by_cases hlt : k < m
    · obtain ⟨q, hm⟩ : ∃ q, m - k = q + 1 := ⟨m - k - 1, by omega⟩
      have hm' : m - (k + 1) = q := by omega
      have hs := set_next (List.range k) q 0 k
      rw [List.length_range, ← List.range_succ] at hs
      rw [hm]
      have hfs := fst_set hRF H (List.range k ++ List.replicate (q + 1) 0) 0 k k
      rw [hs] at hfs
      have hlen : (List.range k ++ List.replicate (q + 1) 0).length = m := by simp; omega
      generalize List.range k ++ List.replicate (q + 1) 0 = up at *
      rw [hlen] at hfs
      repeat' (first
        | (with_reducible refine awp_skip ?_)
        | (with_reducible refine then_any ?_)
        | (with_reducible refine then_ret ?_)
        | (with_reducible refine then_exit ?_)
        | (with_reducible refine inBlock_normal ?_)
        | (with_reducible refine inBlock_ret ?_)
        | (with_reducible refine inBlock_hit ?_)
        | (with_reducible refine inBlock_miss (by decide) ?_)
        | (with_reducible refine awp_ret ?_)
        | (with_reducible refine awp_exit ?_)
        | (with_reducible refine post_ret ?_)
        | (with_reducible refine post_normal ?_)
        | (with_reducible refine awp_block ?_)
        | (with_reducible refine v_reg [] (fun K hK => ?_))
        | (with_reducible refine v_reg1 [] (fun K hK => ?_))
        | (with_reducible refine v_draw mixed [] [] (by kernel_rfl) (fun K hK => ?_))
        | (with_reducible refine v_draw1 mixed [] [] (by kernel_rfl) (fun K hK => ?_))
        | (with_reducible refine ev_nil (hK _ _ ?_); clear hK K)
        | (with_reducible refine ed_nil (hK _ _ ?_); clear hK K)
        | ((first | with_reducible refine ev_cons (fun K' hK' => ?_) | with_reducible refine ed_cons (fun K' hK' => ?_) | (with_reducible refine ev_id ?_; refine ev_guard rfl (fun K' hK' => ?_)) | (with_reducible refine ed_id ?_; refine ed_guard rfl (fun K' hK' => ?_))); simp [h29, h28, h5, h0, h1, fst_F, fst_R hRF, hfs, hlen, hlt]; repeat' (first | (with_reducible refine hK' _ _ ?_; clear hK' K') | (with_reducible refine And.intro ?_ ?_) | (with_reducible intro hg) | (clear hK' K'; omega)))
        | (with_reducible refine w_cond (fun A B hA hB => ?_); simp [h29, h28, h5, h0, h1, fst_F, fst_R hRF, hfs, hlen, hlt]; repeat' (first | (with_reducible refine hA ?_; clear hA hB A B) | (with_reducible refine hB ?_; clear hA hB A B) | (with_reducible refine And.intro ?_ ?_) | (with_reducible intro hc)))
        | (with_reducible refine awp_seq ?_))
      exact ⟨⟨k + 1, by omega, by simp, by simp [h28], by simp [h5], by simp [h0], by simp [h1], by rw [hm']⟩, by simp; omega⟩
    · have : k = m := by omega
      subst this
      rw [Nat.sub_self, List.replicate_zero, List.append_nil]
      repeat' (first
        | (with_reducible refine awp_skip ?_)
        | (with_reducible refine then_any ?_)
        | (with_reducible refine then_ret ?_)
        | (with_reducible refine then_exit ?_)
        | (with_reducible refine inBlock_normal ?_)
        | (with_reducible refine inBlock_ret ?_)
        | (with_reducible refine inBlock_hit ?_)
        | (with_reducible refine inBlock_miss (by decide) ?_)
        | (with_reducible refine awp_ret ?_)
        | (with_reducible refine awp_exit ?_)
        | (with_reducible refine post_ret ?_)
        | (with_reducible refine post_normal ?_)
        | (with_reducible refine awp_block ?_)
        | (with_reducible refine v_reg [] (fun K hK => ?_))
        | (with_reducible refine v_reg1 [] (fun K hK => ?_))
        | (with_reducible refine v_draw mixed [] [] (by kernel_rfl) (fun K hK => ?_))
        | (with_reducible refine v_draw1 mixed [] [] (by kernel_rfl) (fun K hK => ?_))
        | (with_reducible refine ev_nil (hK _ _ ?_); clear hK K)
        | (with_reducible refine ed_nil (hK _ _ ?_); clear hK K)
        | ((first | with_reducible refine ev_cons (fun K' hK' => ?_) | with_reducible refine ed_cons (fun K' hK' => ?_) | (with_reducible refine ev_id ?_; refine ev_guard rfl (fun K' hK' => ?_)) | (with_reducible refine ed_id ?_; refine ed_guard rfl (fun K' hK' => ?_))); simp [h29, h28, h5, h0, h1]; repeat' (first | (with_reducible refine hK' _ _ ?_; clear hK' K') | (with_reducible refine And.intro ?_ ?_) | (with_reducible intro hg) | (clear hK' K'; omega)))
        | (with_reducible refine w_cond (fun A B hA hB => ?_); simp [h29, h28, h5, h0, h1]; repeat' (first | (with_reducible refine hA ?_; clear hA hB A B) | (with_reducible refine hB ?_; clear hA hB A B) | (with_reducible refine And.intro ?_ ?_) | (with_reducible intro hc)))
        | (with_reducible refine awp_seq ?_))
      have hp0 : Par (List.range k) k := ⟨by simp, fun v h => by simp⟩
      have hr0 : ∀ w, w < k → rootN (List.range k) w = w := fun w hw => by rw [rootN_get (by simpa using hw)]; simp
      refine awp_loop_prep (fun env h => ∃ (i : Nat) (up : List Nat), i ≤ es.length ∧ (es.take i).all (edgeOk k) = true ∧ Par up k ∧ (∀ w, w < k → rootN up w = (compJ (es.take i)).1 w) ∧ env 42 = I i ∧ env 41 = I es.length ∧ env 40 = pairs es ∧ env 0 = I k ∧ env 5 = .ptr F 0 0 ∧
          h = fst H F R up (compJ (es.take i)).2)
        (fun env h => ∃ (i : Nat) (up : List Nat), i ≤ es.length ∧ (es.take i).all (edgeOk k) = true ∧ Par up k ∧ (∀ w, w < k → rootN up w = (compJ (es.take i)).1 w) ∧ env 42 = I i ∧ env 41 = I es.length ∧ env 40 = pairs es ∧ env 0 = I k ∧ env 5 = .ptr F 0 0 ∧
          Sub (fst H F R up (compJ (es.take i)).2) h) (fun env _ => es.length - natA (env 42)) ?_ ?_ ?_
      · exact ⟨0, List.range k, by omega, by simp, hp0, hr0, by simp, by simp [h1, pairs], by simp [h1, pairs], by simp [h0], by simp [h5], .refl _⟩
      clear h29 h28 h5 h0 h1
      · rintro env h ⟨i, up, a1, a2, a3, a4, a5, a6, a7, a8, a9, s⟩ Q' q
        exact AWP.sub s (q env _ ⟨i, up, a1, a2, a3, a4, a5, a6, a7, a8, a9, rfl⟩ rfl)
      rintro env h ⟨i, up, hi, ha, p, hr, h42, h41, h40, h0, h5, rfl⟩
      have hnat : natA (env 42) = i := by simp [h42]
      rw [hnat]; clear hnat
      have hjle := compJ_le (es.take i)
      rw [List.length_take] at hjle
      by_cases hil : i < es.length
      · have hp := pairs_get hil
        have hf : (es.take (i + 1)).all (edgeOk k) = edgeOk k es[i] := by rw [List.take_succ_eq_append_getElem hil, List.all_append, ha]; simp
        have hno : edgeOk k es[i] = false → validG k es = false := by
          intro h
          have : es.all (edgeOk k) = false := by rw [List.all_eq_false]; exact ⟨es[i], by simp, by simp [h]⟩
          simp [validG, this]
        repeat' (first
          | (with_reducible refine awp_skip ?_)
          | (with_reducible refine then_any ?_)
          | (with_reducible refine then_ret ?_)
          | (with_reducible refine then_exit ?_)
          | (with_reducible refine inBlock_normal ?_)
          | (with_reducible refine inBlock_ret ?_)
          | (with_reducible refine inBlock_hit ?_)
          | (with_reducible refine inBlock_miss (by decide) ?_)
          | (with_reducible refine awp_ret ?_)
          | (with_reducible refine awp_exit ?_)
          | (with_reducible refine post_ret ?_)
          | (with_reducible refine post_normal ?_)
          | (with_reducible refine awp_block ?_)
          | (with_reducible refine v_reg [] (fun K hK => ?_))
          | (with_reducible refine v_reg1 [] (fun K hK => ?_))
          | (with_reducible refine v_draw mixed [] [] (by kernel_rfl) (fun K hK => ?_))
          | (with_reducible refine v_draw1 mixed [] [] (by kernel_rfl) (fun K hK => ?_))
          | (with_reducible refine ev_nil (hK _ _ ?_); clear hK K)
          | (with_reducible refine ed_nil (hK _ _ ?_); clear hK K)
          | ((first | with_reducible refine ev_cons (fun K' hK' => ?_) | with_reducible refine ed_cons (fun K' hK' => ?_) | (with_reducible refine ev_id ?_; refine ev_guard rfl (fun K' hK' => ?_)) | (with_reducible refine ed_id ?_; refine ed_guard rfl (fun K' hK' => ?_))); simp [h42, h41, h40, h0, h5, pairs, hil, hp.1, hp.2.1, hp.2.2, pairs_len, sum2, fst_F, fst_R hRF]; repeat' (first | (with_reducible refine hK' _ _ ?_; clear hK' K') | ((with_reducible refine ACalls.sub (sub_new (by assumption)) ?_; refine join_okI p (by omega) (by omega) (by omega) hRF (fun x up' j' p' r' e' => ?_)); try simp [h42, h41, h40, h0, h5, pairs, hil, hp.1, hp.2.1, hp.2.2, pairs_len, sum2, fst_F, fst_R hRF]) | (with_reducible refine And.intro ?_ ?_) | (with_reducible intro hg) | (clear hK' K'; omega)))
          | (with_reducible refine w_cond (fun A B hA hB => ?_); simp [h42, h41, h40, h0, h5, pairs, hil, hp.1, hp.2.1, hp.2.2, pairs_len, sum2, fst_F, fst_R hRF]; repeat' (first | (with_reducible refine hA ?_; clear hA hB A B) | (with_reducible refine hB ?_; clear hA hB A B) | (with_reducible refine And.intro ?_ ?_) | (with_reducible intro hc)))
          | (with_reducible refine awp_seq ?_))
        · refine .inl ⟨hno (by simp [edgeOk]; omega), by simp, (sub_fst hF hR _ _).trans (sub_new ?_)⟩
          assumption
        · refine ⟨⟨i + 1, up', by omega, by rw [hf]; simp [edgeOk]; omega, p', ?_, by simp, by simp [h41], by simp [h40], by simp [h0], by simp [h5], ?_⟩, by simp; omega⟩
          · intro w hw
            rw [r' w hw, compJ_take hil]
            simp only [stepC]
            rw [hr w hw, hr _ (by omega), hr _ (by omega)]
          · rw [e', compJ_take hil]
            simp only [stepC]
            rw [hr _ (by omega), hr _ (by omega)]
            exact .refl _
        · refine .inl ⟨hno (by simp [edgeOk]; omega), by simp, (sub_fst hF hR _ _).trans (sub_new ?_)⟩
          assumption
      · have : i = es.length := by omega
        subst this
        rw [List.take_length] at *
        repeat' (first
          | (with_reducible refine awp_skip ?_)
          | (with_reducible refine then_any ?_)
          | (with_reducible refine then_ret ?_)
          | (with_reducible refine then_exit ?_)
          | (with_reducible refine inBlock_normal ?_)
          | (with_reducible refine inBlock_ret ?_)
          | (with_reducible refine inBlock_hit ?_)
          | (with_reducible refine inBlock_miss (by decide) ?_)
          | (with_reducible refine awp_ret ?_)
          | (with_reducible refine awp_exit ?_)
          | (with_reducible refine post_ret ?_)
          | (with_reducible refine post_normal ?_)
          | (with_reducible refine awp_block ?_)
          | (with_reducible refine v_reg [] (fun K hK => ?_))
          | (with_reducible refine v_reg1 [] (fun K hK => ?_))
          | (with_reducible refine v_draw mixed [] [] (by kernel_rfl) (fun K hK => ?_))
          | (with_reducible refine v_draw1 mixed [] [] (by kernel_rfl) (fun K hK => ?_))
          | (with_reducible refine ev_nil (hK _ _ ?_); clear hK K)
          | (with_reducible refine ed_nil (hK _ _ ?_); clear hK K)
          | ((first | with_reducible refine ev_cons (fun K' hK' => ?_) | with_reducible refine ed_cons (fun K' hK' => ?_) | (with_reducible refine ev_id ?_; refine ev_guard rfl (fun K' hK' => ?_)) | (with_reducible refine ed_id ?_; refine ed_guard rfl (fun K' hK' => ?_))); simp [h42, h41, h40, h0, h5]; repeat' (first | (with_reducible refine hK' _ _ ?_; clear hK' K') | (with_reducible refine And.intro ?_ ?_) | (with_reducible intro hg) | (clear hK' K'; omega)))
          | (with_reducible refine w_cond (fun A B hA hB => ?_); simp [h42, h41, h40, h0, h5]; repeat' (first | (with_reducible refine hA ?_; clear hA hB A B) | (with_reducible refine hB ?_; clear hA hB A B) | (with_reducible refine And.intro ?_ ?_) | (with_reducible intro hc)))
          | (with_reducible refine awp_seq ?_))
        exact .inr ⟨by simp [validG, ha]; omega, F, R, up, hRF, hF, hR, by simpa using p, by simpa using hr, by simp, .refl _⟩
  · exact .inl ⟨by simp [validG]; omega, by simp, .refl _⟩
  · exact .inl ⟨by simp [validG]; omega, by simp, .refl _⟩
  · exact .inl ⟨by simp [validG]; omega, by simp, .refl _⟩

theorem forest_use {n : Int} {es : List (Int × Int)} {H : Heap} {K : AV → Heap → Prop} (he : okLen es) (h0 : validG n es = false → K (.sc (.pointer none)) H)
    (h1 : validG n es = true → ∀ F R up, R ≠ F → H F = none → H R = none → Par up n.toNat → (∀ w, w < n.toNat → rootN up w = (compJ es).1 w) → K (.ptr F 0 0) (fst H F R up (compJ es).2)) :
    ACalls Try.prog w0 67 [I n, pairs es] H K := by
  refine (forest_ok he).drop ?_
  rintro v H' (⟨hv, rfl, s⟩ | ⟨hv, F, R, up, hRF, hF, hR, p, hr, rfl, s⟩)
  · exact ⟨H, s, h0 hv⟩
  · exact ⟨_, s, h1 hv F R up hRF hF hR p hr⟩

theorem rank_ret {n : Int} {es : List (Int × Int)} (he : okLen es) : Ret Try.prog w0 30 [I n, pairs es] (I (if validG n es then ((compJ es).2 : Int) else -1)) := by
  intro H
  refine w_enter Try.func30 rfl Try.ntmps30 (ts := [4]) rfl (by simp) (by kernel_rfl) ?_
  repeat' (first
    | (with_reducible refine awp_skip ?_)
    | (with_reducible refine then_any ?_)
    | (with_reducible refine then_ret ?_)
    | (with_reducible refine then_exit ?_)
    | (with_reducible refine inBlock_normal ?_)
    | (with_reducible refine inBlock_ret ?_)
    | (with_reducible refine inBlock_hit ?_)
    | (with_reducible refine inBlock_miss (by decide) ?_)
    | (with_reducible refine awp_ret ?_)
    | (with_reducible refine awp_exit ?_)
    | (with_reducible refine post_ret ?_)
    | (with_reducible refine post_normal ?_)
    | (with_reducible refine awp_block ?_)
    | (with_reducible refine v_reg [] (fun K hK => ?_))
    | (with_reducible refine v_reg1 [] (fun K hK => ?_))
    | (with_reducible refine v_draw mixed [] [] (by kernel_rfl) (fun K hK => ?_))
    | (with_reducible refine v_draw1 mixed [] [] (by kernel_rfl) (fun K hK => ?_))
    | (with_reducible refine ev_nil (hK _ _ ?_); clear hK K)
    | (with_reducible refine ed_nil (hK _ _ ?_); clear hK K)
    | ((first | with_reducible refine ev_cons (fun K' hK' => ?_) | with_reducible refine ed_cons (fun K' hK' => ?_) | (with_reducible refine ev_id ?_; refine ev_guard rfl (fun K' hK' => ?_)) | (with_reducible refine ed_id ?_; refine ed_guard rfl (fun K' hK' => ?_))); simp [pairs, fst_F]; repeat' (first | (with_reducible refine hK' _ _ ?_; clear hK' K') | ((with_reducible refine forest_use he (fun hv => ?_) (fun hv F R up hRF hF hR p hr => ?_)); try simp [pairs, fst_F]) | (with_reducible refine And.intro ?_ ?_) | (with_reducible intro hg) | (clear hK' K'; omega)))
    | (with_reducible refine w_cond (fun A B hA hB => ?_); simp [pairs, fst_F]; repeat' (first | (with_reducible refine hA ?_; clear hA hB A B) | (with_reducible refine hB ?_; clear hA hB A B) | (with_reducible refine And.intro ?_ ?_) | (with_reducible intro hc)))
    | (with_reducible refine awp_seq ?_))
  · simp [hv]
  · refine ⟨by simp [hv], sub_fst hF hR _ _⟩

theorem forestB_ret {n : Int} {es : List (Int × Int)} (he : okLen es) : Ret Try.prog w0 32 [I n, pairs es] (B (decide ((if validG n es then ((compJ es).2 : Int) else -1) = es.length))) := by
  intro H
  refine w_enter Try.func32 rfl Try.ntmps32 (ts := [4]) rfl (by simp) (by kernel_rfl) ?_
  repeat' (first
    | (with_reducible refine awp_skip ?_)
    | (with_reducible refine then_any ?_)
    | (with_reducible refine then_ret ?_)
    | (with_reducible refine then_exit ?_)
    | (with_reducible refine inBlock_normal ?_)
    | (with_reducible refine inBlock_ret ?_)
    | (with_reducible refine inBlock_hit ?_)
    | (with_reducible refine inBlock_miss (by decide) ?_)
    | (with_reducible refine awp_ret ?_)
    | (with_reducible refine awp_exit ?_)
    | (with_reducible refine post_ret ?_)
    | (with_reducible refine post_normal ?_)
    | (with_reducible refine awp_block ?_)
    | (with_reducible refine v_reg [] (fun K hK => ?_))
    | (with_reducible refine v_reg1 [] (fun K hK => ?_))
    | (with_reducible refine v_draw mixed [] [] (by kernel_rfl) (fun K hK => ?_))
    | (with_reducible refine v_draw1 mixed [] [] (by kernel_rfl) (fun K hK => ?_))
    | (with_reducible refine ev_nil (hK _ _ ?_); clear hK K)
    | (with_reducible refine ed_nil (hK _ _ ?_); clear hK K)
    | ((first | with_reducible refine ev_cons (fun K' hK' => ?_) | with_reducible refine ed_cons (fun K' hK' => ?_) | (with_reducible refine ev_id ?_; refine ev_guard rfl (fun K' hK' => ?_)) | (with_reducible refine ed_id ?_; refine ed_guard rfl (fun K' hK' => ?_))); simp [pairs]; repeat' (first | (with_reducible refine hK' _ _ ?_; clear hK' K') | (with_reducible refine Ret.use (rank_ret he) ?_; try simp [pairs]) | (with_reducible refine And.intro ?_ ?_) | (with_reducible intro hg) | (clear hK' K'; omega)))
    | (with_reducible refine w_cond (fun A B hA hB => ?_); simp [pairs]; repeat' (first | (with_reducible refine hA ?_; clear hA hB A B) | (with_reducible refine hB ?_; clear hA hB A B) | (with_reducible refine And.intro ?_ ?_) | (with_reducible intro hc)))
    | (with_reducible refine awp_seq ?_))
  simp

/-- The components' least vertices. -/
def compsL (n : Int) (es : List (Int × Int)) : List Int := if validG n es then (List.range n.toNat).map fun w => ((compJ es).1 w : Int) else []
def okE (n : Int) (es : List (Int × Int)) : Int := if validG n es then 0 else 1

theorem forest_no {n : Int} {es : List (Int × Int)} (he : okLen es) (hv : validG n es = false) : Ret Try.prog w0 67 [I n, pairs es] (.sc (.pointer none)) := fun H =>
  forest_use he (fun _ => ⟨rfl, .refl _⟩) (fun h => by rw [hv] at h; cases h)
theorem forest_yes {m : Nat} {es : List (Int × Int)} {H : Heap} {K : AV → Heap → Prop} (he : okLen es) (hv : validG m es = true)
    (h1 : ∀ F R up, R ≠ F → H F = none → H R = none → Par up m → (∀ w, w < m → rootN up w = (compJ es).1 w) → K (.ptr F 0 0) (fst H F R up (compJ es).2)) :
    ACalls Try.prog w0 67 [I m, pairs es] H K :=
  forest_use he (fun h => by rw [hv] at h; cases h) (fun _ F R up a b c d e => h1 F R up a b c (by simpa using d) (by simpa using e))
theorem valid_nat {n : Int} {es : List (Int × Int)} (h : validG n es = true) : ∃ m : Nat, n = m ∧ 1 ≤ m ∧ m ≤ 64 ∧ es.length ≤ 4096 := by
  simp only [validG, Bool.and_eq_true, decide_eq_true_eq] at h
  exact ⟨n.toNat, by omega, by omega, by omega, by omega⟩

theorem comps_ret {n : Int} {es : List (Int × Int)} (he : okLen es) : Ret Try.prog w0 24 [I n, pairs es] (.tup [ints (compsL n es), I (okE n es)]) := by
  intro H
  refine w_enter Try.func24 rfl Try.ntmps24 (ts := [4, 5]) rfl (by simp) (by kernel_rfl) ?_
  cases hv : validG n es with
  | false =>
    repeat' (first
      | (with_reducible refine awp_skip ?_)
      | (with_reducible refine then_any ?_)
      | (with_reducible refine then_ret ?_)
      | (with_reducible refine then_exit ?_)
      | (with_reducible refine inBlock_normal ?_)
      | (with_reducible refine inBlock_ret ?_)
      | (with_reducible refine inBlock_hit ?_)
      | (with_reducible refine inBlock_miss (by decide) ?_)
      | (with_reducible refine awp_ret ?_)
      | (with_reducible refine awp_exit ?_)
      | (with_reducible refine post_ret ?_)
      | (with_reducible refine post_normal ?_)
      | (with_reducible refine awp_block ?_)
      | (with_reducible refine v_reg [] (fun K hK => ?_))
      | (with_reducible refine v_reg1 [] (fun K hK => ?_))
      | (with_reducible refine v_draw mixed [] [] (by kernel_rfl) (fun K hK => ?_))
      | (with_reducible refine v_draw1 mixed [] [] (by kernel_rfl) (fun K hK => ?_))
      | (with_reducible refine ev_nil (hK _ _ ?_); clear hK K)
      | (with_reducible refine ed_nil (hK _ _ ?_); clear hK K)
      | ((first | with_reducible refine ev_cons (fun K' hK' => ?_) | with_reducible refine ed_cons (fun K' hK' => ?_) | (with_reducible refine ev_id ?_; refine ev_guard rfl (fun K' hK' => ?_)) | (with_reducible refine ed_id ?_; refine ed_guard rfl (fun K' hK' => ?_))); simp [pairs]; repeat' (first | (with_reducible refine hK' _ _ ?_; clear hK' K') | (with_reducible refine Ret.use (forest_no he hv) ?_; try simp [pairs]) | (with_reducible refine And.intro ?_ ?_) | (with_reducible intro hg) | (clear hK' K'; omega)))
      | (with_reducible refine w_cond (fun A B hA hB => ?_); simp [pairs]; repeat' (first | (with_reducible refine hA ?_; clear hA hB A B) | (with_reducible refine hB ?_; clear hA hB A B) | (with_reducible refine And.intro ?_ ?_) | (with_reducible intro hc)))
      | (with_reducible refine awp_seq ?_))
    simp [compsL, okE, hv]
  | true =>
    obtain ⟨m, rfl, hm1, hm2, hm3⟩ := valid_nat hv
    repeat' (first
      | (with_reducible refine awp_skip ?_)
      | (with_reducible refine then_any ?_)
      | (with_reducible refine then_ret ?_)
      | (with_reducible refine then_exit ?_)
      | (with_reducible refine inBlock_normal ?_)
      | (with_reducible refine inBlock_ret ?_)
      | (with_reducible refine inBlock_hit ?_)
      | (with_reducible refine inBlock_miss (by decide) ?_)
      | (with_reducible refine awp_ret ?_)
      | (with_reducible refine awp_exit ?_)
      | (with_reducible refine post_ret ?_)
      | (with_reducible refine post_normal ?_)
      | (with_reducible refine awp_block ?_)
      | (with_reducible refine v_reg [] (fun K hK => ?_))
      | (with_reducible refine v_reg1 [] (fun K hK => ?_))
      | (with_reducible refine v_draw mixed [] [] (by kernel_rfl) (fun K hK => ?_))
      | (with_reducible refine v_draw1 mixed [] [] (by kernel_rfl) (fun K hK => ?_))
      | (with_reducible refine ev_nil (hK _ _ ?_); clear hK K)
      | (with_reducible refine ed_nil (hK _ _ ?_); clear hK K)
      | ((first | with_reducible refine ev_cons (fun K' hK' => ?_) | with_reducible refine ed_cons (fun K' hK' => ?_) | (with_reducible refine ev_id ?_; refine ev_guard rfl (fun K' hK' => ?_)) | (with_reducible refine ed_id ?_; refine ed_guard rfl (fun K' hK' => ?_))); simp [pairs]; repeat' (first | (with_reducible refine hK' _ _ ?_; clear hK' K') | ((with_reducible refine forest_yes he hv (fun F R up hRF hF hR p hr => ?_)); try simp [pairs]) | (with_reducible refine And.intro ?_ ?_) | (with_reducible intro hg) | (clear hK' K'; omega)))
      | (with_reducible refine w_cond (fun A B hA hB => ?_); simp [pairs]; repeat' (first | (with_reducible refine hA ?_; clear hA hB A B) | (with_reducible refine hB ?_; clear hA hB A B) | (with_reducible refine And.intro ?_ ?_) | (with_reducible intro hc)))
      | (with_reducible refine awp_seq ?_))
    rename_i r
    obtain ⟨hrF, hrR, hr0⟩ := fst_none hg
    clear hg
    refine awp_loop (fun env h => ∃ (k : Nat) (up : List Nat), k ≤ m ∧ Par up m ∧ (∀ w, w < m → rootN up w = (compJ es).1 w) ∧ env 18 = I k ∧ env 17 = I m ∧ env 6 = .ptr F 0 0 ∧ env 7 = .ref r 0 m m ∧
       h = fst (upd H r (some (.arr 1 3 (((List.range k).map (compJ es).1 ++ List.replicate (m - k) 0).map fun x : Nat => I (x : Int)) m))) F R up (compJ es).2) (fun env _ => m - natA (env 18)) ?_ ?_
    · exact ⟨0, up, by omega, p, hr, by simp, by simp, by simp, by simp, by simp [fst_upd hrF hrR]⟩
    clear hr p
    rintro env h ⟨k, up, hk, p, hr, h18, h17, h6, h7, rfl⟩
    have hnat : natA (env 18) = k := by simp [h18]
    rw [hnat]; clear hnat
    by_cases hlt : k < m
    · obtain ⟨q, hm⟩ : ∃ q, m - k = q + 1 := ⟨m - k - 1, by omega⟩
      have hm' : m - (k + 1) = q := by omega
      have hs := set_next ((List.range k).map (compJ es).1) q 0 ((compJ es).1 k)
      rw [List.length_map, List.length_range] at hs
      have hs2 : (List.range k).map (compJ es).1 ++ [(compJ es).1 k] = (List.range (k + 1)).map (compJ es).1 := by rw [List.range_succ, List.map_append]; rfl
      rw [hs2] at hs
      rw [hm]
      have hlen : ((List.range k).map (compJ es).1 ++ List.replicate (q + 1) 0).length = m := by simp; omega
      generalize (List.range k).map (compJ es).1 ++ List.replicate (q + 1) 0 = out at *
      have hr2 := hr k hlt
      repeat' (first
        | (with_reducible refine awp_skip ?_)
        | (with_reducible refine then_any ?_)
        | (with_reducible refine then_ret ?_)
        | (with_reducible refine then_exit ?_)
        | (with_reducible refine inBlock_normal ?_)
        | (with_reducible refine inBlock_ret ?_)
        | (with_reducible refine inBlock_hit ?_)
        | (with_reducible refine inBlock_miss (by decide) ?_)
        | (with_reducible refine awp_ret ?_)
        | (with_reducible refine awp_exit ?_)
        | (with_reducible refine post_ret ?_)
        | (with_reducible refine post_normal ?_)
        | (with_reducible refine awp_block ?_)
        | (with_reducible refine v_reg [] (fun K hK => ?_))
        | (with_reducible refine v_reg1 [] (fun K hK => ?_))
        | (with_reducible refine v_draw mixed [] [] (by kernel_rfl) (fun K hK => ?_))
        | (with_reducible refine v_draw1 mixed [] [] (by kernel_rfl) (fun K hK => ?_))
        | (with_reducible refine ev_nil (hK _ _ ?_); clear hK K)
        | (with_reducible refine ed_nil (hK _ _ ?_); clear hK K)
        | ((first | with_reducible refine ev_cons (fun K' hK' => ?_) | with_reducible refine ed_cons (fun K' hK' => ?_) | (with_reducible refine ev_id ?_; refine ev_guard rfl (fun K' hK' => ?_)) | (with_reducible refine ed_id ?_; refine ed_guard rfl (fun K' hK' => ?_))); simp [h18, h17, h6, h7, hlt, fst_at hrF hrR, fst_upd hrF hrR]; repeat' (first | (with_reducible refine hK' _ _ ?_; clear hK' K') | ((with_reducible refine root_ok p hlt hRF (fun up2 p2 r2 => ?_); simp only [hr2]); try simp [h18, h17, h6, h7, hlt, fst_at hrF hrR, fst_upd hrF hrR]) | (with_reducible refine And.intro ?_ ?_) | (with_reducible intro hg) | (clear hK' K'; omega)))
        | (with_reducible refine w_cond (fun A B hA hB => ?_); simp [h18, h17, h6, h7, hlt, fst_at hrF hrR, fst_upd hrF hrR]; repeat' (first | (with_reducible refine hA ?_; clear hA hB A B) | (with_reducible refine hB ?_; clear hA hB A B) | (with_reducible refine And.intro ?_ ?_) | (with_reducible intro hc)))
        | (with_reducible refine awp_seq ?_))
      exact ⟨⟨k + 1, up2, by omega, p2, fun w hw => by rw [r2 w hw, hr w hw], by simp, by simp [h17], by simp [h6], by simp [h7], by rw [hm', ← hs, List.map_set]⟩, by simp; omega⟩
    · have : k = m := by omega
      subst this
      rw [Nat.sub_self, List.replicate_zero, List.append_nil]
      refine awp_freeze 7 h7 (by rw [fst_at hrF hrR, upd_same]) ?_
      repeat' (first
        | (with_reducible refine awp_skip ?_)
        | (with_reducible refine then_any ?_)
        | (with_reducible refine then_ret ?_)
        | (with_reducible refine then_exit ?_)
        | (with_reducible refine inBlock_normal ?_)
        | (with_reducible refine inBlock_ret ?_)
        | (with_reducible refine inBlock_hit ?_)
        | (with_reducible refine inBlock_miss (by decide) ?_)
        | (with_reducible refine awp_ret ?_)
        | (with_reducible refine awp_exit ?_)
        | (with_reducible refine post_ret ?_)
        | (with_reducible refine post_normal ?_)
        | (with_reducible refine awp_block ?_)
        | (with_reducible refine v_reg [] (fun K hK => ?_))
        | (with_reducible refine v_reg1 [] (fun K hK => ?_))
        | (with_reducible refine v_draw mixed [] [] (by kernel_rfl) (fun K hK => ?_))
        | (with_reducible refine v_draw1 mixed [] [] (by kernel_rfl) (fun K hK => ?_))
        | (with_reducible refine ev_nil (hK _ _ ?_); clear hK K)
        | (with_reducible refine ed_nil (hK _ _ ?_); clear hK K)
        | ((first | with_reducible refine ev_cons (fun K' hK' => ?_) | with_reducible refine ed_cons (fun K' hK' => ?_) | (with_reducible refine ev_id ?_; refine ev_guard rfl (fun K' hK' => ?_)) | (with_reducible refine ed_id ?_; refine ed_guard rfl (fun K' hK' => ?_))); simp [h18, h17, h6, h7, fst_upd hrF hrR]; repeat' (first | (with_reducible refine hK' _ _ ?_; clear hK' K') | (with_reducible refine And.intro ?_ ?_) | (with_reducible intro hg) | (clear hK' K'; omega)))
        | (with_reducible refine w_cond (fun A B hA hB => ?_); simp [h18, h17, h6, h7, fst_upd hrF hrR]; repeat' (first | (with_reducible refine hA ?_; clear hA hB A B) | (with_reducible refine hB ?_; clear hA hB A B) | (with_reducible refine And.intro ?_ ?_) | (with_reducible intro hc)))
        | (with_reducible refine awp_seq ?_))
      refine ⟨by simp [compsL, okE, hv], ?_⟩
      rw [upd_none_self hr0]
      exact sub_fst hF hR _ _

end Go.Am
