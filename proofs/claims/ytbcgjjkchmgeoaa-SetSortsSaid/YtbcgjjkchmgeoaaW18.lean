/- Contracts: the reference's Path; turned; Path. -/
import Derived.Test.YtbcgjjkchmgeoaaW17
namespace Go.Am
open Go Go.Proofs
set_option linter.unusedVariables false
set_option linter.unusedSimpArgs false
variable {w0 : World}
attribute [local irreducible] AWP ACalls
attribute [local congr] acalls_congr

theorem least_ret {adj : List (List Int)} {l to : List Int} (hG : Gr adj) (hl : Pts adj.length l) (ht : Pts adj.length to) : Ret Try.prog w0 76 [rows adj, ints l, ints to] (I (leastL (distL (turnL adj) to) l)) := by
  intro H
  have hlen := hG.len
  have hll := hl.length
  have hst : ∀ v : Int, (0 ≤ v ∧ v < adj.length) → Ret Try.prog w0 93 [rows adj, I v, ints to] (I (distL (turnL adj) to v)) := fun v hv => by
    have := steps_ret (w0 := w0) hG hv ht
    rwa [steps_eq hG ht hv] at this
  generalize distL (turnL adj) to = d at *
  have hmem : ∀ k, k ≤ l.length → leastL d (l.take k) < 0 ∨ leastL d (l.take k) ∈ l := by
    intro k
    induction k with
    | zero => intro _; exact .inl (by simp [leastL])
    | succ k ih =>
      intro hk
      rw [leastL_take (by omega)]
      split
      · exact .inr (List.getElem_mem _)
      · exact ih (by omega)
  refine w_enter Try.func76 rfl Try.ntmps76 (ts := [6]) rfl (by simp) (by kernel_rfl) ?_
  repeat' (first
    | (with_reducible refine awp_skip ?_)
    | (with_reducible refine then_any ?_)
    | (with_reducible refine then_ret ?_)
    | (with_reducible refine then_exit ?_)
    | (with_reducible refine inBlock_normal ?_)
    | (with_reducible refine inBlock_ret ?_)
    | (with_reducible refine inBlock_hit ?_)
    | (with_reducible refine inBlock_miss (by decide) ?_)
    | (with_reducible refine awp_ret ?_)
    | (with_reducible refine awp_exit ?_)
    | (with_reducible refine post_ret ?_)
    | (with_reducible refine post_normal ?_)
    | (with_reducible refine awp_block ?_)
    | (with_reducible refine v_reg [] (fun K hK => ?_))
    | (with_reducible refine v_reg1 [] (fun K hK => ?_))
    | (with_reducible refine v_draw mixed [] [] (by kernel_rfl) (fun K hK => ?_))
    | (with_reducible refine v_draw1 mixed [] [] (by kernel_rfl) (fun K hK => ?_))
    | (with_reducible refine ev_nil (hK _ _ ?_); clear hK K)
    | (with_reducible refine ed_nil (hK _ _ ?_); clear hK K)
    | ((first | with_reducible refine ev_cons (fun K' hK' => ?_) | with_reducible refine ed_cons (fun K' hK' => ?_) | (with_reducible refine ev_id ?_; refine ev_guard rfl (fun K' hK' => ?_)) | (with_reducible refine ed_id ?_; refine ed_guard rfl (fun K' hK' => ?_))); simp [rows, ints]; repeat' (first | (with_reducible refine hK' _ _ ?_; clear hK' K') | (with_reducible refine And.intro ?_ ?_) | (with_reducible intro hg) | (clear hK' K'; omega)))
    | (with_reducible refine w_cond (fun A B hA hB => ?_); simp [rows, ints]; repeat' (first | (with_reducible refine hA ?_; clear hA hB A B) | (with_reducible refine hB ?_; clear hA hB A B) | (with_reducible refine And.intro ?_ ?_) | (with_reducible intro hc)))
    | (with_reducible refine awp_seq ?_))
  refine awp_loop (fun env h => ∃ k : Nat, k ≤ l.length ∧ env 8 = I k ∧ env 7 = I (leastL d (l.take k)) ∧ env 0 = rows adj ∧ env 1 = ints l ∧ env 2 = ints to ∧ h = H) (fun env _ => l.length - natA (env 8)) ?_ ?_
  · exact ⟨0, by omega, by simp, by simp [leastL], by simp [rows], by simp [ints], by simp [ints], rfl⟩
  rintro env h ⟨k, hk, h8, h7, h0, h1, h2, rfl⟩
  have hnat : natA (env 8) = k := by simp [h8]
  rw [hnat]; clear hnat
  by_cases hlt : k < l.length
  · have hx := hl.lt l[k] (List.getElem_mem _)
    have hs1 := hst l[k] hx
    have hs2 := hst (leastL d (l.take k))
    have htk := leastL_take (d := d) hlt
    have hmk := hmem k hk
    generalize leastL d (l.take k) = best at *
    by_cases hd : 0 ≤ d l[k]
    · by_cases hb : best < 0
      · rw [if_pos ⟨hd, .inl hb⟩] at htk
        repeat' (first
          | (with_reducible refine awp_skip ?_)
          | (with_reducible refine then_any ?_)
          | (with_reducible refine then_ret ?_)
          | (with_reducible refine then_exit ?_)
          | (with_reducible refine inBlock_normal ?_)
          | (with_reducible refine inBlock_ret ?_)
          | (with_reducible refine inBlock_hit ?_)
          | (with_reducible refine inBlock_miss (by decide) ?_)
          | (with_reducible refine awp_ret ?_)
          | (with_reducible refine awp_exit ?_)
          | (with_reducible refine post_ret ?_)
          | (with_reducible refine post_normal ?_)
          | (with_reducible refine awp_block ?_)
          | (with_reducible refine v_reg [] (fun K hK => ?_))
          | (with_reducible refine v_reg1 [] (fun K hK => ?_))
          | (with_reducible refine v_draw mixed [] [] (by kernel_rfl) (fun K hK => ?_))
          | (with_reducible refine v_draw1 mixed [] [] (by kernel_rfl) (fun K hK => ?_))
          | (with_reducible refine ev_nil (hK _ _ ?_); clear hK K)
          | (with_reducible refine ed_nil (hK _ _ ?_); clear hK K)
          | ((first | with_reducible refine ev_cons (fun K' hK' => ?_) | with_reducible refine ed_cons (fun K' hK' => ?_) | (with_reducible refine ev_id ?_; refine ev_guard rfl (fun K' hK' => ?_)) | (with_reducible refine ed_id ?_; refine ed_guard rfl (fun K' hK' => ?_))); simp [h8, h7, h0, h1, h2, rows, ints, hlt, hd, hb]; repeat' (first | (with_reducible refine hK' _ _ ?_; clear hK' K') | (with_reducible refine Ret.use hs1 ?_; try simp [h8, h7, h0, h1, h2, rows, ints, hlt, hd, hb]) | (with_reducible refine And.intro ?_ ?_) | (with_reducible intro hg) | (clear hK' K'; omega)))
          | (with_reducible refine w_cond (fun A B hA hB => ?_); simp [h8, h7, h0, h1, h2, rows, ints, hlt, hd, hb]; repeat' (first | (with_reducible refine hA ?_; clear hA hB A B) | (with_reducible refine hB ?_; clear hA hB A B) | (with_reducible refine And.intro ?_ ?_) | (with_reducible intro hc)))
          | (with_reducible refine awp_seq ?_))
        exact ⟨⟨k + 1, by omega, by simp, by rw [htk]; simp, by simp [h0], by simp [h1], by simp [h2], rfl⟩, by simp; omega⟩
      · have hbl := hl.lt best (hmk.resolve_left hb)
        have hs2 := hs2 hbl
        by_cases hc : d l[k] < d best
        · rw [if_pos ⟨hd, .inr hc⟩] at htk
          repeat' (first
            | (with_reducible refine awp_skip ?_)
            | (with_reducible refine then_any ?_)
            | (with_reducible refine then_ret ?_)
            | (with_reducible refine then_exit ?_)
            | (with_reducible refine inBlock_normal ?_)
            | (with_reducible refine inBlock_ret ?_)
            | (with_reducible refine inBlock_hit ?_)
            | (with_reducible refine inBlock_miss (by decide) ?_)
            | (with_reducible refine awp_ret ?_)
            | (with_reducible refine awp_exit ?_)
            | (with_reducible refine post_ret ?_)
            | (with_reducible refine post_normal ?_)
            | (with_reducible refine awp_block ?_)
            | (with_reducible refine v_reg [] (fun K hK => ?_))
            | (with_reducible refine v_reg1 [] (fun K hK => ?_))
            | (with_reducible refine v_draw mixed [] [] (by kernel_rfl) (fun K hK => ?_))
            | (with_reducible refine v_draw1 mixed [] [] (by kernel_rfl) (fun K hK => ?_))
            | (with_reducible refine ev_nil (hK _ _ ?_); clear hK K)
            | (with_reducible refine ed_nil (hK _ _ ?_); clear hK K)
            | ((first | with_reducible refine ev_cons (fun K' hK' => ?_) | with_reducible refine ed_cons (fun K' hK' => ?_) | (with_reducible refine ev_id ?_; refine ev_guard rfl (fun K' hK' => ?_)) | (with_reducible refine ed_id ?_; refine ed_guard rfl (fun K' hK' => ?_))); simp [h8, h7, h0, h1, h2, rows, ints, hlt, hd, hb, hc]; repeat' (first | (with_reducible refine hK' _ _ ?_; clear hK' K') | (with_reducible refine Ret.use hs1 ?_; try simp [h8, h7, h0, h1, h2, rows, ints, hlt, hd, hb, hc]) | (with_reducible refine Ret.use hs2 ?_; try simp [h8, h7, h0, h1, h2, rows, ints, hlt, hd, hb, hc]) | (with_reducible refine And.intro ?_ ?_) | (with_reducible intro hg) | (clear hK' K'; omega)))
            | (with_reducible refine w_cond (fun A B hA hB => ?_); simp [h8, h7, h0, h1, h2, rows, ints, hlt, hd, hb, hc]; repeat' (first | (with_reducible refine hA ?_; clear hA hB A B) | (with_reducible refine hB ?_; clear hA hB A B) | (with_reducible refine And.intro ?_ ?_) | (with_reducible intro hc)))
            | (with_reducible refine awp_seq ?_))
          exact ⟨⟨k + 1, by omega, by simp, by rw [htk]; simp, by simp [h0], by simp [h1], by simp [h2], rfl⟩, by simp; omega⟩
        · rw [if_neg (by rintro ⟨_, h | h⟩; (· exact hb h); (· exact hc h))] at htk
          repeat' (first
            | (with_reducible refine awp_skip ?_)
            | (with_reducible refine then_any ?_)
            | (with_reducible refine then_ret ?_)
            | (with_reducible refine then_exit ?_)
            | (with_reducible refine inBlock_normal ?_)
            | (with_reducible refine inBlock_ret ?_)
            | (with_reducible refine inBlock_hit ?_)
            | (with_reducible refine inBlock_miss (by decide) ?_)
            | (with_reducible refine awp_ret ?_)
            | (with_reducible refine awp_exit ?_)
            | (with_reducible refine post_ret ?_)
            | (with_reducible refine post_normal ?_)
            | (with_reducible refine awp_block ?_)
            | (with_reducible refine v_reg [] (fun K hK => ?_))
            | (with_reducible refine v_reg1 [] (fun K hK => ?_))
            | (with_reducible refine v_draw mixed [] [] (by kernel_rfl) (fun K hK => ?_))
            | (with_reducible refine v_draw1 mixed [] [] (by kernel_rfl) (fun K hK => ?_))
            | (with_reducible refine ev_nil (hK _ _ ?_); clear hK K)
            | (with_reducible refine ed_nil (hK _ _ ?_); clear hK K)
            | ((first | with_reducible refine ev_cons (fun K' hK' => ?_) | with_reducible refine ed_cons (fun K' hK' => ?_) | (with_reducible refine ev_id ?_; refine ev_guard rfl (fun K' hK' => ?_)) | (with_reducible refine ed_id ?_; refine ed_guard rfl (fun K' hK' => ?_))); simp [h8, h7, h0, h1, h2, rows, ints, hlt, hd, hb, hc]; repeat' (first | (with_reducible refine hK' _ _ ?_; clear hK' K') | (with_reducible refine Ret.use hs1 ?_; try simp [h8, h7, h0, h1, h2, rows, ints, hlt, hd, hb, hc]) | (with_reducible refine Ret.use hs2 ?_; try simp [h8, h7, h0, h1, h2, rows, ints, hlt, hd, hb, hc]) | (with_reducible refine And.intro ?_ ?_) | (with_reducible intro hg) | (clear hK' K'; omega)))
            | (with_reducible refine w_cond (fun A B hA hB => ?_); simp [h8, h7, h0, h1, h2, rows, ints, hlt, hd, hb, hc]; repeat' (first | (with_reducible refine hA ?_; clear hA hB A B) | (with_reducible refine hB ?_; clear hA hB A B) | (with_reducible refine And.intro ?_ ?_) | (with_reducible intro hc)))
            | (with_reducible refine awp_seq ?_))
          exact ⟨⟨k + 1, by omega, by simp, by rw [htk]; simp [h7], by simp [h0], by simp [h1], by simp [h2], rfl⟩, by simp; omega⟩
    · rw [if_neg (fun h => hd h.1)] at htk
      repeat' (first
        | (with_reducible refine awp_skip ?_)
        | (with_reducible refine then_any ?_)
        | (with_reducible refine then_ret ?_)
        | (with_reducible refine then_exit ?_)
        | (with_reducible refine inBlock_normal ?_)
        | (with_reducible refine inBlock_ret ?_)
        | (with_reducible refine inBlock_hit ?_)
        | (with_reducible refine inBlock_miss (by decide) ?_)
        | (with_reducible refine awp_ret ?_)
        | (with_reducible refine awp_exit ?_)
        | (with_reducible refine post_ret ?_)
        | (with_reducible refine post_normal ?_)
        | (with_reducible refine awp_block ?_)
        | (with_reducible refine v_reg [] (fun K hK => ?_))
        | (with_reducible refine v_reg1 [] (fun K hK => ?_))
        | (with_reducible refine v_draw mixed [] [] (by kernel_rfl) (fun K hK => ?_))
        | (with_reducible refine v_draw1 mixed [] [] (by kernel_rfl) (fun K hK => ?_))
        | (with_reducible refine ev_nil (hK _ _ ?_); clear hK K)
        | (with_reducible refine ed_nil (hK _ _ ?_); clear hK K)
        | ((first | with_reducible refine ev_cons (fun K' hK' => ?_) | with_reducible refine ed_cons (fun K' hK' => ?_) | (with_reducible refine ev_id ?_; refine ev_guard rfl (fun K' hK' => ?_)) | (with_reducible refine ed_id ?_; refine ed_guard rfl (fun K' hK' => ?_))); simp [h8, h7, h0, h1, h2, rows, ints, hlt, hd]; repeat' (first | (with_reducible refine hK' _ _ ?_; clear hK' K') | (with_reducible refine Ret.use hs1 ?_; try simp [h8, h7, h0, h1, h2, rows, ints, hlt, hd]) | (with_reducible refine And.intro ?_ ?_) | (with_reducible intro hg) | (clear hK' K'; omega)))
        | (with_reducible refine w_cond (fun A B hA hB => ?_); simp [h8, h7, h0, h1, h2, rows, ints, hlt, hd]; repeat' (first | (with_reducible refine hA ?_; clear hA hB A B) | (with_reducible refine hB ?_; clear hA hB A B) | (with_reducible refine And.intro ?_ ?_) | (with_reducible intro hc)))
        | (with_reducible refine awp_seq ?_))
      exact ⟨⟨k + 1, by omega, by simp, by rw [htk]; simp [h7], by simp [h0], by simp [h1], by simp [h2], rfl⟩, by simp; omega⟩
  · have : k = l.length := by omega
    subst this
    rw [List.take_length] at h7
    repeat' (first
      | (with_reducible refine awp_skip ?_)
      | (with_reducible refine then_any ?_)
      | (with_reducible refine then_ret ?_)
      | (with_reducible refine then_exit ?_)
      | (with_reducible refine inBlock_normal ?_)
      | (with_reducible refine inBlock_ret ?_)
      | (with_reducible refine inBlock_hit ?_)
      | (with_reducible refine inBlock_miss (by decide) ?_)
      | (with_reducible refine awp_ret ?_)
      | (with_reducible refine awp_exit ?_)
      | (with_reducible refine post_ret ?_)
      | (with_reducible refine post_normal ?_)
      | (with_reducible refine awp_block ?_)
      | (with_reducible refine v_reg [] (fun K hK => ?_))
      | (with_reducible refine v_reg1 [] (fun K hK => ?_))
      | (with_reducible refine v_draw mixed [] [] (by kernel_rfl) (fun K hK => ?_))
      | (with_reducible refine v_draw1 mixed [] [] (by kernel_rfl) (fun K hK => ?_))
      | (with_reducible refine ev_nil (hK _ _ ?_); clear hK K)
      | (with_reducible refine ed_nil (hK _ _ ?_); clear hK K)
      | ((first | with_reducible refine ev_cons (fun K' hK' => ?_) | with_reducible refine ed_cons (fun K' hK' => ?_) | (with_reducible refine ev_id ?_; refine ev_guard rfl (fun K' hK' => ?_)) | (with_reducible refine ed_id ?_; refine ed_guard rfl (fun K' hK' => ?_))); simp [h8, h7, h0, h1, h2, rows, ints]; repeat' (first | (with_reducible refine hK' _ _ ?_; clear hK' K') | (with_reducible refine And.intro ?_ ?_) | (with_reducible intro hg) | (clear hK' K'; omega)))
      | (with_reducible refine w_cond (fun A B hA hB => ?_); simp [h8, h7, h0, h1, h2, rows, ints]; repeat' (first | (with_reducible refine hA ?_; clear hA hB A B) | (with_reducible refine hB ?_; clear hA hB A B) | (with_reducible refine And.intro ?_ ?_) | (with_reducible intro hc)))
      | (with_reducible refine awp_seq ?_))
    simp

/-- The answer of Path, of whatever lists. -/
def pathA (adj : List (List Int)) (fr to : List Int) : List Int × Bool := if mayG adj && (ptsB fr adj.length && ptsB to adj.length) then pathL adj fr to else ([], false)

theorem way_cons (adj : List (List Int)) (d : Int → Int) (k : Nat) (v : Int) : wayL adj d k v = v :: (wayL adj d k v).drop 1 := by
  cases k <;> simp [wayL]
theorem way_length (adj : List (List Int)) (d : Int → Int) (k : Nat) (v : Int) : (wayL adj d k v).length = k + 1 := by
  induction k generalizing v with
  | zero => rfl
  | succ k ih => simp [wayL, ih]

theorem least_next {adj : List (List Int)} {to : List Int} (hG : Gr adj) (ht : Pts adj.length to) {v : Int} {k : Nat} (hv : 0 ≤ v ∧ v < adj.length) (hd : distL (turnL adj) to v = k + 1) :
    leastL (distL (turnL adj) to) (out adj v) = nextL (distL (turnL adj) to) (out adj v) k ∧ nextL (distL (turnL adj) to) (out adj v) k ∈ out adj v ∧ distL (turnL adj) to (nextL (distL (turnL adj) to) (out adj v) k) = k := by
  obtain ⟨u, hu, hdu⟩ := dt_next hG ht hv (by omega)
  have hex : ∃ u ∈ out adj v, distL (turnL adj) to u = (k : Int) := ⟨u, hu, by omega⟩
  refine ⟨next_least (by omega) (fun x hx => ((out_pts hG v).lt x hx).1) hex (fun u hu h0 => ?_), nextL_spec hex⟩
  have := dt_arc hG ht hv hu h0
  omega

theorem dt_bound {adj : List (List Int)} {to : List Int} (hG : Gr adj) (ht : Pts adj.length to) (v : Int) : -1 ≤ distL (turnL adj) to v ∧ distL (turnL adj) to v ≤ adj.length := by
  rcases dist_cases (turn_gr hG) (pts_turn ht) (v := v) with ⟨d, h1, h2, _⟩ | ⟨h1, _⟩
  · rw [turn_length] at h1; omega
  · omega

theorem path7_ret {adj : List (List Int)} {fr to : List Int} (ha : okLen adj) (hin : ∀ p ∈ adj, okLen p) (hf : okLen fr) (ht : okLen to) :
    Ret Try.prog w0 40 [rows adj, ints fr, ints to] (.tup [ints (pathA adj fr to).1, B (pathA adj fr to).2]) := by
  intro H
  refine w_enter Try.func40 rfl Try.ntmps40 (ts := [6, 7]) rfl (by simp) (by kernel_rfl) ?_
  cases hm : mayG adj with
  | false =>
    repeat' (first
      | (with_reducible refine awp_skip ?_)
      | (with_reducible refine then_any ?_)
      | (with_reducible refine then_ret ?_)
      | (with_reducible refine then_exit ?_)
      | (with_reducible refine inBlock_normal ?_)
      | (with_reducible refine inBlock_ret ?_)
      | (with_reducible refine inBlock_hit ?_)
      | (with_reducible refine inBlock_miss (by decide) ?_)
      | (with_reducible refine awp_ret ?_)
      | (with_reducible refine awp_exit ?_)
      | (with_reducible refine post_ret ?_)
      | (with_reducible refine post_normal ?_)
      | (with_reducible refine awp_block ?_)
      | (with_reducible refine v_reg [] (fun K hK => ?_))
      | (with_reducible refine v_reg1 [] (fun K hK => ?_))
      | (with_reducible refine v_draw mixed [] [] (by kernel_rfl) (fun K hK => ?_))
      | (with_reducible refine v_draw1 mixed [] [] (by kernel_rfl) (fun K hK => ?_))
      | (with_reducible refine ev_nil (hK _ _ ?_); clear hK K)
      | (with_reducible refine ed_nil (hK _ _ ?_); clear hK K)
      | ((first | with_reducible refine ev_cons (fun K' hK' => ?_) | with_reducible refine ed_cons (fun K' hK' => ?_) | (with_reducible refine ev_id ?_; refine ev_guard rfl (fun K' hK' => ?_)) | (with_reducible refine ed_id ?_; refine ed_guard rfl (fun K' hK' => ?_))); simp [rows, ints, hm]; repeat' (first | (with_reducible refine hK' _ _ ?_; clear hK' K') | (with_reducible refine Ret.use (may7_ret ha hin) ?_; try simp [rows, ints, hm]) | (with_reducible refine And.intro ?_ ?_) | (with_reducible intro hg) | (clear hK' K'; omega)))
      | (with_reducible refine w_cond (fun A B hA hB => ?_); simp [rows, ints, hm]; repeat' (first | (with_reducible refine hA ?_; clear hA hB A B) | (with_reducible refine hB ?_; clear hA hB A B) | (with_reducible refine And.intro ?_ ?_) | (with_reducible intro hc)))
      | (with_reducible refine awp_seq ?_))
    simp [pathA, hm]
  | true =>
  cases hb : ptsB fr adj.length with
  | false =>
    repeat' (first
      | (with_reducible refine awp_skip ?_)
      | (with_reducible refine then_any ?_)
      | (with_reducible refine then_ret ?_)
      | (with_reducible refine then_exit ?_)
      | (with_reducible refine inBlock_normal ?_)
      | (with_reducible refine inBlock_ret ?_)
      | (with_reducible refine inBlock_hit ?_)
      | (with_reducible refine inBlock_miss (by decide) ?_)
      | (with_reducible refine awp_ret ?_)
      | (with_reducible refine awp_exit ?_)
      | (with_reducible refine post_ret ?_)
      | (with_reducible refine post_normal ?_)
      | (with_reducible refine awp_block ?_)
      | (with_reducible refine v_reg [] (fun K hK => ?_))
      | (with_reducible refine v_reg1 [] (fun K hK => ?_))
      | (with_reducible refine v_draw mixed [] [] (by kernel_rfl) (fun K hK => ?_))
      | (with_reducible refine v_draw1 mixed [] [] (by kernel_rfl) (fun K hK => ?_))
      | (with_reducible refine ev_nil (hK _ _ ?_); clear hK K)
      | (with_reducible refine ed_nil (hK _ _ ?_); clear hK K)
      | ((first | with_reducible refine ev_cons (fun K' hK' => ?_) | with_reducible refine ed_cons (fun K' hK' => ?_) | (with_reducible refine ev_id ?_; refine ev_guard rfl (fun K' hK' => ?_)) | (with_reducible refine ed_id ?_; refine ed_guard rfl (fun K' hK' => ?_))); simp [rows, ints, hm, hb]; repeat' (first | (with_reducible refine hK' _ _ ?_; clear hK' K') | (with_reducible refine Ret.use (may7_ret ha hin) ?_; try simp [rows, ints, hm, hb]) | (with_reducible refine Ret.use (points7_ret hf) ?_; try simp [rows, ints, hm, hb]) | (with_reducible refine And.intro ?_ ?_) | (with_reducible intro hg) | (clear hK' K'; omega)))
      | (with_reducible refine w_cond (fun A B hA hB => ?_); simp [rows, ints, hm, hb]; repeat' (first | (with_reducible refine hA ?_; clear hA hB A B) | (with_reducible refine hB ?_; clear hA hB A B) | (with_reducible refine And.intro ?_ ?_) | (with_reducible intro hc)))
      | (with_reducible refine awp_seq ?_))
    simp [pathA, hm, hb]
  | true =>
  cases hc : ptsB to adj.length with
  | false =>
    repeat' (first
      | (with_reducible refine awp_skip ?_)
      | (with_reducible refine then_any ?_)
      | (with_reducible refine then_ret ?_)
      | (with_reducible refine then_exit ?_)
      | (with_reducible refine inBlock_normal ?_)
      | (with_reducible refine inBlock_ret ?_)
      | (with_reducible refine inBlock_hit ?_)
      | (with_reducible refine inBlock_miss (by decide) ?_)
      | (with_reducible refine awp_ret ?_)
      | (with_reducible refine awp_exit ?_)
      | (with_reducible refine post_ret ?_)
      | (with_reducible refine post_normal ?_)
      | (with_reducible refine awp_block ?_)
      | (with_reducible refine v_reg [] (fun K hK => ?_))
      | (with_reducible refine v_reg1 [] (fun K hK => ?_))
      | (with_reducible refine v_draw mixed [] [] (by kernel_rfl) (fun K hK => ?_))
      | (with_reducible refine v_draw1 mixed [] [] (by kernel_rfl) (fun K hK => ?_))
      | (with_reducible refine ev_nil (hK _ _ ?_); clear hK K)
      | (with_reducible refine ed_nil (hK _ _ ?_); clear hK K)
      | ((first | with_reducible refine ev_cons (fun K' hK' => ?_) | with_reducible refine ed_cons (fun K' hK' => ?_) | (with_reducible refine ev_id ?_; refine ev_guard rfl (fun K' hK' => ?_)) | (with_reducible refine ed_id ?_; refine ed_guard rfl (fun K' hK' => ?_))); simp [rows, ints, hm, hb, hc]; repeat' (first | (with_reducible refine hK' _ _ ?_; clear hK' K') | (with_reducible refine Ret.use (may7_ret ha hin) ?_; try simp [rows, ints, hm, hb, hc]) | (with_reducible refine Ret.use (points7_ret hf) ?_; try simp [rows, ints, hm, hb, hc]) | (with_reducible refine Ret.use (points7_ret ht) ?_; try simp [rows, ints, hm, hb, hc]) | (with_reducible refine And.intro ?_ ?_) | (with_reducible intro hg) | (clear hK' K'; omega)))
      | (with_reducible refine w_cond (fun A B hA hB => ?_); simp [rows, ints, hm, hb, hc]; repeat' (first | (with_reducible refine hA ?_; clear hA hB A B) | (with_reducible refine hB ?_; clear hA hB A B) | (with_reducible refine And.intro ?_ ?_) | (with_reducible intro hc)))
      | (with_reducible refine awp_seq ?_))
    simp [pathA, hm, hb, hc]
  | true =>
  have hG := gr_iff.1 hm
  have hp := pts_iff.1 hb
  have hpt := pts_iff.1 hc
  have hlen := hG.len
  have hpa : pathA adj fr to = pathL adj fr to := by simp [pathA, hm, hb, hc]
  have hlr := least_ret (w0 := w0) hG hp hpt
  have hsp := leastL_spec (d := distL (turnL adj) to) (fun x hx => (hp.lt x hx).1)
  have hln := fun {v k} hv hd => least_next hG hpt (v := v) (k := k) hv hd
  have hlo := fun v => least_ret (w0 := w0) hG (out_pts hG v) hpt
  have hz := fun v => dt_zero hG hpt (v := v)
  have hbd := dt_bound hG hpt
  simp only [pathL] at hpa
  have hrt := rises_iff.2 hpt.set
  generalize distL (turnL adj) to = d at *
  rcases hsp with ⟨hv, _⟩ | ⟨i, hi, hv, hd0, _, _⟩
  · rw [hv] at hpa
    repeat' (first
      | (with_reducible refine awp_skip ?_)
      | (with_reducible refine then_any ?_)
      | (with_reducible refine then_ret ?_)
      | (with_reducible refine then_exit ?_)
      | (with_reducible refine inBlock_normal ?_)
      | (with_reducible refine inBlock_ret ?_)
      | (with_reducible refine inBlock_hit ?_)
      | (with_reducible refine inBlock_miss (by decide) ?_)
      | (with_reducible refine awp_ret ?_)
      | (with_reducible refine awp_exit ?_)
      | (with_reducible refine post_ret ?_)
      | (with_reducible refine post_normal ?_)
      | (with_reducible refine awp_block ?_)
      | (with_reducible refine v_reg [] (fun K hK => ?_))
      | (with_reducible refine v_reg1 [] (fun K hK => ?_))
      | (with_reducible refine v_draw mixed [] [] (by kernel_rfl) (fun K hK => ?_))
      | (with_reducible refine v_draw1 mixed [] [] (by kernel_rfl) (fun K hK => ?_))
      | (with_reducible refine ev_nil (hK _ _ ?_); clear hK K)
      | (with_reducible refine ed_nil (hK _ _ ?_); clear hK K)
      | ((first | with_reducible refine ev_cons (fun K' hK' => ?_) | with_reducible refine ed_cons (fun K' hK' => ?_) | (with_reducible refine ev_id ?_; refine ev_guard rfl (fun K' hK' => ?_)) | (with_reducible refine ed_id ?_; refine ed_guard rfl (fun K' hK' => ?_))); simp [rows, ints, hm, hb, hc, hv]; repeat' (first | (with_reducible refine hK' _ _ ?_; clear hK' K') | (with_reducible refine Ret.use (may7_ret ha hin) ?_; try simp [rows, ints, hm, hb, hc, hv]) | (with_reducible refine Ret.use (points7_ret hf) ?_; try simp [rows, ints, hm, hb, hc, hv]) | (with_reducible refine Ret.use (points7_ret ht) ?_; try simp [rows, ints, hm, hb, hc, hv]) | (with_reducible refine Ret.use hlr ?_; try simp [rows, ints, hm, hb, hc, hv]) | (with_reducible refine And.intro ?_ ?_) | (with_reducible intro hg) | (clear hK' K'; omega)))
      | (with_reducible refine w_cond (fun A B hA hB => ?_); simp [rows, ints, hm, hb, hc, hv]; repeat' (first | (with_reducible refine hA ?_; clear hA hB A B) | (with_reducible refine hB ?_; clear hA hB A B) | (with_reducible refine And.intro ?_ ?_) | (with_reducible intro hc)))
      | (with_reducible refine awp_seq ?_))
    simp [hpa]
  · have hvl := hp.lt fr[i] (List.getElem_mem _)
    have hv0 : ¬ fr[i] < 0 := by omega
    rw [hv, if_neg hv0] at hpa
    generalize fr[i] = v0 at *
    repeat' (first
      | (with_reducible refine awp_skip ?_)
      | (with_reducible refine then_any ?_)
      | (with_reducible refine then_ret ?_)
      | (with_reducible refine then_exit ?_)
      | (with_reducible refine inBlock_normal ?_)
      | (with_reducible refine inBlock_ret ?_)
      | (with_reducible refine inBlock_hit ?_)
      | (with_reducible refine inBlock_miss (by decide) ?_)
      | (with_reducible refine awp_ret ?_)
      | (with_reducible refine awp_exit ?_)
      | (with_reducible refine post_ret ?_)
      | (with_reducible refine post_normal ?_)
      | (with_reducible refine awp_block ?_)
      | (with_reducible refine v_reg [34] (fun K hK => ?_))
      | (with_reducible refine v_reg1 [34] (fun K hK => ?_))
      | (with_reducible refine v_draw mixed [34] [] (by kernel_rfl) (fun K hK => ?_))
      | (with_reducible refine v_draw1 mixed [34] [] (by kernel_rfl) (fun K hK => ?_))
      | (with_reducible refine ev_nil (hK _ _ ?_); clear hK K)
      | (with_reducible refine ed_nil (hK _ _ ?_); clear hK K)
      | ((first | with_reducible refine ev_cons (fun K' hK' => ?_) | with_reducible refine ed_cons (fun K' hK' => ?_) | (with_reducible refine ev_id ?_; refine ev_guard rfl (fun K' hK' => ?_)) | (with_reducible refine ed_id ?_; refine ed_guard rfl (fun K' hK' => ?_))); simp [rows, ints, hm, hb, hc, hv, hv0]; repeat' (first | (with_reducible refine hK' _ _ ?_; clear hK' K') | (with_reducible refine Ret.use (may7_ret ha hin) ?_; try simp [rows, ints, hm, hb, hc, hv, hv0]) | (with_reducible refine Ret.use (points7_ret hf) ?_; try simp [rows, ints, hm, hb, hc, hv, hv0]) | (with_reducible refine Ret.use (points7_ret ht) ?_; try simp [rows, ints, hm, hb, hc, hv, hv0]) | (with_reducible refine Ret.use hlr ?_; try simp [rows, ints, hm, hb, hc, hv, hv0]) | (with_reducible refine And.intro ?_ ?_) | (with_reducible intro hg) | (clear hK' K'; omega)))
      | (with_reducible refine w_cond (fun A B hA hB => ?_); simp [rows, ints, hm, hb, hc, hv, hv0]; repeat' (first | (with_reducible refine hA ?_; clear hA hB A B) | (with_reducible refine hB ?_; clear hA hB A B) | (with_reducible refine And.intro ?_ ?_) | (with_reducible intro hc)))
      | (with_reducible refine awp_seq ?_))
    all_goals try omega
    rename_i r
    have hr : H r = none := hg
    clear hg
    refine awp_loop_g (fun k env h => ∃ (v : Int) (o : List Int), (0 ≤ v ∧ v < adj.length) ∧ d v = k ∧ o ++ (wayL adj d k v).drop 1 = wayL adj d (d v0).toNat v0 ∧ env 8 = I v ∧ env 0 = rows adj ∧ env 2 = ints to ∧ env 9 = .ref r 0 o.length o.length ∧ h = upd H r (some (.arr 1 3 (o.map I) o.length))) ?_ ?_
    · exact ⟨(d v0).toNat, v0, [v0], hvl, by omega, by rw [List.singleton_append, ← way_cons], by simp, by simp [rows], by simp [ints], by simp, by simp⟩
    rintro k env h ⟨v, o, hvl', hdv, ho, h8, h0, h2, h9, rfl⟩
    have hol : o.length ≤ 4097 := by
      have h1 := congrArg List.length ho
      rw [List.length_append, List.length_drop, way_length, way_length] at h1
      have := hbd v0
      omega
    have hvn : v.toNat < adj.length := by omega
    have hout : ∀ h : v.toNat < adj.length, adj[v.toNat]'h = out adj v := fun h => (out_eq h).symm
    have hzv := hz v
    have hov := hlo v
    cases k with
    | zero =>
      have hin : v ∈ to := hzv.1 (by omega)
      rw [show (wayL adj d 0 v).drop 1 = [] from rfl, List.append_nil] at ho
      refine awp_frz 9 h9 hr fun env' he he2 => ?_
      rw [cut_map] at he
      have g8 : env' 8 = I v := by rw [he2 _ (by decide), h8]
      have g2 : env' 2 = ints to := by rw [he2 _ (by decide), h2]
      repeat' (first
        | (with_reducible refine awp_skip ?_)
        | (with_reducible refine then_any ?_)
        | (with_reducible refine then_ret ?_)
        | (with_reducible refine then_exit ?_)
        | (with_reducible refine inBlock_normal ?_)
        | (with_reducible refine inBlock_ret ?_)
        | (with_reducible refine inBlock_hit ?_)
        | (with_reducible refine inBlock_miss (by decide) ?_)
        | (with_reducible refine awp_ret ?_)
        | (with_reducible refine awp_exit ?_)
        | (with_reducible refine post_ret ?_)
        | (with_reducible refine post_normal ?_)
        | (with_reducible refine awp_block ?_)
        | (with_reducible refine v_reg [] (fun K hK => ?_))
        | (with_reducible refine v_reg1 [] (fun K hK => ?_))
        | (with_reducible refine v_draw mixed [] [] (by kernel_rfl) (fun K hK => ?_))
        | (with_reducible refine v_draw1 mixed [] [] (by kernel_rfl) (fun K hK => ?_))
        | (with_reducible refine ev_nil (hK _ _ ?_); clear hK K)
        | (with_reducible refine ed_nil (hK _ _ ?_); clear hK K)
        | ((first | with_reducible refine ev_cons (fun K' hK' => ?_) | with_reducible refine ed_cons (fun K' hK' => ?_) | (with_reducible refine ev_id ?_; refine ev_guard rfl (fun K' hK' => ?_)) | (with_reducible refine ed_id ?_; refine ed_guard rfl (fun K' hK' => ?_))); simp [g8, g2, he, ints, hrt, hin]; repeat' (first | (with_reducible refine hK' _ _ ?_; clear hK' K') | (with_reducible refine Ret.use (has2_ret ht) ?_; try simp [g8, g2, he, ints, hrt, hin]) | (with_reducible refine And.intro ?_ ?_) | (with_reducible intro hg) | (clear hK' K'; omega)))
        | (with_reducible refine w_cond (fun A B hA hB => ?_); simp [g8, g2, he, ints, hrt, hin]; repeat' (first | (with_reducible refine hA ?_; clear hA hB A B) | (with_reducible refine hB ?_; clear hA hB A B) | (with_reducible refine And.intro ?_ ?_) | (with_reducible intro hc)))
        | (with_reducible refine awp_seq ?_))
      simp [hpa, ho]
    | succ k =>
      have hin : v ∉ to := fun h => by have := hzv.2 h; omega
      obtain ⟨n1, n2, n3⟩ := @hln v k hvl' (by omega)
      have hnl := (out_pts hG v).lt _ n2
      have hw : wayL adj d (k + 1) v = v :: wayL adj d k (nextL d (out adj v) k) := rfl
      rw [hw, List.drop_one, List.tail_cons, way_cons] at ho
      repeat' (first
        | (with_reducible refine awp_skip ?_)
        | (with_reducible refine then_any ?_)
        | (with_reducible refine then_ret ?_)
        | (with_reducible refine then_exit ?_)
        | (with_reducible refine inBlock_normal ?_)
        | (with_reducible refine inBlock_ret ?_)
        | (with_reducible refine inBlock_hit ?_)
        | (with_reducible refine inBlock_miss (by decide) ?_)
        | (with_reducible refine awp_ret ?_)
        | (with_reducible refine awp_exit ?_)
        | (with_reducible refine post_ret ?_)
        | (with_reducible refine post_normal ?_)
        | (with_reducible refine awp_block ?_)
        | (with_reducible refine v_reg [] (fun K hK => ?_))
        | (with_reducible refine v_reg1 [] (fun K hK => ?_))
        | (with_reducible refine v_draw mixed [] [] (by kernel_rfl) (fun K hK => ?_))
        | (with_reducible refine v_draw1 mixed [] [] (by kernel_rfl) (fun K hK => ?_))
        | (with_reducible refine ev_nil (hK _ _ ?_); clear hK K)
        | (with_reducible refine ed_nil (hK _ _ ?_); clear hK K)
        | ((first | with_reducible refine ev_cons (fun K' hK' => ?_) | with_reducible refine ed_cons (fun K' hK' => ?_) | (with_reducible refine ev_id ?_; refine ev_guard rfl (fun K' hK' => ?_)) | (with_reducible refine ed_id ?_; refine ed_guard rfl (fun K' hK' => ?_))); simp [h8, h0, h2, h9, rows, ints, hrt, hin, hvn, hvl'.1, hout, n1]; repeat' (first | (with_reducible refine hK' _ _ ?_; clear hK' K') | (with_reducible refine Ret.use (has2_ret ht) ?_; try simp [h8, h0, h2, h9, rows, ints, hrt, hin, hvn, hvl'.1, hout, n1]) | (with_reducible refine Ret.use hov ?_; try simp [h8, h0, h2, h9, rows, ints, hrt, hin, hvn, hvl'.1, hout, n1]) | (with_reducible refine And.intro ?_ ?_) | (with_reducible intro hg) | (clear hK' K'; omega)))
        | (with_reducible refine w_cond (fun A B hA hB => ?_); simp [h8, h0, h2, h9, rows, ints, hrt, hin, hvn, hvl'.1, hout, n1]; repeat' (first | (with_reducible refine hA ?_; clear hA hB A B) | (with_reducible refine hB ?_; clear hA hB A B) | (with_reducible refine And.intro ?_ ?_) | (with_reducible intro hc)))
        | (with_reducible refine awp_seq ?_))
      exact ⟨k, by omega, nextL d (out adj v) k, o ++ [nextL d (out adj v) k], hnl, n3, by rw [← ho]; simp, by simp, by simp [h0], by simp [h2], by simp, by simp⟩
end Go.Am
