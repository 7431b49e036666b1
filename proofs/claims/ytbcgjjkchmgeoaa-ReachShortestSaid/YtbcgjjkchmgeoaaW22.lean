/- Contracts: the law ReachCloses. -/
import Derived.Test.YtbcgjjkchmgeoaaW21
namespace Go.Am
open Go Go.Proofs
set_option linter.unusedVariables false
set_option linter.unusedSimpArgs false
variable {w0 : World}
attribute [local irreducible] AWP ACalls
attribute [local congr] acalls_congr

/-- What the law says of Path's answer. -/
structure PathFacts (adj : List (List Int)) (fr to : List Int) (p : List Int) (ok : Bool) : Prop where
  okp : ok = true ↔ p ≠ []
  okm : ok = true ↔ ∃ x ∈ levL adj fr adj.length, x ∈ to
  lt : ∀ (i : Nat) (h : i < p.length), 0 ≤ p[i] ∧ p[i] < adj.length
  arc : ∀ (i : Nat) (h : i + 1 < p.length), p[i + 1] ∈ out adj p[i]
  nofr : ∀ (i : Nat) (h : i < p.length), 0 < i → p[i] ∉ fr
  noto : ∀ (i : Nat) (h : i < p.length), i + 1 < p.length → p[i] ∉ to
  first : ∀ h : 0 < p.length, p[0] ∈ fr
  last : ∀ h : p.length - 1 < p.length, p[p.length - 1] ∈ to
  skip : ∀ (i k : Nat) (hi : i < p.length) (hk : k < p.length), i + 2 ≤ k → p[k] ∉ out adj p[i]
  tail : ∀ h : 1 < p.length, pathL adj [p[1]] to = (p.drop 1, true)

theorem path_facts {adj : List (List Int)} (hG : Gr adj) {fr to : List Int} (hf : Pts adj.length fr) (ht : Pts adj.length to) : PathFacts adj fr to (pathL adj fr to).1 (pathL adj fr to).2 := by
  have hm := meets_iff hG ht hf
  rcases path_cases hG ht hf with ⟨h1, h2⟩ | ⟨v, k, hv, hd, h1, h2⟩
  · rw [h1]
    refine ⟨by simp, ?_, fun i h => by simp at h, fun i h => by simp at h, fun i h => by simp at h, fun i h => by simp at h, fun h => by simp at h, fun h => by simp at h, fun i k h => by simp at h, fun h => by simp at h⟩
    rw [hm]
    constructor
    · intro h; cases h
    · rintro ⟨v, hv, h⟩; exact absurd (h2 v hv) h
  · have hw := way_ok hG ht k (hf.lt v hv) hd
    have h0 : (wayL adj (distL (turnL adj) to) k v)[0]? = some v := by rw [way_cons]; rfl
    have hdr : ∀ j, k = j + 1 → (wayL adj (distL (turnL adj) to) k v).drop 1 = wayL adj (distL (turnL adj) to) j (nextL (distL (turnL adj) to) (out adj v) j) := by rintro j rfl; rfl
    rw [h1]
    generalize wayL adj (distL (turnL adj) to) k v = p at *
    have hl := hw.len
    show PathFacts adj fr to p true
    refine ⟨by simp; intro e; simp [e] at hl, ?_, hw.lt, hw.arc, fun i h hi hm => ?_, fun i h hi hm => ?_, fun h => ?_, fun h => ?_, fun i j hi hj hij hm => ?_, fun h => ?_⟩
    · rw [hm]
      simp only [true_iff]
      exact ⟨v, hv, by omega⟩
    · have a := hw.dist i h
      have := h2 _ hm (by omega)
      omega
    · have a := hw.dist i h
      have := (dt_zero hG ht).2 hm
      omega
    · rw [List.getElem?_eq_getElem h] at h0
      simp only [Option.some.injEq] at h0
      rw [h0]; exact hv
    · have a := hw.dist (p.length - 1) h
      exact (dt_zero hG ht).1 (by omega)
    · have a := hw.dist i hi
      have b := hw.dist j hj
      have := dt_arc hG ht (hw.lt i hi) hm (by omega)
      omega
    · have a := hw.dist 1 h
      obtain ⟨j, rfl⟩ : ∃ j, k = j + 1 := ⟨k - 1, by omega⟩
      have hd1 := hdr j rfl
      have h1' : p[1] = nextL (distL (turnL adj) to) (out adj v) j := by
        have e := congrArg (·[0]?) hd1
        rw [way_cons] at e
        simp only [List.getElem?_drop, Nat.add_zero, List.getElem?_cons_zero] at e
        rw [List.getElem?_eq_getElem h] at e
        simpa using e
      unfold pathL
      have hle : leastL (distL (turnL adj) to) [p[1]] = p[1] := by
        simp only [leastL, List.foldl_cons, List.foldl_nil]
        rw [if_pos ⟨by omega, .inl (by omega)⟩]
      simp only [hle]
      have := hw.lt 1 h
      rw [if_neg (by omega), hd1, h1']
      rw [h1'] at a
      rw [a]
      congr 2
      omega

set_option maxHeartbeats 4000000 in
theorem reachCloses_ret {adj : List (List Int)} {fr to : List Int} (ha : adj.length ≤ 17592186044416) (hin : ∀ p ∈ adj, p.length ≤ 17592186044416) (hf0 : fr.length ≤ 17592186044416) (ht0 : to.length ≤ 17592186044416) :
    Ret Try.prog w0 9 [rows adj, ints fr, ints to] (B true) := by
  intro H
  have hoa : okLen adj := by omega
  have hoi : ∀ p ∈ adj, okLen p := fun p hp => by have := hin p hp; omega
  have hof : okLen fr := by omega
  have hot : okLen to := by omega
  refine w_enter Try.func9 rfl Try.ntmps9 (ts := [6]) rfl (by simp) (by kernel_rfl) ?_
  by_cases hbig : 40 < adj.length
  · have hbig' : (40 : Int) < adj.length := by omega
    repeat' (first
      | (with_reducible refine awp_skip ?_)
      | (with_reducible refine then_any ?_)
      | (with_reducible refine then_ret ?_)
      | (with_reducible refine then_exit ?_)
      | (with_reducible refine inBlock_normal ?_)
      | (with_reducible refine inBlock_ret ?_)
      | (with_reducible refine inBlock_hit ?_)
      | (with_reducible refine inBlock_miss (by decide) ?_)
      | (with_reducible refine awp_ret ?_)
      | (with_reducible refine awp_exit ?_)
      | (with_reducible refine post_ret ?_)
      | (with_reducible refine post_normal ?_)
      | (with_reducible refine awp_block ?_)
      | (with_reducible refine v_reg [] (fun K hK => ?_))
      | (with_reducible refine v_reg1 [] (fun K hK => ?_))
      | (with_reducible refine v_draw mixed [] [] (by kernel_rfl) (fun K hK => ?_))
      | (with_reducible refine v_draw1 mixed [] [] (by kernel_rfl) (fun K hK => ?_))
      | (with_reducible refine ev_nil (hK _ _ ?_); clear hK K)
      | (with_reducible refine ed_nil (hK _ _ ?_); clear hK K)
      | ((first | with_reducible refine ev_cons (fun K' hK' => ?_) | with_reducible refine ed_cons (fun K' hK' => ?_) | (with_reducible refine ev_id ?_; refine ev_guard rfl (fun K' hK' => ?_)) | (with_reducible refine ed_id ?_; refine ed_guard rfl (fun K' hK' => ?_))); simp [rows, ints, hbig']; repeat' (first | (with_reducible refine hK' _ _ ?_; clear hK' K') | (with_reducible refine Ret.use fixed7_ret ?_; try simp [rows, ints, hbig']) | (with_reducible refine And.intro ?_ ?_) | (with_reducible intro hg) | (clear hK' K'; omega)))
      | (with_reducible refine w_cond (fun A B hA hB => ?_); simp [rows, ints, hbig']; repeat' (first | (with_reducible refine hA ?_; clear hA hB A B) | (with_reducible refine hB ?_; clear hA hB A B) | (with_reducible refine And.intro ?_ ?_) | (with_reducible intro hc)))
      | (with_reducible refine awp_seq ?_))
    all_goals simp
  have hbig' : ¬ (40 : Int) < adj.length := by omega
  have hal : okLen (allL (adj.length : Int)) := by unfold allL; split <;> simp; omega
  have hs1 := subAll fr (n := adj.length) (by omega)
  have hs2 := subAll to (n := adj.length) (by omega)
  have hr1 := sub2_ret (w0 := w0) hof hal
  have hr2 := sub2_ret (w0 := w0) hot hal
  rw [hs1] at hr1
  rw [hs2] at hr2
  cases hm : mayG adj with
  | false =>
    repeat' (first
      | (with_reducible refine awp_skip ?_)
      | (with_reducible refine then_any ?_)
      | (with_reducible refine then_ret ?_)
      | (with_reducible refine then_exit ?_)
      | (with_reducible refine inBlock_normal ?_)
      | (with_reducible refine inBlock_ret ?_)
      | (with_reducible refine inBlock_hit ?_)
      | (with_reducible refine inBlock_miss (by decide) ?_)
      | (with_reducible refine awp_ret ?_)
      | (with_reducible refine awp_exit ?_)
      | (with_reducible refine post_ret ?_)
      | (with_reducible refine post_normal ?_)
      | (with_reducible refine awp_block ?_)
      | (with_reducible refine v_reg [] (fun K hK => ?_))
      | (with_reducible refine v_reg1 [] (fun K hK => ?_))
      | (with_reducible refine v_draw mixed [] [] (by kernel_rfl) (fun K hK => ?_))
      | (with_reducible refine v_draw1 mixed [] [] (by kernel_rfl) (fun K hK => ?_))
      | (with_reducible refine ev_nil (hK _ _ ?_); clear hK K)
      | (with_reducible refine ed_nil (hK _ _ ?_); clear hK K)
      | ((first | with_reducible refine ev_cons (fun K' hK' => ?_) | with_reducible refine ed_cons (fun K' hK' => ?_) | (with_reducible refine ev_id ?_; refine ev_guard rfl (fun K' hK' => ?_)) | (with_reducible refine ed_id ?_; refine ed_guard rfl (fun K' hK' => ?_))); simp [rows, ints, hbig', hm]; repeat' (first | (with_reducible refine hK' _ _ ?_; clear hK' K') | (with_reducible refine Ret.use fixed7_ret ?_; try simp [rows, ints, hbig', hm]) | (with_reducible refine Ret.use (may7_ret hoa hoi) ?_; try simp [rows, ints, hbig', hm]) | (with_reducible refine And.intro ?_ ?_) | (with_reducible intro hg) | (clear hK' K'; omega)))
      | (with_reducible refine w_cond (fun A B hA hB => ?_); simp [rows, ints, hbig', hm]; repeat' (first | (with_reducible refine hA ?_; clear hA hB A B) | (with_reducible refine hB ?_; clear hA hB A B) | (with_reducible refine And.intro ?_ ?_) | (with_reducible intro hc)))
      | (with_reducible refine awp_seq ?_))
    all_goals simp
  | true =>
  cases hpa : ptsB fr adj.length with
  | false =>
    rw [hpa] at hr1
    repeat' (first
      | (with_reducible refine awp_skip ?_)
      | (with_reducible refine then_any ?_)
      | (with_reducible refine then_ret ?_)
      | (with_reducible refine then_exit ?_)
      | (with_reducible refine inBlock_normal ?_)
      | (with_reducible refine inBlock_ret ?_)
      | (with_reducible refine inBlock_hit ?_)
      | (with_reducible refine inBlock_miss (by decide) ?_)
      | (with_reducible refine awp_ret ?_)
      | (with_reducible refine awp_exit ?_)
      | (with_reducible refine post_ret ?_)
      | (with_reducible refine post_normal ?_)
      | (with_reducible refine awp_block ?_)
      | (with_reducible refine v_reg [] (fun K hK => ?_))
      | (with_reducible refine v_reg1 [] (fun K hK => ?_))
      | (with_reducible refine v_draw mixed [] [] (by kernel_rfl) (fun K hK => ?_))
      | (with_reducible refine v_draw1 mixed [] [] (by kernel_rfl) (fun K hK => ?_))
      | (with_reducible refine ev_nil (hK _ _ ?_); clear hK K)
      | (with_reducible refine ed_nil (hK _ _ ?_); clear hK K)
      | ((first | with_reducible refine ev_cons (fun K' hK' => ?_) | with_reducible refine ed_cons (fun K' hK' => ?_) | (with_reducible refine ev_id ?_; refine ev_guard rfl (fun K' hK' => ?_)) | (with_reducible refine ed_id ?_; refine ed_guard rfl (fun K' hK' => ?_))); simp [rows, ints, hbig', hm]; repeat' (first | (with_reducible refine hK' _ _ ?_; clear hK' K') | (with_reducible refine Ret.use fixed7_ret ?_; try simp [rows, ints, hbig', hm]) | (with_reducible refine Ret.use (may7_ret hoa hoi) ?_; try simp [rows, ints, hbig', hm]) | (with_reducible refine Ret.use all2_ret ?_; try simp [rows, ints, hbig', hm]) | (with_reducible refine Ret.use hr1 ?_; try simp [rows, ints, hbig', hm]) | (with_reducible refine And.intro ?_ ?_) | (with_reducible intro hg) | (clear hK' K'; omega)))
      | (with_reducible refine w_cond (fun A B hA hB => ?_); simp [rows, ints, hbig', hm]; repeat' (first | (with_reducible refine hA ?_; clear hA hB A B) | (with_reducible refine hB ?_; clear hA hB A B) | (with_reducible refine And.intro ?_ ?_) | (with_reducible intro hc)))
      | (with_reducible refine awp_seq ?_))
    all_goals simp
  | true =>
  cases hpb : ptsB to adj.length with
  | false =>
    rw [hpa] at hr1
    rw [hpb] at hr2
    repeat' (first
      | (with_reducible refine awp_skip ?_)
      | (with_reducible refine then_any ?_)
      | (with_reducible refine then_ret ?_)
      | (with_reducible refine then_exit ?_)
      | (with_reducible refine inBlock_normal ?_)
      | (with_reducible refine inBlock_ret ?_)
      | (with_reducible refine inBlock_hit ?_)
      | (with_reducible refine inBlock_miss (by decide) ?_)
      | (with_reducible refine awp_ret ?_)
      | (with_reducible refine awp_exit ?_)
      | (with_reducible refine post_ret ?_)
      | (with_reducible refine post_normal ?_)
      | (with_reducible refine awp_block ?_)
      | (with_reducible refine v_reg [] (fun K hK => ?_))
      | (with_reducible refine v_reg1 [] (fun K hK => ?_))
      | (with_reducible refine v_draw mixed [] [] (by kernel_rfl) (fun K hK => ?_))
      | (with_reducible refine v_draw1 mixed [] [] (by kernel_rfl) (fun K hK => ?_))
      | (with_reducible refine ev_nil (hK _ _ ?_); clear hK K)
      | (with_reducible refine ed_nil (hK _ _ ?_); clear hK K)
      | ((first | with_reducible refine ev_cons (fun K' hK' => ?_) | with_reducible refine ed_cons (fun K' hK' => ?_) | (with_reducible refine ev_id ?_; refine ev_guard rfl (fun K' hK' => ?_)) | (with_reducible refine ed_id ?_; refine ed_guard rfl (fun K' hK' => ?_))); simp [rows, ints, hbig', hm]; repeat' (first | (with_reducible refine hK' _ _ ?_; clear hK' K') | (with_reducible refine Ret.use fixed7_ret ?_; try simp [rows, ints, hbig', hm]) | (with_reducible refine Ret.use (may7_ret hoa hoi) ?_; try simp [rows, ints, hbig', hm]) | (with_reducible refine Ret.use all2_ret ?_; try simp [rows, ints, hbig', hm]) | (with_reducible refine Ret.use hr1 ?_; try simp [rows, ints, hbig', hm]) | (with_reducible refine Ret.use hr2 ?_; try simp [rows, ints, hbig', hm]) | (with_reducible refine And.intro ?_ ?_) | (with_reducible intro hg) | (clear hK' K'; omega)))
      | (with_reducible refine w_cond (fun A B hA hB => ?_); simp [rows, ints, hbig', hm]; repeat' (first | (with_reducible refine hA ?_; clear hA hB A B) | (with_reducible refine hB ?_; clear hA hB A B) | (with_reducible refine And.intro ?_ ?_) | (with_reducible intro hc)))
      | (with_reducible refine awp_seq ?_))
    all_goals simp
  | true =>
  rw [hpa] at hr1
  rw [hpb] at hr2
  have hG := gr_iff.1 hm
  have hA := pts_iff.1 hpa
  have hB := pts_iff.1 hpb
  have hPF := path_facts hG hA hB
  have hokm := hPF.okm
  have hpl := pathA_len adj fr to
  have hpr := path_reach_ret (w0 := w0) hoa hoi hof hot
  have hpe : pathA adj fr to = pathL adj fr to := by simp [pathA, hm, hpa, hpb]
  rw [hpe] at hpr hpl
  have hLA := lev_pts hG hA adj.length
  have hcl := fun {x y} => lev_closed hG hA (x := x) (y := y)
  have e1 : fromL adj fr = levL adj fr adj.length := by simp [fromL, hm, hpa]
  have hsub : ∀ x ∈ fr, x ∈ levL adj fr adj.length := fun x hx => lev_mono hG hA (Nat.zero_le _) hx
  have c1 := from_ret (w0 := w0) hoa hoi hof
  rw [e1] at c1
  have l3 := hLA.length
  have lf := hA.length
  have o2 : okLen (levL adj fr adj.length) := by omega
  have s2 : smLen (levL adj fr adj.length) := by rw [smLen]; omega
  generalize levL adj fr adj.length = L at *
  generalize (pathL adj fr to).1 = p at *
  generalize (pathL adj fr to).2 = ok at *
  have rL := rises_iff.2 hLA.set
  have rf := rises_iff.2 hA.set
  have rt := rises_iff.2 hB.set
  have c2 := sub2_ret (w0 := w0) hof o2
  have hc2 : (risesB (-1) fr && risesB (-1) L && fr.all fun x => decide (x ∈ L)) = true := by
    rw [rf, rL]; simpa using hsub
  rw [hc2] at c2
  have c3 := sub2_ret (w0 := w0) o2 hal
  rw [subAll L (n := adj.length) (by omega), pts_iff.2 hLA] at c3
  have c4 := meet2_ret (w0 := w0) s2 hot
  rw [rL, rt] at c4
  simp only [Bool.and_self, if_true] at c4
  have hM : ok = true ↔ (L.filter fun x => decide (x ∈ to)) ≠ [] := by
    rw [hokm]
    constructor
    · rintro ⟨x, h1, h2⟩ e
      have : x ∈ L.filter fun x => decide (x ∈ to) := List.mem_filter.2 ⟨h1, by simpa using h2⟩
      rw [e] at this; cases this
    · intro h
      obtain ⟨x, hx⟩ := List.exists_mem_of_ne_nil _ h
      have := List.mem_filter.1 hx
      exact ⟨x, this.1, by simpa using this.2⟩
  have c5 : ∀ x ∈ L, Ret Try.prog w0 45 [ints (out adj x), ints L] (B true) := by
    intro x hx
    have hox := out_pts hG x
    have hoo := hox.length
    have := sub2_ret (w0 := w0) (a := out adj x) (b := L) (by omega) o2
    have e : (risesB (-1) (out adj x) && risesB (-1) L && (out adj x).all fun y => decide (y ∈ L)) = true := by
      rw [rises_iff.2 hox.set, rL]
      simp only [Bool.and_self, Bool.true_and, List.all_eq_true, decide_eq_true_eq]
      exact fun y hy => hcl hx hy
    rwa [e] at this
  generalize (L.filter fun x => decide (x ∈ to)) = M at *
  cases ok with
  | false =>
    have hp0 : p = [] := by
      refine Classical.byContradiction fun h => ?_
      have := hPF.okp.2 h; cases this
    have hM0 : M = [] := by
      refine Classical.byContradiction fun h => ?_
      have := hM.2 h; cases this
    subst hp0 hM0
    repeat' (first
      | (with_reducible refine awp_skip ?_)
      | (with_reducible refine then_any ?_)
      | (with_reducible refine then_ret ?_)
      | (with_reducible refine then_exit ?_)
      | (with_reducible refine inBlock_normal ?_)
      | (with_reducible refine inBlock_ret ?_)
      | (with_reducible refine inBlock_hit ?_)
      | (with_reducible refine inBlock_miss (by decide) ?_)
      | (with_reducible refine awp_ret ?_)
      | (with_reducible refine awp_exit ?_)
      | (with_reducible refine post_ret ?_)
      | (with_reducible refine post_normal ?_)
      | (with_reducible refine awp_block ?_)
      | (with_reducible refine v_reg [] (fun K hK => ?_))
      | (with_reducible refine v_reg1 [] (fun K hK => ?_))
      | (with_reducible refine v_draw mixed [] [] (by kernel_rfl) (fun K hK => ?_))
      | (with_reducible refine v_draw1 mixed [] [] (by kernel_rfl) (fun K hK => ?_))
      | (with_reducible refine ev_nil (hK _ _ ?_); clear hK K)
      | (with_reducible refine ed_nil (hK _ _ ?_); clear hK K)
      | ((first | with_reducible refine ev_cons (fun K' hK' => ?_) | with_reducible refine ed_cons (fun K' hK' => ?_) | (with_reducible refine ev_id ?_; refine ev_guard rfl (fun K' hK' => ?_)) | (with_reducible refine ed_id ?_; refine ed_guard rfl (fun K' hK' => ?_))); simp [rows, ints, hbig', hm, rL]; repeat' (first | (with_reducible refine hK' _ _ ?_; clear hK' K') | (with_reducible refine Ret.use fixed7_ret ?_; try simp [rows, ints, hbig', hm, rL]) | (with_reducible refine Ret.use (may7_ret hoa hoi) ?_; try simp [rows, ints, hbig', hm, rL]) | (with_reducible refine Ret.use all2_ret ?_; try simp [rows, ints, hbig', hm, rL]) | (with_reducible refine Ret.use hr1 ?_; try simp [rows, ints, hbig', hm, rL]) | (with_reducible refine Ret.use hr2 ?_; try simp [rows, ints, hbig', hm, rL]) | (with_reducible refine Ret.use c1 ?_; try simp [rows, ints, hbig', hm, rL]) | (with_reducible refine Ret.use hpr ?_; try simp [rows, ints, hbig', hm, rL]) | (with_reducible refine Ret.use c2 ?_; try simp [rows, ints, hbig', hm, rL]) | (with_reducible refine Ret.use c3 ?_; try simp [rows, ints, hbig', hm, rL]) | (with_reducible refine Ret.use c4 ?_; try simp [rows, ints, hbig', hm, rL]) | (with_reducible refine And.intro ?_ ?_) | (with_reducible intro hg) | (clear hK' K'; omega)))
      | (with_reducible refine w_cond (fun A B hA hB => ?_); simp [rows, ints, hbig', hm, rL]; repeat' (first | (with_reducible refine hA ?_; clear hA hB A B) | (with_reducible refine hB ?_; clear hA hB A B) | (with_reducible refine And.intro ?_ ?_) | (with_reducible intro hc)))
      | (with_reducible refine awp_seq ?_))
    all_goals try omega
    refine awp_loop (fun env h => ∃ k : Nat, k ≤ L.length ∧ env 10 = I k ∧ env 0 = rows adj ∧ env 1 = ints fr ∧ env 2 = ints to ∧ env 7 = ints L ∧ env 8 = ints [] ∧ env 9 = B false ∧ h = H) (fun env _ => L.length - natA (env 10)) ?_ ?_
    · exact ⟨0, by omega, by simp, by simp [rows], by simp [ints], by simp [ints], by simp [ints], by simp [ints], by simp, rfl⟩
    rintro env h ⟨k, hk, h10, h0, h1, h2, h7, h8, h9, rfl⟩
    have hnat : natA (env 10) = k := by simp [h10]
    rw [hnat]; clear hnat
    by_cases hlt : k < L.length
    · have hx := hLA.lt L[k] (List.getElem_mem _)
      have hx2 : L[k].toNat < adj.length := by omega
      have hout : ∀ h : L[k].toNat < adj.length, adj[L[k].toNat]'h = out adj L[k] := fun h => (out_eq h).symm
      have c6 := c5 L[k] (List.getElem_mem _)
      repeat' (first
        | (with_reducible refine awp_skip ?_)
        | (with_reducible refine then_any ?_)
        | (with_reducible refine then_ret ?_)
        | (with_reducible refine then_exit ?_)
        | (with_reducible refine inBlock_normal ?_)
        | (with_reducible refine inBlock_ret ?_)
        | (with_reducible refine inBlock_hit ?_)
        | (with_reducible refine inBlock_miss (by decide) ?_)
        | (with_reducible refine awp_ret ?_)
        | (with_reducible refine awp_exit ?_)
        | (with_reducible refine post_ret ?_)
        | (with_reducible refine post_normal ?_)
        | (with_reducible refine awp_block ?_)
        | (with_reducible refine v_reg [] (fun K hK => ?_))
        | (with_reducible refine v_reg1 [] (fun K hK => ?_))
        | (with_reducible refine v_draw mixed [] [] (by kernel_rfl) (fun K hK => ?_))
        | (with_reducible refine v_draw1 mixed [] [] (by kernel_rfl) (fun K hK => ?_))
        | (with_reducible refine ev_nil (hK _ _ ?_); clear hK K)
        | (with_reducible refine ed_nil (hK _ _ ?_); clear hK K)
        | ((first | with_reducible refine ev_cons (fun K' hK' => ?_) | with_reducible refine ed_cons (fun K' hK' => ?_) | (with_reducible refine ev_id ?_; refine ev_guard rfl (fun K' hK' => ?_)) | (with_reducible refine ed_id ?_; refine ed_guard rfl (fun K' hK' => ?_))); simp [h10, h0, h1, h2, h7, h8, h9, rows, ints, hlt, hx.1, hx2, hout]; repeat' (first | (with_reducible refine hK' _ _ ?_; clear hK' K') | (with_reducible refine Ret.use c6 ?_; try simp [h10, h0, h1, h2, h7, h8, h9, rows, ints, hlt, hx.1, hx2, hout]) | (with_reducible refine And.intro ?_ ?_) | (with_reducible intro hg) | (clear hK' K'; omega)))
        | (with_reducible refine w_cond (fun A B hA hB => ?_); simp [h10, h0, h1, h2, h7, h8, h9, rows, ints, hlt, hx.1, hx2, hout]; repeat' (first | (with_reducible refine hA ?_; clear hA hB A B) | (with_reducible refine hB ?_; clear hA hB A B) | (with_reducible refine And.intro ?_ ?_) | (with_reducible intro hc)))
        | (with_reducible refine awp_seq ?_))
      exact ⟨⟨k + 1, by omega, by simp, by simp [h0], by simp [h1], by simp [h2], by simp [h7], by simp [h8], by simp [h9], rfl⟩, by simp; omega⟩
    · have : k = L.length := by omega
      subst this
      repeat' (first
        | (with_reducible refine awp_skip ?_)
        | (with_reducible refine then_any ?_)
        | (with_reducible refine then_ret ?_)
        | (with_reducible refine then_exit ?_)
        | (with_reducible refine inBlock_normal ?_)
        | (with_reducible refine inBlock_ret ?_)
        | (with_reducible refine inBlock_hit ?_)
        | (with_reducible refine inBlock_miss (by decide) ?_)
        | (with_reducible refine awp_ret ?_)
        | (with_reducible refine awp_exit ?_)
        | (with_reducible refine post_ret ?_)
        | (with_reducible refine post_normal ?_)
        | (with_reducible refine awp_block ?_)
        | (with_reducible refine v_reg [] (fun K hK => ?_))
        | (with_reducible refine v_reg1 [] (fun K hK => ?_))
        | (with_reducible refine v_draw mixed [] [] (by kernel_rfl) (fun K hK => ?_))
        | (with_reducible refine v_draw1 mixed [] [] (by kernel_rfl) (fun K hK => ?_))
        | (with_reducible refine ev_nil (hK _ _ ?_); clear hK K)
        | (with_reducible refine ed_nil (hK _ _ ?_); clear hK K)
        | ((first | with_reducible refine ev_cons (fun K' hK' => ?_) | with_reducible refine ed_cons (fun K' hK' => ?_) | (with_reducible refine ev_id ?_; refine ev_guard rfl (fun K' hK' => ?_)) | (with_reducible refine ed_id ?_; refine ed_guard rfl (fun K' hK' => ?_))); simp [h10, h0, h1, h2, h7, h8, h9, rows, ints]; repeat' (first | (with_reducible refine hK' _ _ ?_; clear hK' K') | (with_reducible refine And.intro ?_ ?_) | (with_reducible intro hg) | (clear hK' K'; omega)))
        | (with_reducible refine w_cond (fun A B hA hB => ?_); simp [h10, h0, h1, h2, h7, h8, h9, rows, ints]; repeat' (first | (with_reducible refine hA ?_; clear hA hB A B) | (with_reducible refine hB ?_; clear hA hB A B) | (with_reducible refine And.intro ?_ ?_) | (with_reducible intro hc)))
        | (with_reducible refine awp_seq ?_))
      refine awp_loop (fun env h' => ∃ j : Nat, j ≤ 0 ∧ env 11 = I j ∧ env 0 = rows adj ∧ env 1 = ints fr ∧ env 2 = ints to ∧ env 8 = ints [] ∧ env 9 = B false ∧ h' = h) (fun env _ => 0 - natA (env 11)) ?_ ?_
      · exact ⟨0, by omega, by simp, by simp [h0], by simp [h1], by simp [h2], by simp [h8], by simp [h9], rfl⟩
      clear h10 h0 h1 h2 h7 h8 h9
      rintro env h ⟨j, hj, h11, h0, h1, h2, h8, h9, rfl⟩
      have hnat : natA (env 11) = j := by simp [h11]
      rw [hnat]; clear hnat
      have : j = 0 := by omega
      subst this
      repeat' (first
        | (with_reducible refine awp_skip ?_)
        | (with_reducible refine then_any ?_)
        | (with_reducible refine then_ret ?_)
        | (with_reducible refine then_exit ?_)
        | (with_reducible refine inBlock_normal ?_)
        | (with_reducible refine inBlock_ret ?_)
        | (with_reducible refine inBlock_hit ?_)
        | (with_reducible refine inBlock_miss (by decide) ?_)
        | (with_reducible refine awp_ret ?_)
        | (with_reducible refine awp_exit ?_)
        | (with_reducible refine post_ret ?_)
        | (with_reducible refine post_normal ?_)
        | (with_reducible refine awp_block ?_)
        | (with_reducible refine v_reg [] (fun K hK => ?_))
        | (with_reducible refine v_reg1 [] (fun K hK => ?_))
        | (with_reducible refine v_draw mixed [] [] (by kernel_rfl) (fun K hK => ?_))
        | (with_reducible refine v_draw1 mixed [] [] (by kernel_rfl) (fun K hK => ?_))
        | (with_reducible refine ev_nil (hK _ _ ?_); clear hK K)
        | (with_reducible refine ed_nil (hK _ _ ?_); clear hK K)
        | ((first | with_reducible refine ev_cons (fun K' hK' => ?_) | with_reducible refine ed_cons (fun K' hK' => ?_) | (with_reducible refine ev_id ?_; refine ev_guard rfl (fun K' hK' => ?_)) | (with_reducible refine ed_id ?_; refine ed_guard rfl (fun K' hK' => ?_))); simp [h11, h0, h1, h2, h8, h9, rows, ints]; repeat' (first | (with_reducible refine hK' _ _ ?_; clear hK' K') | (with_reducible refine And.intro ?_ ?_) | (with_reducible intro hg) | (clear hK' K'; omega)))
        | (with_reducible refine w_cond (fun A B hA hB => ?_); simp [h11, h0, h1, h2, h8, h9, rows, ints]; repeat' (first | (with_reducible refine hA ?_; clear hA hB A B) | (with_reducible refine hB ?_; clear hA hB A B) | (with_reducible refine And.intro ?_ ?_) | (with_reducible intro hc)))
        | (with_reducible refine awp_seq ?_))
      simp
  | true =>
    have hp0 := hPF.okp.1 rfl
    have hM0 := hM.1 rfl
    have hp1 := List.length_pos_iff.2 hp0
    have hM1 := List.length_pos_iff.2 hM0
    repeat' (first
      | (with_reducible refine awp_skip ?_)
      | (with_reducible refine then_any ?_)
      | (with_reducible refine then_ret ?_)
      | (with_reducible refine then_exit ?_)
      | (with_reducible refine inBlock_normal ?_)
      | (with_reducible refine inBlock_ret ?_)
      | (with_reducible refine inBlock_hit ?_)
      | (with_reducible refine inBlock_miss (by decide) ?_)
      | (with_reducible refine awp_ret ?_)
      | (with_reducible refine awp_exit ?_)
      | (with_reducible refine post_ret ?_)
      | (with_reducible refine post_normal ?_)
      | (with_reducible refine awp_block ?_)
      | (with_reducible refine v_reg [] (fun K hK => ?_))
      | (with_reducible refine v_reg1 [] (fun K hK => ?_))
      | (with_reducible refine v_draw mixed [] [] (by kernel_rfl) (fun K hK => ?_))
      | (with_reducible refine v_draw1 mixed [] [] (by kernel_rfl) (fun K hK => ?_))
      | (with_reducible refine ev_nil (hK _ _ ?_); clear hK K)
      | (with_reducible refine ed_nil (hK _ _ ?_); clear hK K)
      | ((first | with_reducible refine ev_cons (fun K' hK' => ?_) | with_reducible refine ed_cons (fun K' hK' => ?_) | (with_reducible refine ev_id ?_; refine ev_guard rfl (fun K' hK' => ?_)) | (with_reducible refine ed_id ?_; refine ed_guard rfl (fun K' hK' => ?_))); simp [rows, ints, hbig', hm, hp0, hM0, hp1, hM1]; repeat' (first | (with_reducible refine hK' _ _ ?_; clear hK' K') | (with_reducible refine Ret.use fixed7_ret ?_; try simp [rows, ints, hbig', hm, hp0, hM0, hp1, hM1]) | (with_reducible refine Ret.use (may7_ret hoa hoi) ?_; try simp [rows, ints, hbig', hm, hp0, hM0, hp1, hM1]) | (with_reducible refine Ret.use all2_ret ?_; try simp [rows, ints, hbig', hm, hp0, hM0, hp1, hM1]) | (with_reducible refine Ret.use hr1 ?_; try simp [rows, ints, hbig', hm, hp0, hM0, hp1, hM1]) | (with_reducible refine Ret.use hr2 ?_; try simp [rows, ints, hbig', hm, hp0, hM0, hp1, hM1]) | (with_reducible refine Ret.use c1 ?_; try simp [rows, ints, hbig', hm, hp0, hM0, hp1, hM1]) | (with_reducible refine Ret.use hpr ?_; try simp [rows, ints, hbig', hm, hp0, hM0, hp1, hM1]) | (with_reducible refine Ret.use c2 ?_; try simp [rows, ints, hbig', hm, hp0, hM0, hp1, hM1]) | (with_reducible refine Ret.use c3 ?_; try simp [rows, ints, hbig', hm, hp0, hM0, hp1, hM1]) | (with_reducible refine Ret.use c4 ?_; try simp [rows, ints, hbig', hm, hp0, hM0, hp1, hM1]) | (with_reducible refine And.intro ?_ ?_) | (with_reducible intro hg) | (clear hK' K'; omega)))
      | (with_reducible refine w_cond (fun A B hA hB => ?_); simp [rows, ints, hbig', hm, hp0, hM0, hp1, hM1]; repeat' (first | (with_reducible refine hA ?_; clear hA hB A B) | (with_reducible refine hB ?_; clear hA hB A B) | (with_reducible refine And.intro ?_ ?_) | (with_reducible intro hc)))
      | (with_reducible refine awp_seq ?_))
    all_goals try omega
    refine awp_loop (fun env h => ∃ k : Nat, k ≤ L.length ∧ env 10 = I k ∧ env 0 = rows adj ∧ env 1 = ints fr ∧ env 2 = ints to ∧ env 7 = ints L ∧ env 8 = ints p ∧ env 9 = B true ∧ h = H) (fun env _ => L.length - natA (env 10)) ?_ ?_
    · exact ⟨0, by omega, by simp, by simp [rows], by simp [ints], by simp [ints], by simp [ints], by simp [ints], by simp, rfl⟩
    rintro env h ⟨k, hk, h10, h0, h1, h2, h7, h8, h9, rfl⟩
    have hnat : natA (env 10) = k := by simp [h10]
    rw [hnat]; clear hnat
    by_cases hlt : k < L.length
    · have hx := hLA.lt L[k] (List.getElem_mem _)
      have hx2 : L[k].toNat < adj.length := by omega
      have hout : ∀ h : L[k].toNat < adj.length, adj[L[k].toNat]'h = out adj L[k] := fun h => (out_eq h).symm
      have c6 := c5 L[k] (List.getElem_mem _)
      repeat' (first
        | (with_reducible refine awp_skip ?_)
        | (with_reducible refine then_any ?_)
        | (with_reducible refine then_ret ?_)
        | (with_reducible refine then_exit ?_)
        | (with_reducible refine inBlock_normal ?_)
        | (with_reducible refine inBlock_ret ?_)
        | (with_reducible refine inBlock_hit ?_)
        | (with_reducible refine inBlock_miss (by decide) ?_)
        | (with_reducible refine awp_ret ?_)
        | (with_reducible refine awp_exit ?_)
        | (with_reducible refine post_ret ?_)
        | (with_reducible refine post_normal ?_)
        | (with_reducible refine awp_block ?_)
        | (with_reducible refine v_reg [] (fun K hK => ?_))
        | (with_reducible refine v_reg1 [] (fun K hK => ?_))
        | (with_reducible refine v_draw mixed [] [] (by kernel_rfl) (fun K hK => ?_))
        | (with_reducible refine v_draw1 mixed [] [] (by kernel_rfl) (fun K hK => ?_))
        | (with_reducible refine ev_nil (hK _ _ ?_); clear hK K)
        | (with_reducible refine ed_nil (hK _ _ ?_); clear hK K)
        | ((first | with_reducible refine ev_cons (fun K' hK' => ?_) | with_reducible refine ed_cons (fun K' hK' => ?_) | (with_reducible refine ev_id ?_; refine ev_guard rfl (fun K' hK' => ?_)) | (with_reducible refine ed_id ?_; refine ed_guard rfl (fun K' hK' => ?_))); simp [h10, h0, h1, h2, h7, h8, h9, rows, ints, hlt, hx.1, hx2, hout]; repeat' (first | (with_reducible refine hK' _ _ ?_; clear hK' K') | (with_reducible refine Ret.use c6 ?_; try simp [h10, h0, h1, h2, h7, h8, h9, rows, ints, hlt, hx.1, hx2, hout]) | (with_reducible refine And.intro ?_ ?_) | (with_reducible intro hg) | (clear hK' K'; omega)))
        | (with_reducible refine w_cond (fun A B hA hB => ?_); simp [h10, h0, h1, h2, h7, h8, h9, rows, ints, hlt, hx.1, hx2, hout]; repeat' (first | (with_reducible refine hA ?_; clear hA hB A B) | (with_reducible refine hB ?_; clear hA hB A B) | (with_reducible refine And.intro ?_ ?_) | (with_reducible intro hc)))
        | (with_reducible refine awp_seq ?_))
      exact ⟨⟨k + 1, by omega, by simp, by simp [h0], by simp [h1], by simp [h2], by simp [h7], by simp [h8], by simp [h9], rfl⟩, by simp; omega⟩
    · have : k = L.length := by omega
      subst this
      repeat' (first
        | (with_reducible refine awp_skip ?_)
        | (with_reducible refine then_any ?_)
        | (with_reducible refine then_ret ?_)
        | (with_reducible refine then_exit ?_)
        | (with_reducible refine inBlock_normal ?_)
        | (with_reducible refine inBlock_ret ?_)
        | (with_reducible refine inBlock_hit ?_)
        | (with_reducible refine inBlock_miss (by decide) ?_)
        | (with_reducible refine awp_ret ?_)
        | (with_reducible refine awp_exit ?_)
        | (with_reducible refine post_ret ?_)
        | (with_reducible refine post_normal ?_)
        | (with_reducible refine awp_block ?_)
        | (with_reducible refine v_reg [] (fun K hK => ?_))
        | (with_reducible refine v_reg1 [] (fun K hK => ?_))
        | (with_reducible refine v_draw mixed [] [] (by kernel_rfl) (fun K hK => ?_))
        | (with_reducible refine v_draw1 mixed [] [] (by kernel_rfl) (fun K hK => ?_))
        | (with_reducible refine ev_nil (hK _ _ ?_); clear hK K)
        | (with_reducible refine ed_nil (hK _ _ ?_); clear hK K)
        | ((first | with_reducible refine ev_cons (fun K' hK' => ?_) | with_reducible refine ed_cons (fun K' hK' => ?_) | (with_reducible refine ev_id ?_; refine ev_guard rfl (fun K' hK' => ?_)) | (with_reducible refine ed_id ?_; refine ed_guard rfl (fun K' hK' => ?_))); simp [h10, h0, h1, h2, h7, h8, h9, rows, ints]; repeat' (first | (with_reducible refine hK' _ _ ?_; clear hK' K') | (with_reducible refine And.intro ?_ ?_) | (with_reducible intro hg) | (clear hK' K'; omega)))
        | (with_reducible refine w_cond (fun A B hA hB => ?_); simp [h10, h0, h1, h2, h7, h8, h9, rows, ints]; repeat' (first | (with_reducible refine hA ?_; clear hA hB A B) | (with_reducible refine hB ?_; clear hA hB A B) | (with_reducible refine And.intro ?_ ?_) | (with_reducible intro hc)))
        | (with_reducible refine awp_seq ?_))
      refine awp_loop (fun env h' => ∃ j : Nat, j ≤ p.length ∧ env 11 = I j ∧ env 0 = rows adj ∧ env 1 = ints fr ∧ env 2 = ints to ∧ env 8 = ints p ∧ env 9 = B true ∧ h' = h) (fun env _ => p.length - natA (env 11)) ?_ ?_
      · exact ⟨0, by omega, by simp, by simp [h0], by simp [h1], by simp [h2], by simp [h8], by simp [h9], rfl⟩
      clear h10 h0 h1 h2 h7 h8 h9
      rintro env h ⟨j, hj, h11, h0, h1, h2, h8, h9, rfl⟩
      have hnat : natA (env 11) = j := by simp [h11]
      rw [hnat]; clear hnat
      by_cases hjl : j < p.length
      · have hx := hPF.lt j hjl
        have hx2 : ¬ (adj.length : Int) ≤ p[j] := by omega
        have hx3 : ¬ p[j] < 0 := by omega
        have g1 := has2_ret (w0 := w0) (l := fr) (x := p[j]) hof
        have g2 := has2_ret (w0 := w0) (l := to) (x := p[j]) hot
        rw [rf] at g1
        rw [rt] at g2
        have hlj : ((j : Int) < (p.length : Int) - 1) = (j + 1 < p.length) := by simp; omega
        by_cases hj0 : j = 0
        · subst hj0
          by_cases hl1 : 0 + 1 < p.length
          · have hn2 := hPF.noto 0 hjl hl1
            repeat' (first
              | (with_reducible refine awp_skip ?_)
              | (with_reducible refine then_any ?_)
              | (with_reducible refine then_ret ?_)
              | (with_reducible refine then_exit ?_)
              | (with_reducible refine inBlock_normal ?_)
              | (with_reducible refine inBlock_ret ?_)
              | (with_reducible refine inBlock_hit ?_)
              | (with_reducible refine inBlock_miss (by decide) ?_)
              | (with_reducible refine awp_ret ?_)
              | (with_reducible refine awp_exit ?_)
              | (with_reducible refine post_ret ?_)
              | (with_reducible refine post_normal ?_)
              | (with_reducible refine awp_block ?_)
              | (with_reducible refine v_reg [] (fun K hK => ?_))
              | (with_reducible refine v_reg1 [] (fun K hK => ?_))
              | (with_reducible refine v_draw mixed [] [] (by kernel_rfl) (fun K hK => ?_))
              | (with_reducible refine v_draw1 mixed [] [] (by kernel_rfl) (fun K hK => ?_))
              | (with_reducible refine ev_nil (hK _ _ ?_); clear hK K)
              | (with_reducible refine ed_nil (hK _ _ ?_); clear hK K)
              | ((first | with_reducible refine ev_cons (fun K' hK' => ?_) | with_reducible refine ed_cons (fun K' hK' => ?_) | (with_reducible refine ev_id ?_; refine ev_guard rfl (fun K' hK' => ?_)) | (with_reducible refine ed_id ?_; refine ed_guard rfl (fun K' hK' => ?_))); simp [h11, h0, h1, h2, h8, h9, rows, ints, hjl, hx.1, hx2, hx3, hlj, hl1, hn2]; repeat' (first | (with_reducible refine hK' _ _ ?_; clear hK' K') | (with_reducible refine Ret.use g2 ?_; try simp [h11, h0, h1, h2, h8, h9, rows, ints, hjl, hx.1, hx2, hx3, hlj, hl1, hn2]) | (with_reducible refine And.intro ?_ ?_) | (with_reducible intro hg) | (clear hK' K'; omega)))
              | (with_reducible refine w_cond (fun A B hA hB => ?_); simp [h11, h0, h1, h2, h8, h9, rows, ints, hjl, hx.1, hx2, hx3, hlj, hl1, hn2]; repeat' (first | (with_reducible refine hA ?_; clear hA hB A B) | (with_reducible refine hB ?_; clear hA hB A B) | (with_reducible refine And.intro ?_ ?_) | (with_reducible intro hc)))
              | (with_reducible refine awp_seq ?_))
            all_goals first | (exfalso; omega) | exact ⟨⟨1, by omega, by simp, by simp [h0], by simp [h1], by simp [h2], by simp [h8], by simp [h9], rfl⟩, by simp; omega⟩
          · repeat' (first
              | (with_reducible refine awp_skip ?_)
              | (with_reducible refine then_any ?_)
              | (with_reducible refine then_ret ?_)
              | (with_reducible refine then_exit ?_)
              | (with_reducible refine inBlock_normal ?_)
              | (with_reducible refine inBlock_ret ?_)
              | (with_reducible refine inBlock_hit ?_)
              | (with_reducible refine inBlock_miss (by decide) ?_)
              | (with_reducible refine awp_ret ?_)
              | (with_reducible refine awp_exit ?_)
              | (with_reducible refine post_ret ?_)
              | (with_reducible refine post_normal ?_)
              | (with_reducible refine awp_block ?_)
              | (with_reducible refine v_reg [] (fun K hK => ?_))
              | (with_reducible refine v_reg1 [] (fun K hK => ?_))
              | (with_reducible refine v_draw mixed [] [] (by kernel_rfl) (fun K hK => ?_))
              | (with_reducible refine v_draw1 mixed [] [] (by kernel_rfl) (fun K hK => ?_))
              | (with_reducible refine ev_nil (hK _ _ ?_); clear hK K)
              | (with_reducible refine ed_nil (hK _ _ ?_); clear hK K)
              | ((first | with_reducible refine ev_cons (fun K' hK' => ?_) | with_reducible refine ed_cons (fun K' hK' => ?_) | (with_reducible refine ev_id ?_; refine ev_guard rfl (fun K' hK' => ?_)) | (with_reducible refine ed_id ?_; refine ed_guard rfl (fun K' hK' => ?_))); simp [h11, h0, h1, h2, h8, h9, rows, ints, hjl, hx.1, hx2, hx3, hlj, hl1]; repeat' (first | (with_reducible refine hK' _ _ ?_; clear hK' K') | (with_reducible refine Ret.use g2 ?_; try simp [h11, h0, h1, h2, h8, h9, rows, ints, hjl, hx.1, hx2, hx3, hlj, hl1]) | (with_reducible refine And.intro ?_ ?_) | (with_reducible intro hg) | (clear hK' K'; omega)))
              | (with_reducible refine w_cond (fun A B hA hB => ?_); simp [h11, h0, h1, h2, h8, h9, rows, ints, hjl, hx.1, hx2, hx3, hlj, hl1]; repeat' (first | (with_reducible refine hA ?_; clear hA hB A B) | (with_reducible refine hB ?_; clear hA hB A B) | (with_reducible refine And.intro ?_ ?_) | (with_reducible intro hc)))
              | (with_reducible refine awp_seq ?_))
            all_goals first | (exfalso; omega) | exact ⟨⟨1, by omega, by simp, by simp [h0], by simp [h1], by simp [h2], by simp [h8], by simp [h9], rfl⟩, by simp; omega⟩
        · obtain ⟨q, rfl⟩ : ∃ q, j = q + 1 := ⟨j - 1, by omega⟩
          have hq := hPF.lt q (by omega)
          have hqn : p[q].toNat < adj.length := by omega
          have hout : ∀ h : p[q].toNat < adj.length, adj[p[q].toNat]'h = out adj p[q] := fun h => (out_eq h).symm
          have harc := hPF.arc q hjl
          have hqo := out_pts hG p[q]
          have hql := hqo.length
          have g3 := has2_ret (w0 := w0) (l := out adj p[q]) (x := p[q + 1]) (by omega)
          rw [rises_iff.2 hqo.set, decide_eq_true harc] at g3
          have hnf := hPF.nofr (q + 1) hjl (by omega)
          rw [decide_eq_false hnf] at g1
          have hjq : q < p.length := by omega
          by_cases hl1 : q + 1 + 1 < p.length
          · have hn2 := hPF.noto (q + 1) hjl hl1
            rw [decide_eq_false hn2] at g2
            repeat' (first
              | (with_reducible refine awp_skip ?_)
              | (with_reducible refine then_any ?_)
              | (with_reducible refine then_ret ?_)
              | (with_reducible refine then_exit ?_)
              | (with_reducible refine inBlock_normal ?_)
              | (with_reducible refine inBlock_ret ?_)
              | (with_reducible refine inBlock_hit ?_)
              | (with_reducible refine inBlock_miss (by decide) ?_)
              | (with_reducible refine awp_ret ?_)
              | (with_reducible refine awp_exit ?_)
              | (with_reducible refine post_ret ?_)
              | (with_reducible refine post_normal ?_)
              | (with_reducible refine awp_block ?_)
              | (with_reducible refine v_reg [] (fun K hK => ?_))
              | (with_reducible refine v_reg1 [] (fun K hK => ?_))
              | (with_reducible refine v_draw mixed [] [] (by kernel_rfl) (fun K hK => ?_))
              | (with_reducible refine v_draw1 mixed [] [] (by kernel_rfl) (fun K hK => ?_))
              | (with_reducible refine ev_nil (hK _ _ ?_); clear hK K)
              | (with_reducible refine ed_nil (hK _ _ ?_); clear hK K)
              | ((first | with_reducible refine ev_cons (fun K' hK' => ?_) | with_reducible refine ed_cons (fun K' hK' => ?_) | (with_reducible refine ev_id ?_; refine ev_guard rfl (fun K' hK' => ?_)) | (with_reducible refine ed_id ?_; refine ed_guard rfl (fun K' hK' => ?_))); simp [h11, h0, h1, h2, h8, h9, rows, ints, hjl, hx.1, hx2, hx3, hlj, hl1, hq.1, hqn, hout, hjq]; repeat' (first | (with_reducible refine hK' _ _ ?_; clear hK' K') | (with_reducible refine Ret.use g3 ?_; try simp [h11, h0, h1, h2, h8, h9, rows, ints, hjl, hx.1, hx2, hx3, hlj, hl1, hq.1, hqn, hout, hjq]) | (with_reducible refine Ret.use g1 ?_; try simp [h11, h0, h1, h2, h8, h9, rows, ints, hjl, hx.1, hx2, hx3, hlj, hl1, hq.1, hqn, hout, hjq]) | (with_reducible refine Ret.use g2 ?_; try simp [h11, h0, h1, h2, h8, h9, rows, ints, hjl, hx.1, hx2, hx3, hlj, hl1, hq.1, hqn, hout, hjq]) | (with_reducible refine And.intro ?_ ?_) | (with_reducible intro hg) | (clear hK' K'; omega)))
              | (with_reducible refine w_cond (fun A B hA hB => ?_); simp [h11, h0, h1, h2, h8, h9, rows, ints, hjl, hx.1, hx2, hx3, hlj, hl1, hq.1, hqn, hout, hjq]; repeat' (first | (with_reducible refine hA ?_; clear hA hB A B) | (with_reducible refine hB ?_; clear hA hB A B) | (with_reducible refine And.intro ?_ ?_) | (with_reducible intro hc)))
              | (with_reducible refine awp_seq ?_))
            all_goals first | (exfalso; omega) | exact ⟨⟨q + 1 + 1, by omega, by simp, by simp [h0], by simp [h1], by simp [h2], by simp [h8], by simp [h9], rfl⟩, by simp; omega⟩
          · repeat' (first
              | (with_reducible refine awp_skip ?_)
              | (with_reducible refine then_any ?_)
              | (with_reducible refine then_ret ?_)
              | (with_reducible refine then_exit ?_)
              | (with_reducible refine inBlock_normal ?_)
              | (with_reducible refine inBlock_ret ?_)
              | (with_reducible refine inBlock_hit ?_)
              | (with_reducible refine inBlock_miss (by decide) ?_)
              | (with_reducible refine awp_ret ?_)
              | (with_reducible refine awp_exit ?_)
              | (with_reducible refine post_ret ?_)
              | (with_reducible refine post_normal ?_)
              | (with_reducible refine awp_block ?_)
              | (with_reducible refine v_reg [] (fun K hK => ?_))
              | (with_reducible refine v_reg1 [] (fun K hK => ?_))
              | (with_reducible refine v_draw mixed [] [] (by kernel_rfl) (fun K hK => ?_))
              | (with_reducible refine v_draw1 mixed [] [] (by kernel_rfl) (fun K hK => ?_))
              | (with_reducible refine ev_nil (hK _ _ ?_); clear hK K)
              | (with_reducible refine ed_nil (hK _ _ ?_); clear hK K)
              | ((first | with_reducible refine ev_cons (fun K' hK' => ?_) | with_reducible refine ed_cons (fun K' hK' => ?_) | (with_reducible refine ev_id ?_; refine ev_guard rfl (fun K' hK' => ?_)) | (with_reducible refine ed_id ?_; refine ed_guard rfl (fun K' hK' => ?_))); simp [h11, h0, h1, h2, h8, h9, rows, ints, hjl, hx.1, hx2, hx3, hlj, hl1, hq.1, hqn, hout, hjq]; repeat' (first | (with_reducible refine hK' _ _ ?_; clear hK' K') | (with_reducible refine Ret.use g3 ?_; try simp [h11, h0, h1, h2, h8, h9, rows, ints, hjl, hx.1, hx2, hx3, hlj, hl1, hq.1, hqn, hout, hjq]) | (with_reducible refine Ret.use g1 ?_; try simp [h11, h0, h1, h2, h8, h9, rows, ints, hjl, hx.1, hx2, hx3, hlj, hl1, hq.1, hqn, hout, hjq]) | (with_reducible refine Ret.use g2 ?_; try simp [h11, h0, h1, h2, h8, h9, rows, ints, hjl, hx.1, hx2, hx3, hlj, hl1, hq.1, hqn, hout, hjq]) | (with_reducible refine And.intro ?_ ?_) | (with_reducible intro hg) | (clear hK' K'; omega)))
              | (with_reducible refine w_cond (fun A B hA hB => ?_); simp [h11, h0, h1, h2, h8, h9, rows, ints, hjl, hx.1, hx2, hx3, hlj, hl1, hq.1, hqn, hout, hjq]; repeat' (first | (with_reducible refine hA ?_; clear hA hB A B) | (with_reducible refine hB ?_; clear hA hB A B) | (with_reducible refine And.intro ?_ ?_) | (with_reducible intro hc)))
              | (with_reducible refine awp_seq ?_))
            all_goals first | (exfalso; omega) | exact ⟨⟨q + 1 + 1, by omega, by simp, by simp [h0], by simp [h1], by simp [h2], by simp [h8], by simp [h9], rfl⟩, by simp; omega⟩
      · have : j = p.length := by omega
        subst this
        have hf1 := hPF.first hp1
        have hl1 : p.length - 1 < p.length := by omega
        have hf2 := hPF.last hl1
        have g1 := has2_ret (w0 := w0) (l := fr) (x := p[0]) hof
        have g2 := has2_ret (w0 := w0) (l := to) (x := p[p.length - 1]) hot
        rw [rf] at g1
        rw [rt] at g2
        have hi : ((p.length : Int) - 1).toNat = p.length - 1 := by omega
        have hi0 : (0 : Int) ≤ (p.length : Int) - 1 := by omega
        repeat' (first
          | (with_reducible refine awp_skip ?_)
          | (with_reducible refine then_any ?_)
          | (with_reducible refine then_ret ?_)
          | (with_reducible refine then_exit ?_)
          | (with_reducible refine inBlock_normal ?_)
          | (with_reducible refine inBlock_ret ?_)
          | (with_reducible refine inBlock_hit ?_)
          | (with_reducible refine inBlock_miss (by decide) ?_)
          | (with_reducible refine awp_ret ?_)
          | (with_reducible refine awp_exit ?_)
          | (with_reducible refine post_ret ?_)
          | (with_reducible refine post_normal ?_)
          | (with_reducible refine awp_block ?_)
          | (with_reducible refine v_reg [] (fun K hK => ?_))
          | (with_reducible refine v_reg1 [] (fun K hK => ?_))
          | (with_reducible refine v_draw mixed [] [] (by kernel_rfl) (fun K hK => ?_))
          | (with_reducible refine v_draw1 mixed [] [] (by kernel_rfl) (fun K hK => ?_))
          | (with_reducible refine ev_nil (hK _ _ ?_); clear hK K)
          | (with_reducible refine ed_nil (hK _ _ ?_); clear hK K)
          | ((first | with_reducible refine ev_cons (fun K' hK' => ?_) | with_reducible refine ed_cons (fun K' hK' => ?_) | (with_reducible refine ev_id ?_; refine ev_guard rfl (fun K' hK' => ?_)) | (with_reducible refine ed_id ?_; refine ed_guard rfl (fun K' hK' => ?_))); simp [h11, h0, h1, h2, h8, h9, rows, ints, hp1, hi, hi0, hl1, hf1, hf2]; repeat' (first | (with_reducible refine hK' _ _ ?_; clear hK' K') | (with_reducible refine Ret.use g1 ?_; try simp [h11, h0, h1, h2, h8, h9, rows, ints, hp1, hi, hi0, hl1, hf1, hf2]) | (with_reducible refine Ret.use g2 ?_; try simp [h11, h0, h1, h2, h8, h9, rows, ints, hp1, hi, hi0, hl1, hf1, hf2]) | (with_reducible refine And.intro ?_ ?_) | (with_reducible intro hg) | (clear hK' K'; omega)))
          | (with_reducible refine w_cond (fun A B hA hB => ?_); simp [h11, h0, h1, h2, h8, h9, rows, ints, hp1, hi, hi0, hl1, hf1, hf2]; repeat' (first | (with_reducible refine hA ?_; clear hA hB A B) | (with_reducible refine hB ?_; clear hA hB A B) | (with_reducible refine And.intro ?_ ?_) | (with_reducible intro hc)))
          | (with_reducible refine awp_seq ?_))
        all_goals first | omega | simp
end Go.Am
