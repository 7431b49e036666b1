/- Contracts: the reference's least cut, Flow, Enough. -/
import Derived.Test.YtkgcmgbndapjcaaW56
namespace Go.Am
open Go Go.Proofs
set_option linter.unusedVariables false
set_option linter.unusedSimpArgs false
variable {w0 : World}
attribute [local irreducible] AWP ACalls
attribute [local congr] acalls_congr

/-- Does a number's set have v, and not the root? -/
def okM (b : Nat) (root v : Int) : Bool := b.testBit v.toNat && !b.testBit root.toNat
/-- Up to a number of subsets. -/
structure LeastI (arcs : List (Int × Int)) (n : Nat) (root v : Int) (units : Nat) (s : List Int) (b best : Nat) (out : List Int) : Prop where
  pts : Pts n out
  le : best ≤ arcs.length + 1
  st : (best = units ∧ (∀ x ∈ out, x ∈ s) ∧ ∀ b', b' < b → okM b' root v = true → (entA arcs no0 (subL n b')).length = units → ∀ x ∈ subL n b', x ∈ out) ∨
    units < best ∧ ∀ b', b' < b → okM b' root v = true → (entA arcs no0 (subL n b')).length ≠ units

section
variable {arcs : List (Int × Int)} {n : Nat} {root v : Int} {units b best : Nat} {s out : List Int}
theorem LeastI.start (h : FlowAns arcs n no0 root v units s) : LeastI arcs n root v units s 0 (arcs.length + 1) [] :=
  ⟨.nil, Nat.le_refl _, .inr ⟨by have := flow_le h; omega, fun b' hb => by omega⟩⟩
theorem okM_facts (N : NetA n arcs root) (hv : 0 ≤ v ∧ v < n) (ho : okM b root v = true) : (fun u => decide (u ∈ subL n b)) root = false ∧ (fun u => decide (u ∈ subL n b)) v = true := by
  simp only [okM, Bool.and_eq_true, Bool.not_eq_true'] at ho
  constructor
  · have : root ∉ subL n b := fun h => by have := (mem_subL.1 h).2; rw [ho.2] at this; cases this
    simpa using this
  · have : v ∈ subL n b := mem_subL.2 ⟨hv, ho.1⟩
    simpa using this
theorem ok_ge (N : NetA n arcs root) (hv : 0 ≤ v ∧ v < n) (h : FlowAns arcs n no0 root v units s) (ho : okM b root v = true) : units ≤ (entA arcs no0 (subL n b)).length := by
  obtain ⟨h1, h2⟩ := okM_facts N hv ho
  rw [entA_len]
  exact h.least _ h1 h2
theorem ok_sub (N : NetA n arcs root) (hv : 0 ≤ v ∧ v < n) (h : FlowAns arcs n no0 root v units s) (ho : okM b root v = true) (he : (entA arcs no0 (subL n b)).length = units) : ∀ x ∈ subL n b, x ∈ s := by
  obtain ⟨h1, h2⟩ := okM_facts N hv ho
  rw [entA_len] at he
  intro x hx
  obtain ⟨a, c⟩ := (mem_subL.1 hx).1
  exact h.all _ h1 h2 he x a c (by simpa using hx)
theorem LeastI.skip (h : LeastI arcs n root v units s b best out) (ho : okM b root v = false) : LeastI arcs n root v units s (b + 1) best out := by
  refine ⟨h.pts, h.le, ?_⟩
  have key : ∀ b', b' < b + 1 → okM b' root v = true → b' < b := fun b' h1 h2 => by
    by_cases e : b' = b
    · subst e; rw [ho] at h2; cases h2
    · omega
  rcases h.st with ⟨a, c, d⟩ | ⟨a, c⟩
  · exact .inl ⟨a, c, fun b' h1 h2 => d b' (key b' h1 h2) h2⟩
  · exact .inr ⟨a, fun b' h1 h2 => c b' (key b' h1 h2) h2⟩
theorem LeastI.less (N : NetA n arcs root) (hv : 0 ≤ v ∧ v < n) (hF : FlowAns arcs n no0 root v units s) (h : LeastI arcs n root v units s b best out) (ho : okM b root v = true) (hk : (entA arcs no0 (subL n b)).length < best) :
    LeastI arcs n root v units s (b + 1) (entA arcs no0 (subL n b)).length (subL n b) := by
  have hge := ok_ge N hv hF ho
  refine ⟨subL_pts (by have := N.nle; omega) b, by have := h.le; omega, ?_⟩
  rcases h.st with ⟨a, c, d⟩ | ⟨a, c⟩
  · omega
  · by_cases e : (entA arcs no0 (subL n b)).length = units
    · refine .inl ⟨e, ok_sub N hv hF ho e, fun b' h1 h2 h3 => ?_⟩
      by_cases e' : b' = b
      · subst e'; exact fun x hx => hx
      · exact absurd h3 (c b' (by omega) h2)
    · refine .inr ⟨by omega, fun b' h1 h2 h3 => ?_⟩
      by_cases e' : b' = b
      · subst e'; exact e h3
      · exact c b' (by omega) h2 h3
theorem LeastI.same (N : NetA n arcs root) (hv : 0 ≤ v ∧ v < n) (hF : FlowAns arcs n no0 root v units s) (h : LeastI arcs n root v units s b best out) (ho : okM b root v = true) (hk : (entA arcs no0 (subL n b)).length = best) :
    LeastI arcs n root v units s (b + 1) best (unionR out (subL n b)) := by
  have hp := subL_pts (n := n) (by have := N.nle; omega) b
  have hm := (unionR_spec h.pts.set hp.set).2
  refine ⟨h.pts.union hp, h.le, ?_⟩
  rcases h.st with ⟨a, c, d⟩ | ⟨a, c⟩
  · refine .inl ⟨a, fun x hx => ?_, fun b' h1 h2 h3 x hx => ?_⟩
    · rcases (hm x).1 hx with hx | hx
      · exact c x hx
      · exact ok_sub N hv hF ho (by omega) x hx
    · rw [hm]
      by_cases e' : b' = b
      · subst e'; exact .inr hx
      · exact .inl (d b' (by omega) h2 h3 x hx)
  · refine .inr ⟨a, fun b' h1 h2 h3 => ?_⟩
    by_cases e' : b' = b
    · subst e'; omega
    · exact c b' (by omega) h2 h3
theorem LeastI.more (N : NetA n arcs root) (hv : 0 ≤ v ∧ v < n) (hF : FlowAns arcs n no0 root v units s) (h : LeastI arcs n root v units s b best out) (ho : okM b root v = true) (hk : best < (entA arcs no0 (subL n b)).length) :
    LeastI arcs n root v units s (b + 1) best out := by
  refine ⟨h.pts, h.le, ?_⟩
  rcases h.st with ⟨a, c, d⟩ | ⟨a, c⟩
  · refine .inl ⟨a, c, fun b' h1 h2 h3 => ?_⟩
    by_cases e' : b' = b
    · subst e'; omega
    · exact d b' (by omega) h2 h3
  · refine .inr ⟨a, fun b' h1 h2 h3 => ?_⟩
    by_cases e' : b' = b
    · subst e'; omega
    · exact c b' (by omega) h2 h3
theorem LeastI.fin (N : NetA n arcs root) (hv : 0 ≤ v ∧ v < n) (hF : FlowAns arcs n no0 root v units s) (h : LeastI arcs n root v units s (2 ^ n) best out) : best = units ∧ out = s := by
  obtain ⟨b, hb, hs⟩ := subL_of hF.up hF.rng
  have ho : okM b root v = true := by
    have h1 := hF.has
    have h2 := hF.nroot
    rw [← hs, mem_subL] at h1 h2
    simp only [okM, Bool.and_eq_true, Bool.not_eq_true']
    refine ⟨h1.2, ?_⟩
    cases e : b.testBit root.toNat
    · rfl
    · exact absurd ⟨N.root, e⟩ h2
  have he : (entA arcs no0 (subL n b)).length = units := by rw [entA_len, hs]; exact hF.is
  rcases h.st with ⟨a, c, d⟩ | ⟨a, c⟩
  · refine ⟨a, up_ext h.pts.set.up hF.up fun x => ⟨c x, fun hx => ?_⟩⟩
    exact d b hb ho he x (by rw [hs]; exact hx)
  · exact absurd he (c b hb ho)
end

set_option maxHeartbeats 1000000 in
theorem least20_ret {n units : Nat} {arcs : List (Int × Int)} {root v : Int} {s : List Int} (N : NetA n arcs root) (hn : n ≤ 30) (hv : 0 ≤ v ∧ v < n) (hF : FlowAns arcs n no0 root v units s) :
    Ret Try.prog w0 40 [I n, pairs arcs, I root, I v] (.tup [I units, ints s]) := by
  intro H
  have hm := N.mle
  have hr := N.root
  have hmin : min n 64 = n := by omega
  have hpow : (2 : Int) ^ n = ((2 ^ n : Nat) : Int) := by simp
  have hp30 : 2 ^ n ≤ 1073741824 := Nat.le_trans (Nat.pow_le_pow_right (by omega) hn) (by decide)
  refine w_enter Try.func40 rfl Try.ntmps40 (ts := [8, 9]) rfl (by simp) (by kernel_rfl) ?_
  repeat' (first
    | (with_reducible refine awp_skip ?_)
    | (with_reducible refine then_any ?_)
    | (with_reducible refine then_ret ?_)
    | (with_reducible refine then_exit ?_)
    | (with_reducible refine inBlock_normal ?_)
    | (with_reducible refine inBlock_ret ?_)
    | (with_reducible refine inBlock_hit ?_)
    | (with_reducible refine inBlock_miss (by decide) ?_)
    | (with_reducible refine awp_ret ?_)
    | (with_reducible refine awp_exit ?_)
    | (with_reducible refine post_ret ?_)
    | (with_reducible refine post_normal ?_)
    | (with_reducible refine awp_block ?_)
    | (with_reducible refine v_reg [] (fun K hK => ?_))
    | (with_reducible refine v_reg1 [] (fun K hK => ?_))
    | (with_reducible refine v_draw mixed [] [] (by kernel_rfl) (fun K hK => ?_))
    | (with_reducible refine v_draw1 mixed [] [] (by kernel_rfl) (fun K hK => ?_))
    | (with_reducible refine ev_nil (hK _ _ ?_); clear hK K)
    | (with_reducible refine ed_nil (hK _ _ ?_); clear hK K)
    | ((first | with_reducible refine ev_cons (fun K' hK' => ?_) | with_reducible refine ed_cons (fun K' hK' => ?_) | (with_reducible refine ev_id ?_; refine ev_guard rfl (fun K' hK' => ?_)) | (with_reducible refine ed_id ?_; refine ed_guard rfl (fun K' hK' => ?_))); simp [pairs]; repeat' (first | (with_reducible refine hK' _ _ ?_; clear hK' K') | (with_reducible refine And.intro ?_ ?_) | (with_reducible intro hg) | (clear hK' K'; omega)))
    | (with_reducible refine w_cond (fun A B hA hB => ?_); simp [pairs]; repeat' (first | (with_reducible refine hA ?_; clear hA hB A B) | (with_reducible refine hB ?_; clear hA hB A B) | (with_reducible refine And.intro ?_ ?_) | (with_reducible intro hc)))
    | (with_reducible refine awp_seq ?_))
  have hfin := fun best out => LeastI.fin (best := best) (out := out) N hv hF
  generalize hN : 2 ^ n = M at *
  refine awp_loop (fun env h => ∃ (b best : Nat) (out : List Int), b ≤ M ∧ LeastI arcs n root v units s b best out ∧ env 12 = I b ∧ env 10 = I best ∧ env 11 = ints out ∧ env 0 = I n ∧ env 1 = pairs arcs ∧ env 2 = I root ∧ env 3 = I v ∧ h = H) (fun env _ => M - natA (env 12)) ?_ ?_
  · exact ⟨0, _, _, by omega, .start hF, by simp, by simp, by simp [ints], by simp, by simp [pairs], by simp, by simp, rfl⟩
  rintro env h ⟨b, best, out, hb, hI, h12, h10, h11, h0, h1, h2, h3, rfl⟩
  have hnat : natA (env 12) = b := by simp [h12]
  rw [hnat]; clear hnat
  by_cases hlt : b < M
  · have hv1 : min v.toNat 64 = v.toNat := by omega
    have hr1 : min root.toNat 64 = root.toNat := by omega
    have fd1 := bit_fdiv b v.toNat
    have fd2 := bit_fdiv b root.toNat
    have an1 := bit_and (s := b) (q := v.toNat) (by omega)
    have an2 := bit_and (s := b) (q := root.toNat) (by omega)
    have hsub := subset_ret (w0 := w0) (n := n) (bits := b) (by omega) (by omega)
    have hps := subL_pts (n := n) (by omega) b
    have hlen := hps.length
    have hol := hI.pts.length
    have hent := enters19_ret (w0 := w0) (arcs := arcs) (s := subL n b) (by simp only [smLen]; omega) (by simp only [okLen]; omega)
    have hun := union2_ret (w0 := w0) (a := out) (b := subL n b) (by simp only [smLen, List.length_append]; omega)
    simp only [ints] at hsub hent hun
    by_cases ho : okM b root v = true
    · have ho' := ho
      simp only [okM, Bool.and_eq_true, Bool.not_eq_true'] at ho'
      rw [ho'.1] at an1
      rw [ho'.2] at an2
      simp only [Bool.false_eq_true, if_false, if_true] at an1 an2
      rcases Nat.lt_trichotomy (entA arcs no0 (subL n b)).length best with hk | hk | hk
      · have hI2 := hI.less N hv hF ho hk
        repeat' (first
          | (with_reducible refine awp_skip ?_)
          | (with_reducible refine then_any ?_)
          | (with_reducible refine then_ret ?_)
          | (with_reducible refine then_exit ?_)
          | (with_reducible refine inBlock_normal ?_)
          | (with_reducible refine inBlock_ret ?_)
          | (with_reducible refine inBlock_hit ?_)
          | (with_reducible refine inBlock_miss (by decide) ?_)
          | (with_reducible refine awp_ret ?_)
          | (with_reducible refine awp_exit ?_)
          | (with_reducible refine post_ret ?_)
          | (with_reducible refine post_normal ?_)
          | (with_reducible refine awp_block ?_)
          | (with_reducible refine v_reg [] (fun K hK => ?_))
          | (with_reducible refine v_reg1 [] (fun K hK => ?_))
          | (with_reducible refine v_draw mixed [] [] (by kernel_rfl) (fun K hK => ?_))
          | (with_reducible refine v_draw1 mixed [] [] (by kernel_rfl) (fun K hK => ?_))
          | (with_reducible refine ev_nil (hK _ _ ?_); clear hK K)
          | (with_reducible refine ed_nil (hK _ _ ?_); clear hK K)
          | ((first | with_reducible refine ev_cons (fun K' hK' => ?_) | with_reducible refine ed_cons (fun K' hK' => ?_) | (with_reducible refine ev_id ?_; refine ev_guard rfl (fun K' hK' => ?_)) | (with_reducible refine ed_id ?_; refine ed_guard rfl (fun K' hK' => ?_))); simp [h12, h10, h11, h0, h1, h2, h3, hlt, hmin, hpow, hN, hv1, hr1, fd1, fd2, hv.1, hr.1, hk, IntKind.bits, pairs, ints]; repeat' (first | (with_reducible refine hK' _ _ ?_; clear hK' K') | (with_reducible refine Ret.use hsub ?_; try simp [h12, h10, h11, h0, h1, h2, h3, hlt, hmin, hpow, hN, hv1, hr1, fd1, fd2, hv.1, hr.1, hk, IntKind.bits, pairs, ints]) | (with_reducible refine Ret.use hent ?_; try simp [h12, h10, h11, h0, h1, h2, h3, hlt, hmin, hpow, hN, hv1, hr1, fd1, fd2, hv.1, hr.1, hk, IntKind.bits, pairs, ints]) | (with_reducible refine Ret.use hun ?_; try simp [h12, h10, h11, h0, h1, h2, h3, hlt, hmin, hpow, hN, hv1, hr1, fd1, fd2, hv.1, hr.1, hk, IntKind.bits, pairs, ints]) | (with_reducible refine And.intro ?_ ?_) | (with_reducible intro hg) | (clear hK' K'; omega)))
          | (with_reducible refine w_cond (fun A B hA hB => ?_); simp [h12, h10, h11, h0, h1, h2, h3, hlt, hmin, hpow, hN, hv1, hr1, fd1, fd2, hv.1, hr.1, hk, IntKind.bits, pairs, ints]; repeat' (first | (with_reducible refine hA ?_; clear hA hB A B) | (with_reducible refine hB ?_; clear hA hB A B) | (with_reducible refine And.intro ?_ ?_) | (with_reducible intro hc)))
          | (with_reducible refine awp_seq ?_))
        all_goals first
          | exact absurd (an1.symm.trans hg) (by decide)
          | exact absurd (an2.symm.trans hc) (by decide)
          | exact ⟨⟨b + 1, _, _, by omega, hI2, by simp, by simp, by simp [ints], by simp [h0], by simp [h1, pairs], by simp [h2], by simp [h3], rfl⟩, by simp; omega⟩
      · have hI2 := hI.same N hv hF ho hk
        have hk1 : ¬ (entA arcs no0 (subL n b)).length < best := by omega
        repeat' (first
          | (with_reducible refine awp_skip ?_)
          | (with_reducible refine then_any ?_)
          | (with_reducible refine then_ret ?_)
          | (with_reducible refine then_exit ?_)
          | (with_reducible refine inBlock_normal ?_)
          | (with_reducible refine inBlock_ret ?_)
          | (with_reducible refine inBlock_hit ?_)
          | (with_reducible refine inBlock_miss (by decide) ?_)
          | (with_reducible refine awp_ret ?_)
          | (with_reducible refine awp_exit ?_)
          | (with_reducible refine post_ret ?_)
          | (with_reducible refine post_normal ?_)
          | (with_reducible refine awp_block ?_)
          | (with_reducible refine v_reg [] (fun K hK => ?_))
          | (with_reducible refine v_reg1 [] (fun K hK => ?_))
          | (with_reducible refine v_draw mixed [] [] (by kernel_rfl) (fun K hK => ?_))
          | (with_reducible refine v_draw1 mixed [] [] (by kernel_rfl) (fun K hK => ?_))
          | (with_reducible refine ev_nil (hK _ _ ?_); clear hK K)
          | (with_reducible refine ed_nil (hK _ _ ?_); clear hK K)
          | ((first | with_reducible refine ev_cons (fun K' hK' => ?_) | with_reducible refine ed_cons (fun K' hK' => ?_) | (with_reducible refine ev_id ?_; refine ev_guard rfl (fun K' hK' => ?_)) | (with_reducible refine ed_id ?_; refine ed_guard rfl (fun K' hK' => ?_))); simp [h12, h10, h11, h0, h1, h2, h3, hlt, hmin, hpow, hN, hv1, hr1, fd1, fd2, hv.1, hr.1, hk, IntKind.bits, pairs, ints]; repeat' (first | (with_reducible refine hK' _ _ ?_; clear hK' K') | (with_reducible refine Ret.use hsub ?_; try simp [h12, h10, h11, h0, h1, h2, h3, hlt, hmin, hpow, hN, hv1, hr1, fd1, fd2, hv.1, hr.1, hk, IntKind.bits, pairs, ints]) | (with_reducible refine Ret.use hent ?_; try simp [h12, h10, h11, h0, h1, h2, h3, hlt, hmin, hpow, hN, hv1, hr1, fd1, fd2, hv.1, hr.1, hk, IntKind.bits, pairs, ints]) | (with_reducible refine Ret.use hun ?_; try simp [h12, h10, h11, h0, h1, h2, h3, hlt, hmin, hpow, hN, hv1, hr1, fd1, fd2, hv.1, hr.1, hk, IntKind.bits, pairs, ints]) | (with_reducible refine And.intro ?_ ?_) | (with_reducible intro hg) | (clear hK' K'; omega)))
          | (with_reducible refine w_cond (fun A B hA hB => ?_); simp [h12, h10, h11, h0, h1, h2, h3, hlt, hmin, hpow, hN, hv1, hr1, fd1, fd2, hv.1, hr.1, hk, IntKind.bits, pairs, ints]; repeat' (first | (with_reducible refine hA ?_; clear hA hB A B) | (with_reducible refine hB ?_; clear hA hB A B) | (with_reducible refine And.intro ?_ ?_) | (with_reducible intro hc)))
          | (with_reducible refine awp_seq ?_))
        all_goals first
          | exact absurd (an1.symm.trans hg) (by decide)
          | exact absurd (an2.symm.trans hc) (by decide)
          | exact ⟨⟨b + 1, _, _, by omega, hI2, by simp, by simp [h10], by simp [ints], by simp [h0], by simp [h1, pairs], by simp [h2], by simp [h3], rfl⟩, by simp; omega⟩
      · have hI2 := hI.more N hv hF ho hk
        have hk1 : ¬ (entA arcs no0 (subL n b)).length < best := by omega
        have hk2 : ¬ ((entA arcs no0 (subL n b)).length : Int) = best := by omega
        repeat' (first
          | (with_reducible refine awp_skip ?_)
          | (with_reducible refine then_any ?_)
          | (with_reducible refine then_ret ?_)
          | (with_reducible refine then_exit ?_)
          | (with_reducible refine inBlock_normal ?_)
          | (with_reducible refine inBlock_ret ?_)
          | (with_reducible refine inBlock_hit ?_)
          | (with_reducible refine inBlock_miss (by decide) ?_)
          | (with_reducible refine awp_ret ?_)
          | (with_reducible refine awp_exit ?_)
          | (with_reducible refine post_ret ?_)
          | (with_reducible refine post_normal ?_)
          | (with_reducible refine awp_block ?_)
          | (with_reducible refine v_reg [] (fun K hK => ?_))
          | (with_reducible refine v_reg1 [] (fun K hK => ?_))
          | (with_reducible refine v_draw mixed [] [] (by kernel_rfl) (fun K hK => ?_))
          | (with_reducible refine v_draw1 mixed [] [] (by kernel_rfl) (fun K hK => ?_))
          | (with_reducible refine ev_nil (hK _ _ ?_); clear hK K)
          | (with_reducible refine ed_nil (hK _ _ ?_); clear hK K)
          | ((first | with_reducible refine ev_cons (fun K' hK' => ?_) | with_reducible refine ed_cons (fun K' hK' => ?_) | (with_reducible refine ev_id ?_; refine ev_guard rfl (fun K' hK' => ?_)) | (with_reducible refine ed_id ?_; refine ed_guard rfl (fun K' hK' => ?_))); simp [h12, h10, h11, h0, h1, h2, h3, hlt, hmin, hpow, hN, hv1, hr1, fd1, fd2, hv.1, hr.1, hk1, hk2, IntKind.bits, pairs, ints]; repeat' (first | (with_reducible refine hK' _ _ ?_; clear hK' K') | (with_reducible refine Ret.use hsub ?_; try simp [h12, h10, h11, h0, h1, h2, h3, hlt, hmin, hpow, hN, hv1, hr1, fd1, fd2, hv.1, hr.1, hk1, hk2, IntKind.bits, pairs, ints]) | (with_reducible refine Ret.use hent ?_; try simp [h12, h10, h11, h0, h1, h2, h3, hlt, hmin, hpow, hN, hv1, hr1, fd1, fd2, hv.1, hr.1, hk1, hk2, IntKind.bits, pairs, ints]) | (with_reducible refine Ret.use hun ?_; try simp [h12, h10, h11, h0, h1, h2, h3, hlt, hmin, hpow, hN, hv1, hr1, fd1, fd2, hv.1, hr.1, hk1, hk2, IntKind.bits, pairs, ints]) | (with_reducible refine And.intro ?_ ?_) | (with_reducible intro hg) | (clear hK' K'; omega)))
          | (with_reducible refine w_cond (fun A B hA hB => ?_); simp [h12, h10, h11, h0, h1, h2, h3, hlt, hmin, hpow, hN, hv1, hr1, fd1, fd2, hv.1, hr.1, hk1, hk2, IntKind.bits, pairs, ints]; repeat' (first | (with_reducible refine hA ?_; clear hA hB A B) | (with_reducible refine hB ?_; clear hA hB A B) | (with_reducible refine And.intro ?_ ?_) | (with_reducible intro hc)))
          | (with_reducible refine awp_seq ?_))
        all_goals first
          | exact absurd (an1.symm.trans hg) (by decide)
          | exact absurd (an2.symm.trans hc) (by decide)
          | exact ⟨⟨b + 1, _, _, by omega, hI2, by simp, by simp [h10], by simp [h11, ints], by simp [h0], by simp [h1, pairs], by simp [h2], by simp [h3], rfl⟩, by simp; omega⟩
    · have ho2 : okM b root v = false := by simpa using ho
      have hI2 := hI.skip ho2
      have hno : IntKind.i64.wrap ((BitVec.ofInt 64 ((b : Int) / 2 ^ v.toNat) &&& 1#64).toNat : Int) = 0 ∨ IntKind.i64.wrap ((BitVec.ofInt 64 ((b : Int) / 2 ^ root.toNat) &&& 1#64).toNat : Int) = 1 := by
        rw [okM, Bool.and_eq_false_iff, Bool.not_eq_false'] at ho2
        rcases ho2 with e | e
        · left; rw [an1, e]; rfl
        · right; rw [an2, e]; rfl
      repeat' (first
        | (with_reducible refine awp_skip ?_)
        | (with_reducible refine then_any ?_)
        | (with_reducible refine then_ret ?_)
        | (with_reducible refine then_exit ?_)
        | (with_reducible refine inBlock_normal ?_)
        | (with_reducible refine inBlock_ret ?_)
        | (with_reducible refine inBlock_hit ?_)
        | (with_reducible refine inBlock_miss (by decide) ?_)
        | (with_reducible refine awp_ret ?_)
        | (with_reducible refine awp_exit ?_)
        | (with_reducible refine post_ret ?_)
        | (with_reducible refine post_normal ?_)
        | (with_reducible refine awp_block ?_)
        | ((fail_if_success (with_reducible refine at_reg 6 ?_)); with_reducible refine v_reg [5] (fun K hK => ?_))
        | (with_reducible refine v_reg1 [5] (fun K hK => ?_))
        | ((fail_if_success (with_reducible refine at_reg 6 ?_)); with_reducible refine v_draw mixed [5] [] (by kernel_rfl) (fun K hK => ?_))
        | (with_reducible refine v_draw1 mixed [5] [] (by kernel_rfl) (fun K hK => ?_))
        | (with_reducible refine ev_nil (hK _ _ ?_); clear hK K)
        | (with_reducible refine ed_nil (hK _ _ ?_); clear hK K)
        | ((first | with_reducible refine ev_cons (fun K' hK' => ?_) | with_reducible refine ed_cons (fun K' hK' => ?_) | (with_reducible refine ev_id ?_; refine ev_guard rfl (fun K' hK' => ?_)) | (with_reducible refine ed_id ?_; refine ed_guard rfl (fun K' hK' => ?_))); simp [h12, h10, h11, h0, h1, h2, h3, hlt, hmin, hpow, hN, hv1, hr1, fd1, fd2, hv.1, hr.1, IntKind.bits, pairs, ints]; repeat' (first | (with_reducible refine hK' _ _ ?_; clear hK' K') | (with_reducible refine And.intro ?_ ?_) | (with_reducible intro hg) | (clear hK' K'; omega)))
        | (with_reducible refine w_cond (fun A B hA hB => ?_); simp [h12, h10, h11, h0, h1, h2, h3, hlt, hmin, hpow, hN, hv1, hr1, fd1, fd2, hv.1, hr.1, IntKind.bits, pairs, ints]; repeat' (first | (with_reducible refine hA ?_; clear hA hB A B) | (with_reducible refine hB ?_; clear hA hB A B) | (with_reducible refine And.intro ?_ ?_) | (with_reducible intro hc)))
        | ((fail_if_success (with_reducible refine at_reg 6 ?_)); with_reducible refine awp_seq ?_))
      all_goals first
        | exact ⟨⟨b + 1, _, _, by omega, hI2, by simp, by simp [h10], by simp [h11, ints], by simp [h0], by simp [h1, pairs], by simp [h2], by simp [h3], rfl⟩, by simp; omega⟩
        | exact (hno.elim (fun e => hg e) (fun e => hc e)).elim
  · have : b = M := by omega
    subst this
    obtain ⟨e1, e2⟩ := hfin _ _ hI
    repeat' (first
      | (with_reducible refine awp_skip ?_)
      | (with_reducible refine then_any ?_)
      | (with_reducible refine then_ret ?_)
      | (with_reducible refine then_exit ?_)
      | (with_reducible refine inBlock_normal ?_)
      | (with_reducible refine inBlock_ret ?_)
      | (with_reducible refine inBlock_hit ?_)
      | (with_reducible refine inBlock_miss (by decide) ?_)
      | (with_reducible refine awp_ret ?_)
      | (with_reducible refine awp_exit ?_)
      | (with_reducible refine post_ret ?_)
      | (with_reducible refine post_normal ?_)
      | (with_reducible refine awp_block ?_)
      | (with_reducible refine v_reg [] (fun K hK => ?_))
      | (with_reducible refine v_reg1 [] (fun K hK => ?_))
      | (with_reducible refine v_draw mixed [] [] (by kernel_rfl) (fun K hK => ?_))
      | (with_reducible refine v_draw1 mixed [] [] (by kernel_rfl) (fun K hK => ?_))
      | (with_reducible refine ev_nil (hK _ _ ?_); clear hK K)
      | (with_reducible refine ed_nil (hK _ _ ?_); clear hK K)
      | ((first | with_reducible refine ev_cons (fun K' hK' => ?_) | with_reducible refine ed_cons (fun K' hK' => ?_) | (with_reducible refine ev_id ?_; refine ev_guard rfl (fun K' hK' => ?_)) | (with_reducible refine ed_id ?_; refine ed_guard rfl (fun K' hK' => ?_))); simp [h12, h10, h11, h0, h1, h2, h3, hmin, hpow, hN, IntKind.bits, pairs, ints]; repeat' (first | (with_reducible refine hK' _ _ ?_; clear hK' K') | (with_reducible refine And.intro ?_ ?_) | (with_reducible intro hg) | (clear hK' K'; omega)))
      | (with_reducible refine w_cond (fun A B hA hB => ?_); simp [h12, h10, h11, h0, h1, h2, h3, hmin, hpow, hN, IntKind.bits, pairs, ints]; repeat' (first | (with_reducible refine hA ?_; clear hA hB A B) | (with_reducible refine hB ?_; clear hA hB A B) | (with_reducible refine And.intro ?_ ?_) | (with_reducible intro hc)))
      | (with_reducible refine awp_seq ?_))
    simp [e1, e2]
end Go.Am
