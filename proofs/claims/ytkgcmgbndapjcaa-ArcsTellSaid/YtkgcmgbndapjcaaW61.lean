/- Contracts: the reference's grow, Pack (arcs). -/
import Derived.Test.YtkgcmgbndapjcaaW60
import Derived.Test.YtkgcmgbndapjcaaW59
namespace Go.Am
open Go Go.Proofs
set_option linter.unusedVariables false
set_option linter.unusedSimpArgs false
variable {w0 : World}
attribute [local irreducible] AWP ACalls
attribute [local congr] acalls_congr

theorem ints_one (x : Int) : ints [x] = .sl [I x] 1 := rfl
/-- Numbers below n of which something holds. -/
def filL (n : Nat) (p : Int → Bool) : List Int := (upto n).filter p
theorem filL_pts {n : Nat} (h : n ≤ 4096) (p : Int → Bool) : Pts n (filL n p) := ⟨(isSet_upto (by omega)).filter _, fun x hx => mem_upto.1 (List.mem_filter.1 hx).1⟩
theorem mem_filL {n : Nat} {p : Int → Bool} {x : Int} : x ∈ filL n p ↔ (0 ≤ x ∧ x < n) ∧ p x = true := by rw [filL, List.mem_filter, mem_upto]
theorem filL_add {n : Nat} (h : n ≤ 4096) {p q : Int → Bool} {x : Int} (hx : 0 ≤ x ∧ x < n) (hq : ∀ y : Int, q y = true ↔ p y = true ∨ y = x) : unionR (filL n p) [x] = filL n q := by
  have h1 := unionR_spec (filL_pts h p).set (IsSet.one (x := x) (by omega))
  refine h1.1.ext (filL_pts h q).set fun y => ?_
  rw [h1.2, mem_filL, mem_filL, hq, List.mem_singleton]
  constructor
  · rintro (h | rfl)
    · exact ⟨h.1, .inl h.2⟩
    · exact ⟨hx, .inr rfl⟩
  · rintro ⟨h, h2 | h2⟩
    · exact .inl ⟨h, h2⟩
    · exact .inr h2

set_option maxHeartbeats 4000000 in
theorem grow20_ret {n others : Nat} {arcs : List (Int × Int)} {gone : List Int} {root : Int} (N : NetA n arcs root) (hn : n ≤ 30) (hg : Pts arcs.length gone) :
    Ret Try.prog w0 38 [I n, pairs arcs, ints gone, I root, I others] (ints (growL arcs n root others fun i => decide (i ∈ gone))) := by
  intro H
  have hm := N.mle
  have hrt := N.root
  have hgl := hg.length
  have hri := rises_iff.2 hg.set
  refine w_enter Try.func38 rfl Try.ntmps38 (ts := [10]) rfl (by simp) (by kernel_rfl) ?_
  repeat' (first
    | (with_reducible refine awp_skip ?_)
    | (with_reducible refine then_any ?_)
    | (with_reducible refine then_ret ?_)
    | (with_reducible refine then_exit ?_)
    | (with_reducible refine inBlock_normal ?_)
    | (with_reducible refine inBlock_ret ?_)
    | (with_reducible refine inBlock_hit ?_)
    | (with_reducible refine inBlock_miss (by decide) ?_)
    | (with_reducible refine awp_ret ?_)
    | (with_reducible refine awp_exit ?_)
    | (with_reducible refine post_ret ?_)
    | (with_reducible refine post_normal ?_)
    | (with_reducible refine awp_block ?_)
    | (with_reducible refine awp_scope_ret ?_)
    | (with_reducible refine awp_label ?_)
    | (with_reducible refine v_reg [] (fun K hK => ?_))
    | (with_reducible refine v_reg1 [] (fun K hK => ?_))
    | (with_reducible refine v_draw mixed [] [] (by kernel_rfl) (fun K hK => ?_))
    | (with_reducible refine v_draw1 mixed [] [] (by kernel_rfl) (fun K hK => ?_))
    | (with_reducible refine ev_nil (hK _ _ ?_); clear hK K)
    | (with_reducible refine ed_nil (hK _ _ ?_); clear hK K)
    | ((first | with_reducible refine ev_cons (fun K' hK' => ?_) | with_reducible refine ed_cons (fun K' hK' => ?_) | (with_reducible refine ev_id ?_; refine ev_guard rfl (fun K' hK' => ?_)) | (with_reducible refine ed_id ?_; refine ed_guard rfl (fun K' hK' => ?_))); simp [pairs, ints]; repeat' (first | (with_reducible refine hK' _ _ ?_; clear hK' K') | (with_reducible refine And.intro ?_ ?_) | (with_reducible intro hg) | (clear hK' K'; omega)))
    | (with_reducible refine w_cond (fun A B hA hB => ?_); simp [pairs, ints]; repeat' (first | (with_reducible refine hA ?_; clear hA hB A B) | (with_reducible refine hB ?_; clear hA hB A B) | (with_reducible refine And.intro ?_ ?_) | (with_reducible intro hc)))
    | (with_reducible refine awp_seq ?_))
  generalize hiter : iterG arcs n root others (fun i => decide (i ∈ gone)) = it at *
  have hfinG : finG arcs n root others (fun i => decide (i ∈ gone)) = it (n - 1) := by rw [finG, hiter]
  have hinv : ∀ j, GInv arcs n root (fun i => decide (i ∈ gone)) (it j) := fun j => by rw [← hiter]; exact .iter N _ j
  have hnext : ∀ j, it (j + 1) = stepG arcs n root others (it j) := fun j => by rw [← hiter]; rfl
  have hz : it 0 = startG root (fun i => decide (i ∈ gone)) := by rw [← hiter]; rfl
  have hn1 : 1 ≤ n := by omega
  refine awp_loop (fun env h => ∃ k : Nat, k + 1 ≤ n ∧ env 13 = I (k + 1 : Nat) ∧ env 0 = I n ∧ env 1 = pairs arcs ∧ env 2 = ints gone ∧ env 3 = I root ∧ env 4 = I others ∧
      env 11 = ints (filL n (it k).has) ∧ env 12 = ints (filL arcs.length fun i => decide (i ∈ (it k).out)) ∧ h = H) (fun env _ => n + 1 - natA (env 13)) ?_ ?_
  · refine ⟨0, by omega, by simp, by simp, by simp [pairs], by simp [ints], by simp, by simp, ?_, ?_, rfl⟩
    · have : filL n (it 0).has = [root] := up_ext (filL_pts (by omega) _).set.up (by simp) fun x => by
        rw [mem_filL, hz]
        simp only [startG, List.mem_singleton]
        constructor
        · rintro ⟨_, h2⟩
          refine Classical.byContradiction fun e => ?_
          rw [setF_ne _ _ e] at h2
          cases h2
        · rintro rfl; exact ⟨hrt, setF_same _ _ _⟩
      simp [this, ints]
    · have : filL arcs.length (fun i => decide (i ∈ (it 0).out)) = [] := by rw [hz]; simp [filL, startG]
      simp [this, ints]
  rintro env h ⟨k, hk, h13, h0, h1, h2, h3, h4, h11, h12, rfl⟩
  have hnat : natA (env 13) = k + 1 := by simp [h13]
  rw [hnat]; clear hnat
  have hI := hinv k
  have hlen := hI.len_lt
  have hol := (filL_pts (n := arcs.length) (by omega) fun i => decide (i ∈ (it k).out)).length
  have hhl := (filL_pts (n := n) (by omega) (it k).has).length
  have hop := (filL_pts (n := arcs.length) (by omega) fun i => decide (i ∈ (it k).out))
  have hhp := (filL_pts (n := n) (by omega) (it k).has)
  have hmo : ∀ x : Int, 0 ≤ x → x < arcs.length → (x ∈ filL arcs.length (fun i => decide (i ∈ (it k).out)) ↔ x ∈ (it k).out) := fun x a b => by rw [mem_filL]; simp [a, b]
  have hmh : ∀ x : Int, 0 ≤ x → x < n → (x ∈ filL n (it k).has ↔ (it k).has x = true) := fun x a b => by rw [mem_filL]; simp [a, b]
  by_cases hlt : k + 1 < n
  · have hlt' : (k : Int) + 1 < n := by omega
    have hsI := hnext k
    generalize hs : it k = s at *
    repeat' (first
      | (with_reducible refine awp_skip ?_)
      | (with_reducible refine then_any ?_)
      | (with_reducible refine then_ret ?_)
      | (with_reducible refine then_exit ?_)
      | (with_reducible refine inBlock_normal ?_)
      | (with_reducible refine inBlock_ret ?_)
      | (with_reducible refine inBlock_hit ?_)
      | (with_reducible refine inBlock_miss (by decide) ?_)
      | (with_reducible refine awp_ret ?_)
      | (with_reducible refine awp_exit ?_)
      | (with_reducible refine post_ret ?_)
      | (with_reducible refine post_normal ?_)
      | (with_reducible refine awp_block ?_)
      | (with_reducible refine awp_scope_ret ?_)
      | (with_reducible refine awp_label ?_)
      | (with_reducible refine v_reg [] (fun K hK => ?_))
      | (with_reducible refine v_reg1 [] (fun K hK => ?_))
      | (with_reducible refine v_draw mixed [] [] (by kernel_rfl) (fun K hK => ?_))
      | (with_reducible refine v_draw1 mixed [] [] (by kernel_rfl) (fun K hK => ?_))
      | (with_reducible refine ev_nil (hK _ _ ?_); clear hK K)
      | (with_reducible refine ed_nil (hK _ _ ?_); clear hK K)
      | ((first | with_reducible refine ev_cons (fun K' hK' => ?_) | with_reducible refine ed_cons (fun K' hK' => ?_) | (with_reducible refine ev_id ?_; refine ev_guard rfl (fun K' hK' => ?_)) | (with_reducible refine ed_id ?_; refine ed_guard rfl (fun K' hK' => ?_))); simp [h13, h0, h1, h2, h3, h4, h11, h12, hlt']; repeat' (first | (with_reducible refine hK' _ _ ?_; clear hK' K') | (with_reducible refine And.intro ?_ ?_) | (with_reducible intro hg) | (clear hK' K'; omega)))
      | (with_reducible refine w_cond (fun A B hA hB => ?_); simp [h13, h0, h1, h2, h3, h4, h11, h12, hlt']; repeat' (first | (with_reducible refine hA ?_; clear hA hB A B) | (with_reducible refine hB ?_; clear hA hB A B) | (with_reducible refine And.intro ?_ ?_) | (with_reducible intro hc)))
      | (with_reducible refine awp_seq ?_))
    refine awp_loop (fun env h' => ∃ i : Nat, i ≤ arcs.length ∧ (∀ q : Int, 0 ≤ q → q < i → okG arcs n root others s q = false) ∧ env 14 = I i ∧ env 13 = I (k + 1 : Nat) ∧ env 0 = I n ∧ env 1 = pairs arcs ∧ env 2 = ints gone ∧ env 3 = I root ∧ env 4 = I others ∧
      env 11 = ints (filL n s.has) ∧ env 12 = ints (filL arcs.length fun i => decide (i ∈ s.out)) ∧ h' = h) (fun env _ => arcs.length - natA (env 14)) ?_ ?_
    · exact ⟨0, by omega, fun q a b => by omega, by simp, by simp [h13], by simp [h0], by simp [h1], by simp [h2], by simp [h3], by simp [h4], by simp [h11], by simp [h12], rfl⟩
    clear h13 h0 h1 h2 h3 h4 h11 h12
    rintro env h ⟨i, hi, hno, h14, h13, h0, h1, h2, h3, h4, h11, h12, rfl⟩
    have hnat : natA (env 14) = i := by simp [h14]
    rw [hnat]; clear hnat
    by_cases hil : i < arcs.length
    · have hp := pairs_at hil
      rw [tlA_get hil, hdA_get hil] at hp
      obtain ⟨⟨t0, tn⟩, ⟨q0, qn⟩⟩ := N.ends i (by omega) (by omega)
      have hu1 := (unionR_spec hg.set hop.set)
      have hl1 : (unionR gone (filL arcs.length fun i => decide (i ∈ s.out))).length ≤ arcs.length := (hg.union hop).length
      have hone : IsSet [(i : Int)] := IsSet.one (by omega)
      have hu2 := (unionR_spec hu1.1 hone)
      have hl2 : (unionR (unionR gone (filL arcs.length fun i => decide (i ∈ s.out))) [(i : Int)]).length ≤ arcs.length := ((hg.union hop).union ⟨hone, by simp; omega⟩).length
      have c1 := union2_ret (w0 := w0) (a := gone) (b := filL arcs.length fun i => decide (i ∈ s.out)) (by simp only [smLen, List.length_append]; omega)
      have c2 := union2_ret (w0 := w0) (a := unionR gone (filL arcs.length fun i => decide (i ∈ s.out))) (b := [(i : Int)]) (by simp only [smLen, List.length_append, List.length_singleton]; omega)
      rw [ints_one] at c2
      have c3 := has2_ret (w0 := w0) (l := gone) (x := (i : Int)) (by simp only [okLen]; omega)
      have c4 := has2_ret (w0 := w0) (l := filL arcs.length fun i => decide (i ∈ s.out)) (x := (i : Int)) (by simp only [okLen]; omega)
      have c5 := has2_ret (w0 := w0) (l := filL n s.has) (x := tlA arcs i) (by simp only [okLen]; omega)
      have c6 := has2_ret (w0 := w0) (l := filL n s.has) (x := hdA arcs i) (by simp only [okLen]; omega)
      have c7 := enough20_ret (w0 := w0) (k := others) N hn hu2.1 (by simp only [okLen]; omega)
      have hfun : (fun j => decide (j ∈ unionR (unionR gone (filL arcs.length fun i => decide (i ∈ s.out))) [(i : Int)])) = setF s.gone i true := by
        funext j
        by_cases e : j = i
        · rw [e, setF_same]; simp [hu2.2]
        · rw [setF_ne _ _ e, hI.gone' j]
          have : j ∈ unionR (unionR gone (filL arcs.length fun i => decide (i ∈ s.out))) [(i : Int)] ↔ j ∈ gone ∨ j ∈ s.out := by
            rw [hu2.2, hu1.2, List.mem_singleton]
            constructor
            · rintro ((h | h) | h)
              · exact .inl h
              · have := (mem_filL.1 h).2; exact .inr (by simpa using this)
              · exact absurd h e
            · rintro (h | h)
              · exact .inl (.inl h)
              · exact .inl (.inr (mem_filL.2 ⟨hI.rng j h, by simpa using h⟩))
          simp [this]
      rw [hfun] at c7
      rw [hri, Bool.true_and] at c3
      rw [rises_iff.2 hop.set, Bool.true_and] at c4
      rw [rises_iff.2 hhp.set, Bool.true_and] at c5 c6
      have hgi := hI.gone' i
      have d4 : decide ((i : Int) ∈ filL arcs.length fun i => decide (i ∈ s.out)) = decide ((i : Int) ∈ s.out) := by simp only [hmo i (by omega) (by omega)]
      have d5 : decide (tlA arcs i ∈ filL n s.has) = s.has (tlA arcs i) := by
        have := hmh _ t0 tn
        cases e : s.has (tlA arcs i) <;> simp [this, e]
      have d6 : decide (hdA arcs i ∈ filL n s.has) = s.has (hdA arcs i) := by
        have := hmh _ q0 qn
        cases e : s.has (hdA arcs i) <;> simp [this, e]
      rw [d4] at c4
      rw [d5] at c5
      rw [d6] at c6
      have hskip : ∀ e : okG arcs n root others s i = false, ∀ q : Int, 0 ≤ q → q < (i + 1 : Nat) → okG arcs n root others s q = false := fun e q a b => by
        by_cases e' : q = i
        · rw [e']; exact e
        · exact hno q a (by omega)
      by_cases hok : okG arcs n root others s i = true
      · have hst2 := stepG_some hil hno hok
        rw [hst2] at hsI
        obtain ⟨g1, g2, g3, g4⟩ := okG_iff.1 hok
        have g4' := enoughB_true.2 g4
        rw [g1] at hgi
        have e3 : (i : Int) ∉ gone := fun h => by simp [h] at hgi
        have e4 : (i : Int) ∉ s.out := fun h => by simp [h] at hgi
        have c8 := union2_ret (w0 := w0) (a := filL arcs.length fun i => decide (i ∈ s.out)) (b := [(i : Int)]) (by simp only [smLen, List.length_append, List.length_singleton]; omega)
        have c9 := union2_ret (w0 := w0) (a := filL n s.has) (b := [hdA arcs i]) (by simp only [smLen, List.length_append, List.length_singleton]; omega)
        rw [ints_one] at c8 c9
        rw [filL_add (q := fun j => decide (j ∈ s.out ++ [(i : Int)])) (by omega) ⟨by omega, by omega⟩ (fun y => by simp)] at c8
        rw [filL_add (q := setF s.has (hdA arcs i) true) (by omega) ⟨q0, qn⟩ (fun y => by by_cases e : y = hdA arcs i; (· subst e; simp [setF_same]); (· rw [setF_ne _ _ e]; simp [e]))] at c9
        repeat' (first
          | (with_reducible refine awp_skip ?_)
          | (with_reducible refine then_any ?_)
          | (with_reducible refine then_ret ?_)
          | (with_reducible refine then_exit ?_)
          | (with_reducible refine inBlock_normal ?_)
          | (with_reducible refine inBlock_ret ?_)
          | (with_reducible refine inBlock_hit ?_)
          | (with_reducible refine inBlock_miss (by decide) ?_)
          | (with_reducible refine awp_ret ?_)
          | (with_reducible refine awp_exit ?_)
          | (with_reducible refine post_ret ?_)
          | (with_reducible refine post_normal ?_)
          | (with_reducible refine awp_block ?_)
          | (with_reducible refine awp_scope_ret ?_)
          | (with_reducible refine awp_label ?_)
          | (with_reducible refine v_reg [] (fun K hK => ?_))
          | (with_reducible refine v_reg1 [] (fun K hK => ?_))
          | (with_reducible refine v_draw mixed [] [] (by kernel_rfl) (fun K hK => ?_))
          | (with_reducible refine v_draw1 mixed [] [] (by kernel_rfl) (fun K hK => ?_))
          | (with_reducible refine ev_nil (hK _ _ ?_); clear hK K)
          | (with_reducible refine ed_nil (hK _ _ ?_); clear hK K)
          | ((first | with_reducible refine ev_cons (fun K' hK' => ?_) | with_reducible refine ed_cons (fun K' hK' => ?_) | (with_reducible refine ev_id ?_; refine ev_guard rfl (fun K' hK' => ?_)) | (with_reducible refine ed_id ?_; refine ed_guard rfl (fun K' hK' => ?_))); simp [h14, h13, h0, h1, h2, h3, h4, h11, h12, hil, hp.1, hp.2.1, hp.2.2, pairs_len, sum2, e3, e4, g2, g3, g4']; repeat' (first | (with_reducible refine hK' _ _ ?_; clear hK' K') | (with_reducible refine Ret.use c1 ?_; try simp [h14, h13, h0, h1, h2, h3, h4, h11, h12, hil, hp.1, hp.2.1, hp.2.2, pairs_len, sum2, e3, e4, g2, g3, g4']) | (with_reducible refine Ret.use c2 ?_; try simp [h14, h13, h0, h1, h2, h3, h4, h11, h12, hil, hp.1, hp.2.1, hp.2.2, pairs_len, sum2, e3, e4, g2, g3, g4']) | (with_reducible refine Ret.use c3 ?_; try simp [h14, h13, h0, h1, h2, h3, h4, h11, h12, hil, hp.1, hp.2.1, hp.2.2, pairs_len, sum2, e3, e4, g2, g3, g4']) | (with_reducible refine Ret.use c4 ?_; try simp [h14, h13, h0, h1, h2, h3, h4, h11, h12, hil, hp.1, hp.2.1, hp.2.2, pairs_len, sum2, e3, e4, g2, g3, g4']) | (with_reducible refine Ret.use c5 ?_; try simp [h14, h13, h0, h1, h2, h3, h4, h11, h12, hil, hp.1, hp.2.1, hp.2.2, pairs_len, sum2, e3, e4, g2, g3, g4']) | (with_reducible refine Ret.use c6 ?_; try simp [h14, h13, h0, h1, h2, h3, h4, h11, h12, hil, hp.1, hp.2.1, hp.2.2, pairs_len, sum2, e3, e4, g2, g3, g4']) | (with_reducible refine Ret.use c7 ?_; try simp [h14, h13, h0, h1, h2, h3, h4, h11, h12, hil, hp.1, hp.2.1, hp.2.2, pairs_len, sum2, e3, e4, g2, g3, g4']) | (with_reducible refine Ret.use c8 ?_; try simp [h14, h13, h0, h1, h2, h3, h4, h11, h12, hil, hp.1, hp.2.1, hp.2.2, pairs_len, sum2, e3, e4, g2, g3, g4']) | (with_reducible refine Ret.use c9 ?_; try simp [h14, h13, h0, h1, h2, h3, h4, h11, h12, hil, hp.1, hp.2.1, hp.2.2, pairs_len, sum2, e3, e4, g2, g3, g4']) | (with_reducible refine And.intro ?_ ?_) | (with_reducible intro hg) | (clear hK' K'; omega)))
          | (with_reducible refine w_cond (fun A B hA hB => ?_); simp [h14, h13, h0, h1, h2, h3, h4, h11, h12, hil, hp.1, hp.2.1, hp.2.2, pairs_len, sum2, e3, e4, g2, g3, g4']; repeat' (first | (with_reducible refine hA ?_; clear hA hB A B) | (with_reducible refine hB ?_; clear hA hB A B) | (with_reducible refine And.intro ?_ ?_) | (with_reducible intro hc)))
          | (with_reducible refine awp_seq ?_))
        have hij : it (k + 1) = takeG arcs s i := hsI
        exact ⟨⟨k + 1, by omega, by simp, by simp [h0], by simp [h1], by simp [h2], by simp [h3], by simp [h4], by rw [hij]; simp [takeG], by rw [hij]; simp [takeG], rfl⟩, by simp; omega⟩
      · have hok2 : okG arcs n root others s i = false := by simpa using hok
        repeat' (first
          | (with_reducible refine awp_skip ?_)
          | (with_reducible refine then_any ?_)
          | (with_reducible refine then_ret ?_)
          | (with_reducible refine then_exit ?_)
          | (with_reducible refine inBlock_normal ?_)
          | (with_reducible refine inBlock_ret ?_)
          | (with_reducible refine inBlock_hit ?_)
          | (with_reducible refine inBlock_miss (by decide) ?_)
          | (with_reducible refine awp_ret ?_)
          | (with_reducible refine awp_exit ?_)
          | (with_reducible refine post_ret ?_)
          | (with_reducible refine post_normal ?_)
          | (with_reducible refine awp_block ?_)
          | (with_reducible refine awp_scope_ret ?_)
          | (with_reducible refine awp_label ?_)
          | (with_reducible refine v_reg [] (fun K hK => ?_))
          | (with_reducible refine v_reg1 [] (fun K hK => ?_))
          | (with_reducible refine v_draw mixed [] [] (by kernel_rfl) (fun K hK => ?_))
          | (with_reducible refine v_draw1 mixed [] [] (by kernel_rfl) (fun K hK => ?_))
          | (with_reducible refine ev_nil (hK _ _ ?_); clear hK K)
          | (with_reducible refine ed_nil (hK _ _ ?_); clear hK K)
          | ((first | with_reducible refine ev_cons (fun K' hK' => ?_) | with_reducible refine ed_cons (fun K' hK' => ?_) | (with_reducible refine ev_id ?_; refine ev_guard rfl (fun K' hK' => ?_)) | (with_reducible refine ed_id ?_; refine ed_guard rfl (fun K' hK' => ?_))); simp [h14, h13, h0, h1, h2, h3, h4, h11, h12, hil, hp.1, hp.2.1, hp.2.2, pairs_len, sum2]; repeat' (first | (with_reducible refine hK' _ _ ?_; clear hK' K') | (with_reducible refine Ret.use c1 ?_; try simp [h14, h13, h0, h1, h2, h3, h4, h11, h12, hil, hp.1, hp.2.1, hp.2.2, pairs_len, sum2]) | (with_reducible refine Ret.use c2 ?_; try simp [h14, h13, h0, h1, h2, h3, h4, h11, h12, hil, hp.1, hp.2.1, hp.2.2, pairs_len, sum2]) | (with_reducible refine Ret.use c3 ?_; try simp [h14, h13, h0, h1, h2, h3, h4, h11, h12, hil, hp.1, hp.2.1, hp.2.2, pairs_len, sum2]) | (with_reducible refine Ret.use c4 ?_; try simp [h14, h13, h0, h1, h2, h3, h4, h11, h12, hil, hp.1, hp.2.1, hp.2.2, pairs_len, sum2]) | (with_reducible refine Ret.use c5 ?_; try simp [h14, h13, h0, h1, h2, h3, h4, h11, h12, hil, hp.1, hp.2.1, hp.2.2, pairs_len, sum2]) | (with_reducible refine Ret.use c6 ?_; try simp [h14, h13, h0, h1, h2, h3, h4, h11, h12, hil, hp.1, hp.2.1, hp.2.2, pairs_len, sum2]) | (with_reducible refine Ret.use c7 ?_; try simp [h14, h13, h0, h1, h2, h3, h4, h11, h12, hil, hp.1, hp.2.1, hp.2.2, pairs_len, sum2]) | (with_reducible refine And.intro ?_ ?_) | (with_reducible intro hg) | (clear hK' K'; omega)))
          | (with_reducible refine w_cond (fun A B hA hB => ?_); simp [h14, h13, h0, h1, h2, h3, h4, h11, h12, hil, hp.1, hp.2.1, hp.2.2, pairs_len, sum2]; repeat' (first | (with_reducible refine hA ?_; clear hA hB A B) | (with_reducible refine hB ?_; clear hA hB A B) | (with_reducible refine And.intro ?_ ?_) | (with_reducible intro hc)))
          | (with_reducible refine awp_seq ?_))
        all_goals first
          | exact ⟨⟨i + 1, by omega, hskip hok2, by simp, by simp [h13], by simp [h0], by simp [h1], by simp [h2], by simp [h3], by simp [h4], by simp [h11], by simp [h12], rfl⟩, by simp; omega⟩
          | (exfalso
             have := okG_iff.2 (⟨by rw [hgi]; simp [*], by assumption, by assumption, enoughB_true.1 (by assumption)⟩ : s.gone i = false ∧ s.has (tlA arcs i) = true ∧ s.has (hdA arcs i) = false ∧ EnoughP arcs n (setF s.gone i true) root others)
             rw [hok2] at this
             cases this)
    · have : i = arcs.length := by omega
      subst this
      have hst2 := stepG_none hno
      rw [hst2] at hsI
      repeat' (first
        | (with_reducible refine awp_skip ?_)
        | (with_reducible refine then_any ?_)
        | (with_reducible refine then_ret ?_)
        | (with_reducible refine then_exit ?_)
        | (with_reducible refine inBlock_normal ?_)
        | (with_reducible refine inBlock_ret ?_)
        | (with_reducible refine inBlock_hit ?_)
        | (with_reducible refine inBlock_miss (by decide) ?_)
        | (with_reducible refine awp_ret ?_)
        | (with_reducible refine awp_exit ?_)
        | (with_reducible refine post_ret ?_)
        | (with_reducible refine post_normal ?_)
        | (with_reducible refine awp_block ?_)
        | (with_reducible refine awp_scope_ret ?_)
        | (with_reducible refine awp_label ?_)
        | (with_reducible refine v_reg [] (fun K hK => ?_))
        | (with_reducible refine v_reg1 [] (fun K hK => ?_))
        | (with_reducible refine v_draw mixed [] [] (by kernel_rfl) (fun K hK => ?_))
        | (with_reducible refine v_draw1 mixed [] [] (by kernel_rfl) (fun K hK => ?_))
        | (with_reducible refine ev_nil (hK _ _ ?_); clear hK K)
        | (with_reducible refine ed_nil (hK _ _ ?_); clear hK K)
        | ((first | with_reducible refine ev_cons (fun K' hK' => ?_) | with_reducible refine ed_cons (fun K' hK' => ?_) | (with_reducible refine ev_id ?_; refine ev_guard rfl (fun K' hK' => ?_)) | (with_reducible refine ed_id ?_; refine ed_guard rfl (fun K' hK' => ?_))); simp [h14, h13, h0, h1]; repeat' (first | (with_reducible refine hK' _ _ ?_; clear hK' K') | (with_reducible refine And.intro ?_ ?_) | (with_reducible intro hg) | (clear hK' K'; omega)))
        | (with_reducible refine w_cond (fun A B hA hB => ?_); simp [h14, h13, h0, h1]; repeat' (first | (with_reducible refine hA ?_; clear hA hB A B) | (with_reducible refine hB ?_; clear hA hB A B) | (with_reducible refine And.intro ?_ ?_) | (with_reducible intro hc)))
        | (with_reducible refine awp_seq ?_))
      exact ⟨⟨k + 1, by omega, by simp, by simp [h0], by simp [h1], by simp [h2], by simp [h3], by simp [h4], by rw [hsI]; simp [h11], by rw [hsI]; simp [h12], rfl⟩, by simp; omega⟩
  · have hnk : n = k + 1 := by omega
    have hlt' : ¬ (k : Int) + 1 < n := by omega
    have hgr : growL arcs n root others (fun i => decide (i ∈ gone)) = filL arcs.length fun i => decide (i ∈ (it k).out) := by
      rw [growL, hfinG, show n - 1 = k by omega, filL]
    repeat' (first
      | (with_reducible refine awp_skip ?_)
      | (with_reducible refine then_any ?_)
      | (with_reducible refine then_ret ?_)
      | (with_reducible refine then_exit ?_)
      | (with_reducible refine inBlock_normal ?_)
      | (with_reducible refine inBlock_ret ?_)
      | (with_reducible refine inBlock_hit ?_)
      | (with_reducible refine inBlock_miss (by decide) ?_)
      | (with_reducible refine awp_ret ?_)
      | (with_reducible refine awp_exit ?_)
      | (with_reducible refine post_ret ?_)
      | (with_reducible refine post_normal ?_)
      | (with_reducible refine awp_block ?_)
      | (with_reducible refine awp_scope_ret ?_)
      | (with_reducible refine awp_label ?_)
      | (with_reducible refine v_reg [] (fun K hK => ?_))
      | (with_reducible refine v_reg1 [] (fun K hK => ?_))
      | (with_reducible refine v_draw mixed [] [] (by kernel_rfl) (fun K hK => ?_))
      | (with_reducible refine v_draw1 mixed [] [] (by kernel_rfl) (fun K hK => ?_))
      | (with_reducible refine ev_nil (hK _ _ ?_); clear hK K)
      | (with_reducible refine ed_nil (hK _ _ ?_); clear hK K)
      | ((first | with_reducible refine ev_cons (fun K' hK' => ?_) | with_reducible refine ed_cons (fun K' hK' => ?_) | (with_reducible refine ev_id ?_; refine ev_guard rfl (fun K' hK' => ?_)) | (with_reducible refine ed_id ?_; refine ed_guard rfl (fun K' hK' => ?_))); simp [h13, h0, h12, hlt']; repeat' (first | (with_reducible refine hK' _ _ ?_; clear hK' K') | (with_reducible refine And.intro ?_ ?_) | (with_reducible intro hg) | (clear hK' K'; omega)))
      | (with_reducible refine w_cond (fun A B hA hB => ?_); simp [h13, h0, h12, hlt']; repeat' (first | (with_reducible refine hA ?_; clear hA hB A B) | (with_reducible refine hB ?_; clear hA hB A B) | (with_reducible refine And.intro ?_ ?_) | (with_reducible intro hc)))
      | (with_reducible refine awp_seq ?_))
    simp [hgr]

theorem packI_gone {n : Nat} {arcs : List (Int × Int)} {root : Int} (N : NetA n arcs root) (k i : Nat) : ∃ gone, Pts arcs.length gone ∧ (packI arcs n root k i).1 = fun j => decide (j ∈ gone) := by
  induction i with
  | zero => exact ⟨[], .nil, by funext j; simp [packI]⟩
  | succ i ih =>
    obtain ⟨gone, hp, he⟩ := ih
    have hm := N.mle
    have hI := GInv.fin (others := k - 1 - i) N (packI arcs n root k i).1
    refine ⟨filL arcs.length (finG arcs n root (k - 1 - i) (packI arcs n root k i).1).gone, filL_pts (by omega) _, ?_⟩
    funext j
    show (finG arcs n root (k - 1 - i) (packI arcs n root k i).1).gone j = _
    have : j ∈ filL arcs.length (finG arcs n root (k - 1 - i) (packI arcs n root k i).1).gone ↔ (finG arcs n root (k - 1 - i) (packI arcs n root k i).1).gone j = true := by
      rw [mem_filL]
      refine ⟨fun h => h.2, fun h => ⟨?_, h⟩⟩
      rw [hI.gone' j, Bool.or_eq_true] at h
      rcases h with h | h
      · rw [he] at h; exact hp.lt j (by simpa using h)
      · exact hI.rng j (by simpa using h)
    cases e : (finG arcs n root (k - 1 - i) (packI arcs n root k i).1).gone j <;> simp [this, e]
/-- The arcs that are gone, as a list. -/
noncomputable def goneL (arcs : List (Int × Int)) (n : Nat) (root : Int) (k i : Nat) : List Int := filL arcs.length (packI arcs n root k i).1
theorem goneL_fun {n : Nat} {arcs : List (Int × Int)} {root : Int} (N : NetA n arcs root) (k i : Nat) : (fun j => decide (j ∈ goneL arcs n root k i)) = (packI arcs n root k i).1 := by
  obtain ⟨gone, hp, he⟩ := packI_gone N k i
  funext j
  have : j ∈ goneL arcs n root k i ↔ (packI arcs n root k i).1 j = true := by
    rw [goneL, mem_filL]
    refine ⟨fun h => h.2, fun h => ⟨?_, h⟩⟩
    rw [he] at h
    exact hp.lt j (by simpa using h)
  cases e : (packI arcs n root k i).1 j <;> simp [this, e]
theorem goneL_succ {n : Nat} {arcs : List (Int × Int)} {root : Int} (N : NetA n arcs root) (k i : Nat) : unionR (goneL arcs n root k i) (growL arcs n root (k - 1 - i) (packI arcs n root k i).1) = goneL arcs n root k (i + 1) := by
  have hm := N.mle
  have hI := GInv.fin (others := k - 1 - i) N (packI arcs n root k i).1
  have hp : Pts arcs.length (growL arcs n root (k - 1 - i) (packI arcs n root k i).1) := filL_pts (by omega) _
  have hs := unionR_spec (filL_pts (n := arcs.length) (by omega) (packI arcs n root k i).1).set hp.set
  refine hs.1.ext (filL_pts (by omega) _).set fun x => ?_
  rw [hs.2, goneL, mem_filL, mem_filL, mem_growL N]
  show _ ↔ _ ∧ (finG arcs n root (k - 1 - i) (packI arcs n root k i).1).gone x = true
  rw [hI.gone' x, Bool.or_eq_true]
  constructor
  · rintro (⟨a, b⟩ | h)
    · exact ⟨a, .inl b⟩
    · exact ⟨hI.rng x h, .inr (by simpa using h)⟩
  · rintro ⟨a, b | b⟩
    · exact .inl ⟨a, b⟩
    · exact .inr (by simpa using b)

set_option maxHeartbeats 4000000 in
theorem pack20_ret {n root k : Int} {arcs : List (Int × Int)} (ha : smLen arcs) (hn : n ≤ 30 ∨ 64 < n) : Ret Try.prog w0 15 [I n, pairs arcs, I root, I k] (packT n arcs root k) := by
  intro H
  have hmay := may20_ret (w0 := w0) (n := n) (root := root) (k := k) ha
  refine w_enter Try.func15 rfl Try.ntmps15 (ts := [8, 9, 10]) rfl (by simp) (by kernel_rfl) ?_
  cases hK : mayK n arcs root k with
  | false =>
    repeat' (first
      | (with_reducible refine awp_skip ?_)
      | (with_reducible refine then_any ?_)
      | (with_reducible refine then_ret ?_)
      | (with_reducible refine then_exit ?_)
      | (with_reducible refine inBlock_normal ?_)
      | (with_reducible refine inBlock_ret ?_)
      | (with_reducible refine inBlock_hit ?_)
      | (with_reducible refine inBlock_miss (by decide) ?_)
      | (with_reducible refine awp_ret ?_)
      | (with_reducible refine awp_exit ?_)
      | (with_reducible refine post_ret ?_)
      | (with_reducible refine post_normal ?_)
      | (with_reducible refine awp_block ?_)
      | (with_reducible refine awp_scope_ret ?_)
      | (with_reducible refine awp_label ?_)
      | (with_reducible refine v_reg [] (fun K hK => ?_))
      | (with_reducible refine v_reg1 [] (fun K hK => ?_))
      | (with_reducible refine v_draw mixed [] [] (by kernel_rfl) (fun K hK => ?_))
      | (with_reducible refine v_draw1 mixed [] [] (by kernel_rfl) (fun K hK => ?_))
      | (with_reducible refine ev_nil (hK _ _ ?_); clear hK K)
      | (with_reducible refine ed_nil (hK _ _ ?_); clear hK K)
      | ((first | with_reducible refine ev_cons (fun K' hK' => ?_) | with_reducible refine ed_cons (fun K' hK' => ?_) | (with_reducible refine ev_id ?_; refine ev_guard rfl (fun K' hK' => ?_)) | (with_reducible refine ed_id ?_; refine ed_guard rfl (fun K' hK' => ?_))); simp [hK]; repeat' (first | (with_reducible refine hK' _ _ ?_; clear hK' K') | (with_reducible refine Ret.use hmay ?_; try simp [hK]) | (with_reducible refine And.intro ?_ ?_) | (with_reducible intro hg) | (clear hK' K'; omega)))
      | (with_reducible refine w_cond (fun A B hA hB => ?_); simp [hK]; repeat' (first | (with_reducible refine hA ?_; clear hA hB A B) | (with_reducible refine hB ?_; clear hA hB A B) | (with_reducible refine And.intro ?_ ?_) | (with_reducible intro hc)))
      | (with_reducible refine awp_seq ?_))
    simp [packT, hK, rows]
  | true =>
  have hK' := hK
  simp only [mayK, Bool.and_eq_true, decide_eq_true_eq] at hK'
  obtain ⟨⟨hA, hk1⟩, hk8⟩ := hK'
  obtain ⟨m, rfl, hm1, N⟩ := mayA_net hA
  obtain ⟨kk, rfl⟩ := Int.eq_ofNat_of_zero_le (show 0 ≤ k by omega)
  have hnl := N.nle
  repeat' (first
    | (with_reducible refine awp_skip ?_)
    | (with_reducible refine then_any ?_)
    | (with_reducible refine then_ret ?_)
    | (with_reducible refine then_exit ?_)
    | (with_reducible refine inBlock_normal ?_)
    | (with_reducible refine inBlock_ret ?_)
    | (with_reducible refine inBlock_hit ?_)
    | (with_reducible refine inBlock_miss (by decide) ?_)
    | (with_reducible refine awp_ret ?_)
    | (with_reducible refine awp_exit ?_)
    | (with_reducible refine post_ret ?_)
    | (with_reducible refine post_normal ?_)
    | (with_reducible refine awp_block ?_)
    | (with_reducible refine awp_scope_ret ?_)
    | (with_reducible refine awp_label ?_)
    | (with_reducible refine v_reg [] (fun K hK => ?_))
    | (with_reducible refine v_reg1 [] (fun K hK => ?_))
    | (with_reducible refine v_draw mixed [] [] (by kernel_rfl) (fun K hK => ?_))
    | (with_reducible refine v_draw1 mixed [] [] (by kernel_rfl) (fun K hK => ?_))
    | (with_reducible refine ev_nil (hK _ _ ?_); clear hK K)
    | (with_reducible refine ed_nil (hK _ _ ?_); clear hK K)
    | ((first | with_reducible refine ev_cons (fun K' hK' => ?_) | with_reducible refine ed_cons (fun K' hK' => ?_) | (with_reducible refine ev_id ?_; refine ev_guard rfl (fun K' hK' => ?_)) | (with_reducible refine ed_id ?_; refine ed_guard rfl (fun K' hK' => ?_))); simp [hK]; repeat' (first | (with_reducible refine hK' _ _ ?_; clear hK' K') | (with_reducible refine Ret.use hmay ?_; try simp [hK]) | (with_reducible refine And.intro ?_ ?_) | (with_reducible intro hg) | (clear hK' K'; omega)))
    | (with_reducible refine w_cond (fun A B hA hB => ?_); simp [hK]; repeat' (first | (with_reducible refine hA ?_; clear hA hB A B) | (with_reducible refine hB ?_; clear hA hB A B) | (with_reducible refine And.intro ?_ ?_) | (with_reducible intro hc)))
    | (with_reducible refine awp_seq ?_))
  refine awp_loop (fun env h => ∃ v : Nat, v ≤ m ∧ (∀ u : Int, 0 ≤ u → u < v → u ≠ root → kk ≤ (flowA arcs m no0 root u).1) ∧ env 11 = I v ∧ env 0 = I m ∧ env 1 = pairs arcs ∧ env 2 = I root ∧ env 3 = I kk ∧ h = H) (fun env _ => m - natA (env 11)) ?_ ?_
  · exact ⟨0, by omega, fun u a b => by omega, by simp, by simp, by simp, by simp, by simp, rfl⟩
  rintro env h ⟨v, hv, hno, h11, h0, h1, h2, h3, rfl⟩
  have hnat : natA (env 11) = v := by simp [h11]
  rw [hnat]; clear hnat
  by_cases hlt : v < m
  · have hfl := flow20_ret (w0 := w0) (n := m) (root := root) (v := v) ha hn
    by_cases hr : (v : Int) = root
    · subst hr
      rw [flowT_root] at hfl
      repeat' (first
        | (with_reducible refine awp_skip ?_)
        | (with_reducible refine then_any ?_)
        | (with_reducible refine then_ret ?_)
        | (with_reducible refine then_exit ?_)
        | (with_reducible refine inBlock_normal ?_)
        | (with_reducible refine inBlock_ret ?_)
        | (with_reducible refine inBlock_hit ?_)
        | (with_reducible refine inBlock_miss (by decide) ?_)
        | (with_reducible refine awp_ret ?_)
        | (with_reducible refine awp_exit ?_)
        | (with_reducible refine post_ret ?_)
        | (with_reducible refine post_normal ?_)
        | (with_reducible refine awp_block ?_)
        | (with_reducible refine awp_scope_ret ?_)
        | (with_reducible refine awp_label ?_)
        | (with_reducible refine v_reg [] (fun K hK => ?_))
        | (with_reducible refine v_reg1 [] (fun K hK => ?_))
        | (with_reducible refine v_draw mixed [] [] (by kernel_rfl) (fun K hK => ?_))
        | (with_reducible refine v_draw1 mixed [] [] (by kernel_rfl) (fun K hK => ?_))
        | (with_reducible refine ev_nil (hK _ _ ?_); clear hK K)
        | (with_reducible refine ed_nil (hK _ _ ?_); clear hK K)
        | ((first | with_reducible refine ev_cons (fun K' hK' => ?_) | with_reducible refine ed_cons (fun K' hK' => ?_) | (with_reducible refine ev_id ?_; refine ev_guard rfl (fun K' hK' => ?_)) | (with_reducible refine ed_id ?_; refine ed_guard rfl (fun K' hK' => ?_))); simp [h11, h0, h1, h2, h3, hlt]; repeat' (first | (with_reducible refine hK' _ _ ?_; clear hK' K') | (with_reducible refine Ret.use hfl ?_; try simp [h11, h0, h1, h2, h3, hlt]) | (with_reducible refine And.intro ?_ ?_) | (with_reducible intro hg) | (clear hK' K'; omega)))
        | (with_reducible refine w_cond (fun A B hA hB => ?_); simp [h11, h0, h1, h2, h3, hlt]; repeat' (first | (with_reducible refine hA ?_; clear hA hB A B) | (with_reducible refine hB ?_; clear hA hB A B) | (with_reducible refine And.intro ?_ ?_) | (with_reducible intro hc)))
        | (with_reducible refine awp_seq ?_))
      exact ⟨⟨v + 1, by omega, fun u a b c => hno u a (by omega) c, by simp, by simp [h0], by simp [h1], by simp [h2], by simp [h3], rfl⟩, by simp; omega⟩
    · rw [flowT_ok hA (by omega) (by omega) hr] at hfl
      by_cases hu : (flowA arcs m no0 root v).1 < kk
      · have hb := badV_some hlt hno hr hu
        repeat' (first
          | (with_reducible refine awp_skip ?_)
          | (with_reducible refine then_any ?_)
          | (with_reducible refine then_ret ?_)
          | (with_reducible refine then_exit ?_)
          | (with_reducible refine inBlock_normal ?_)
          | (with_reducible refine inBlock_ret ?_)
          | (with_reducible refine inBlock_hit ?_)
          | (with_reducible refine inBlock_miss (by decide) ?_)
          | (with_reducible refine awp_ret ?_)
          | (with_reducible refine awp_exit ?_)
          | (with_reducible refine post_ret ?_)
          | (with_reducible refine post_normal ?_)
          | (with_reducible refine awp_block ?_)
          | (with_reducible refine awp_scope_ret ?_)
          | (with_reducible refine awp_label ?_)
          | (with_reducible refine v_reg [] (fun K hK => ?_))
          | (with_reducible refine v_reg1 [] (fun K hK => ?_))
          | (with_reducible refine v_draw mixed [] [] (by kernel_rfl) (fun K hK => ?_))
          | (with_reducible refine v_draw1 mixed [] [] (by kernel_rfl) (fun K hK => ?_))
          | (with_reducible refine ev_nil (hK _ _ ?_); clear hK K)
          | (with_reducible refine ed_nil (hK _ _ ?_); clear hK K)
          | ((first | with_reducible refine ev_cons (fun K' hK' => ?_) | with_reducible refine ed_cons (fun K' hK' => ?_) | (with_reducible refine ev_id ?_; refine ev_guard rfl (fun K' hK' => ?_)) | (with_reducible refine ed_id ?_; refine ed_guard rfl (fun K' hK' => ?_))); simp [h11, h0, h1, h2, h3, hlt, hu]; repeat' (first | (with_reducible refine hK' _ _ ?_; clear hK' K') | (with_reducible refine Ret.use hfl ?_; try simp [h11, h0, h1, h2, h3, hlt, hu]) | (with_reducible refine And.intro ?_ ?_) | (with_reducible intro hg) | (clear hK' K'; omega)))
          | (with_reducible refine w_cond (fun A B hA hB => ?_); simp [h11, h0, h1, h2, h3, hlt, hu]; repeat' (first | (with_reducible refine hA ?_; clear hA hB A B) | (with_reducible refine hB ?_; clear hA hB A B) | (with_reducible refine And.intro ?_ ?_) | (with_reducible intro hc)))
          | (with_reducible refine awp_seq ?_))
        simp [packT, hK, hb, rows]
      · repeat' (first
          | (with_reducible refine awp_skip ?_)
          | (with_reducible refine then_any ?_)
          | (with_reducible refine then_ret ?_)
          | (with_reducible refine then_exit ?_)
          | (with_reducible refine inBlock_normal ?_)
          | (with_reducible refine inBlock_ret ?_)
          | (with_reducible refine inBlock_hit ?_)
          | (with_reducible refine inBlock_miss (by decide) ?_)
          | (with_reducible refine awp_ret ?_)
          | (with_reducible refine awp_exit ?_)
          | (with_reducible refine post_ret ?_)
          | (with_reducible refine post_normal ?_)
          | (with_reducible refine awp_block ?_)
          | (with_reducible refine awp_scope_ret ?_)
          | (with_reducible refine awp_label ?_)
          | (with_reducible refine v_reg [] (fun K hK => ?_))
          | (with_reducible refine v_reg1 [] (fun K hK => ?_))
          | (with_reducible refine v_draw mixed [] [] (by kernel_rfl) (fun K hK => ?_))
          | (with_reducible refine v_draw1 mixed [] [] (by kernel_rfl) (fun K hK => ?_))
          | (with_reducible refine ev_nil (hK _ _ ?_); clear hK K)
          | (with_reducible refine ed_nil (hK _ _ ?_); clear hK K)
          | ((first | with_reducible refine ev_cons (fun K' hK' => ?_) | with_reducible refine ed_cons (fun K' hK' => ?_) | (with_reducible refine ev_id ?_; refine ev_guard rfl (fun K' hK' => ?_)) | (with_reducible refine ed_id ?_; refine ed_guard rfl (fun K' hK' => ?_))); simp [h11, h0, h1, h2, h3, hlt, hu]; repeat' (first | (with_reducible refine hK' _ _ ?_; clear hK' K') | (with_reducible refine Ret.use hfl ?_; try simp [h11, h0, h1, h2, h3, hlt, hu]) | (with_reducible refine And.intro ?_ ?_) | (with_reducible intro hg) | (clear hK' K'; omega)))
          | (with_reducible refine w_cond (fun A B hA hB => ?_); simp [h11, h0, h1, h2, h3, hlt, hu]; repeat' (first | (with_reducible refine hA ?_; clear hA hB A B) | (with_reducible refine hB ?_; clear hA hB A B) | (with_reducible refine And.intro ?_ ?_) | (with_reducible intro hc)))
          | (with_reducible refine awp_seq ?_))
        exact ⟨⟨v + 1, by omega, fun u a b c => by by_cases e : u = v; (· rw [e]; omega); (· exact hno u a (by omega) c), by simp, by simp [h0], by simp [h1], by simp [h2], by simp [h3], rfl⟩, by simp; omega⟩
  · have : v = m := by omega
    subst this
    have hb := badV_none hno
    have hml := N.mle
    repeat' (first
      | (with_reducible refine awp_skip ?_)
      | (with_reducible refine then_any ?_)
      | (with_reducible refine then_ret ?_)
      | (with_reducible refine then_exit ?_)
      | (with_reducible refine inBlock_normal ?_)
      | (with_reducible refine inBlock_ret ?_)
      | (with_reducible refine inBlock_hit ?_)
      | (with_reducible refine inBlock_miss (by decide) ?_)
      | (with_reducible refine awp_ret ?_)
      | (with_reducible refine awp_exit ?_)
      | (with_reducible refine post_ret ?_)
      | (with_reducible refine post_normal ?_)
      | (with_reducible refine awp_block ?_)
      | (with_reducible refine awp_scope_ret ?_)
      | (with_reducible refine awp_label ?_)
      | (with_reducible refine v_reg [48] (fun K hK => ?_))
      | (with_reducible refine v_reg1 [48] (fun K hK => ?_))
      | (with_reducible refine v_draw mixed [48] [] (by kernel_rfl) (fun K hK => ?_))
      | (with_reducible refine v_draw1 mixed [48] [] (by kernel_rfl) (fun K hK => ?_))
      | (with_reducible refine ev_nil (hK _ _ ?_); clear hK K)
      | (with_reducible refine ed_nil (hK _ _ ?_); clear hK K)
      | ((first | with_reducible refine ev_cons (fun K' hK' => ?_) | with_reducible refine ed_cons (fun K' hK' => ?_) | (with_reducible refine ev_id ?_; refine ev_guard rfl (fun K' hK' => ?_)) | (with_reducible refine ed_id ?_; refine ed_guard rfl (fun K' hK' => ?_))); simp [h11, h0, h1, h2, h3, pairs]; repeat' (first | (with_reducible refine hK' _ _ ?_; clear hK' K') | (with_reducible refine And.intro ?_ ?_) | (with_reducible intro hg) | (clear hK' K'; omega)))
      | (with_reducible refine w_cond (fun A B hA hB => ?_); simp [h11, h0, h1, h2, h3, pairs]; repeat' (first | (with_reducible refine hA ?_; clear hA hB A B) | (with_reducible refine hB ?_; clear hA hB A B) | (with_reducible refine And.intro ?_ ?_) | (with_reducible intro hc)))
      | (with_reducible refine awp_seq ?_))
    rename_i O
    have hO : h O = none := by assumption
    refine awp_loop (fun env h' => ∃ i : Nat, i ≤ kk ∧ env 17 = I i ∧ env 0 = I v ∧ env 1 = pairs arcs ∧ env 2 = I root ∧ env 3 = I kk ∧ env 15 = ints (goneL arcs v root kk i) ∧ env 16 = .ref O 0 i i ∧
      h' = upd h O (some (.arr 1 27 ((packI arcs v root kk i).2.map ints) i))) (fun env _ => kk - natA (env 17)) ?_ ?_
    · exact ⟨0, by omega, by simp, by simp [h0], by simp [h1], by simp [h2], by simp [h3], by rw [show goneL arcs v root kk 0 = [] by simp [goneL, packI, filL]]; simp [ints], by simp, by simp [packI]⟩
    clear h11 h0 h1 h2 h3
    rintro env h' ⟨i, hi, h17, h0, h1, h2, h3, h15, h16, rfl⟩
    have hnat : natA (env 17) = i := by simp [h17]
    rw [hnat]; clear hnat
    by_cases hik : i < kk
    · have hcast2 : ((kk - 1 - i : Nat) : Int) = (kk : Int) - 1 - i := by omega
      have hpl := packI_length arcs v root kk i
      have hgp : Pts arcs.length (goneL arcs v root kk i) := filL_pts (by omega) _
      have hrp : Pts arcs.length (growL arcs v root (kk - 1 - i) (packI arcs v root kk i).1) := filL_pts (by omega) _
      have hgl := hgp.length
      have hrl := hrp.length
      have c1 := grow20_ret (w0 := w0) (others := kk - 1 - i) N (by omega) hgp
      rw [goneL_fun N, hcast2] at c1
      have c2 := union2_ret (w0 := w0) (a := goneL arcs v root kk i) (b := growL arcs v root (kk - 1 - i) (packI arcs v root kk i).1) (by simp only [smLen, List.length_append]; omega)
      rw [goneL_succ N] at c2
      have hsucc : (packI arcs v root kk (i + 1)).2 = (packI arcs v root kk i).2 ++ [growL arcs v root (kk - 1 - i) (packI arcs v root kk i).1] := rfl
      generalize (packI arcs v root kk i).2 = L at *
      have hll : L.length ≤ 8 := by omega
      repeat' (first
        | (with_reducible refine awp_skip ?_)
        | (with_reducible refine then_any ?_)
        | (with_reducible refine then_ret ?_)
        | (with_reducible refine then_exit ?_)
        | (with_reducible refine inBlock_normal ?_)
        | (with_reducible refine inBlock_ret ?_)
        | (with_reducible refine inBlock_hit ?_)
        | (with_reducible refine inBlock_miss (by decide) ?_)
        | (with_reducible refine awp_ret ?_)
        | (with_reducible refine awp_exit ?_)
        | (with_reducible refine post_ret ?_)
        | (with_reducible refine post_normal ?_)
        | (with_reducible refine awp_block ?_)
        | (with_reducible refine awp_scope_ret ?_)
        | (with_reducible refine awp_label ?_)
        | (with_reducible refine v_reg [] (fun K hK => ?_))
        | (with_reducible refine v_reg1 [] (fun K hK => ?_))
        | (with_reducible refine v_draw mixed [] [] (by kernel_rfl) (fun K hK => ?_))
        | (with_reducible refine v_draw1 mixed [] [] (by kernel_rfl) (fun K hK => ?_))
        | (with_reducible refine ev_nil (hK _ _ ?_); clear hK K)
        | (with_reducible refine ed_nil (hK _ _ ?_); clear hK K)
        | ((first | with_reducible refine ev_cons (fun K' hK' => ?_) | with_reducible refine ed_cons (fun K' hK' => ?_) | (with_reducible refine ev_id ?_; refine ev_guard rfl (fun K' hK' => ?_)) | (with_reducible refine ed_id ?_; refine ed_guard rfl (fun K' hK' => ?_))); simp [h17, h0, h1, h2, h3, h15, h16, hik]; repeat' (first | (with_reducible refine hK' _ _ ?_; clear hK' K') | (with_reducible refine Ret.use c1 ?_; try simp [h17, h0, h1, h2, h3, h15, h16, hik]) | (with_reducible refine Ret.use c2 ?_; try simp [h17, h0, h1, h2, h3, h15, h16, hik]) | (with_reducible refine And.intro ?_ ?_) | (with_reducible intro hg) | (clear hK' K'; omega)))
        | (with_reducible refine w_cond (fun A B hA hB => ?_); simp [h17, h0, h1, h2, h3, h15, h16, hik]; repeat' (first | (with_reducible refine hA ?_; clear hA hB A B) | (with_reducible refine hB ?_; clear hA hB A B) | (with_reducible refine And.intro ?_ ?_) | (with_reducible intro hc)))
        | (with_reducible refine awp_seq ?_))
      exact ⟨⟨i + 1, by omega, by simp, by simp [h0], by simp [h1], by simp [h2], by simp [h3], by simp, by simp, by rw [hsucc]; simp⟩, by simp; omega⟩
    · have : i = kk := by omega
      subst this
      have hpl := packI_length arcs v root i i
      repeat' (first
        | (with_reducible refine awp_skip ?_)
        | (with_reducible refine then_any ?_)
        | (with_reducible refine then_ret ?_)
        | (with_reducible refine then_exit ?_)
        | (with_reducible refine inBlock_normal ?_)
        | (with_reducible refine inBlock_ret ?_)
        | (with_reducible refine inBlock_hit ?_)
        | (with_reducible refine inBlock_miss (by decide) ?_)
        | (with_reducible refine awp_ret ?_)
        | (with_reducible refine awp_exit ?_)
        | (with_reducible refine post_ret ?_)
        | (with_reducible refine post_normal ?_)
        | (with_reducible refine awp_block ?_)
        | (with_reducible refine awp_scope_ret ?_)
        | (with_reducible refine awp_label ?_)
        | ((fail_if_success (with_reducible refine at_reg 16 ?_)); with_reducible refine v_reg [] (fun K hK => ?_))
        | (with_reducible refine v_reg1 [] (fun K hK => ?_))
        | ((fail_if_success (with_reducible refine at_reg 16 ?_)); with_reducible refine v_draw mixed [] [] (by kernel_rfl) (fun K hK => ?_))
        | (with_reducible refine v_draw1 mixed [] [] (by kernel_rfl) (fun K hK => ?_))
        | (with_reducible refine ev_nil (hK _ _ ?_); clear hK K)
        | (with_reducible refine ed_nil (hK _ _ ?_); clear hK K)
        | ((first | with_reducible refine ev_cons (fun K' hK' => ?_) | with_reducible refine ed_cons (fun K' hK' => ?_) | (with_reducible refine ev_id ?_; refine ev_guard rfl (fun K' hK' => ?_)) | (with_reducible refine ed_id ?_; refine ed_guard rfl (fun K' hK' => ?_))); simp [h17, h0, h3]; repeat' (first | (with_reducible refine hK' _ _ ?_; clear hK' K') | (with_reducible refine And.intro ?_ ?_) | (with_reducible intro hg) | (clear hK' K'; omega)))
        | (with_reducible refine w_cond (fun A B hA hB => ?_); simp [h17, h0, h3]; repeat' (first | (with_reducible refine hA ?_; clear hA hB A B) | (with_reducible refine hB ?_; clear hA hB A B) | (with_reducible refine And.intro ?_ ?_) | (with_reducible intro hc)))
        | ((fail_if_success (with_reducible refine at_reg 16 ?_)); with_reducible refine awp_seq ?_))
      refine awp_freeze 16 (r := O) (off := 0) (len := i) (top := i) (by simp [h16]) (upd_same _ _ _) ?_
      have hcut : cut 1 ((packI arcs v root i i).2.map ints) 0 i = rows (packI arcs v root i i).2 := by
        have := cut_map ints (packI arcs v root i i).2
        rw [hpl] at this
        rw [this, rows, hpl]
      rw [hcut, upd_upd]
      repeat' (first
        | (with_reducible refine awp_skip ?_)
        | (with_reducible refine then_any ?_)
        | (with_reducible refine then_ret ?_)
        | (with_reducible refine then_exit ?_)
        | (with_reducible refine inBlock_normal ?_)
        | (with_reducible refine inBlock_ret ?_)
        | (with_reducible refine inBlock_hit ?_)
        | (with_reducible refine inBlock_miss (by decide) ?_)
        | (with_reducible refine awp_ret ?_)
        | (with_reducible refine awp_exit ?_)
        | (with_reducible refine post_ret ?_)
        | (with_reducible refine post_normal ?_)
        | (with_reducible refine awp_block ?_)
        | (with_reducible refine awp_scope_ret ?_)
        | (with_reducible refine awp_label ?_)
        | (with_reducible refine v_reg [] (fun K hK => ?_))
        | (with_reducible refine v_reg1 [] (fun K hK => ?_))
        | (with_reducible refine v_draw mixed [] [] (by kernel_rfl) (fun K hK => ?_))
        | (with_reducible refine v_draw1 mixed [] [] (by kernel_rfl) (fun K hK => ?_))
        | (with_reducible refine ev_nil (hK _ _ ?_); clear hK K)
        | (with_reducible refine ed_nil (hK _ _ ?_); clear hK K)
        | ((first | with_reducible refine ev_cons (fun K' hK' => ?_) | with_reducible refine ed_cons (fun K' hK' => ?_) | (with_reducible refine ev_id ?_; refine ev_guard rfl (fun K' hK' => ?_)) | (with_reducible refine ed_id ?_; refine ed_guard rfl (fun K' hK' => ?_))); simp; repeat' (first | (with_reducible refine hK' _ _ ?_; clear hK' K') | (with_reducible refine And.intro ?_ ?_) | (with_reducible intro hg) | (clear hK' K'; omega)))
        | (with_reducible refine w_cond (fun A B hA hB => ?_); simp; repeat' (first | (with_reducible refine hA ?_; clear hA hB A B) | (with_reducible refine hB ?_; clear hA hB A B) | (with_reducible refine And.intro ?_ ?_) | (with_reducible intro hc)))
        | (with_reducible refine awp_seq ?_))
      exact ⟨by simp [packT, hK, hb], (Sub.refl h).upd hO _⟩
end Go.Am
