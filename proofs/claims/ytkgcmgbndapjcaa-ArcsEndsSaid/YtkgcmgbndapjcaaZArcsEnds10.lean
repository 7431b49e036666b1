/- Contracts and plain laws that the law ArcsEnds needs, part 10. -/
import Derived.Test.YtkgcmgbndapjcaaZArcsEnds9
namespace Go.Am
open Go Go.Proofs
set_option linter.unusedVariables false
set_option linter.unusedSimpArgs false
variable {w0 : World}
attribute [local irreducible] AWP ACalls
attribute [local congr] acalls_congr
def gh (H : Heap) (G C O m n : Nat) (gone has : Int → Bool) (out : List Int) : Heap :=
  upd (upd (upd H C (some (.arr 1 4 (labB n has) n))) O (some (.arr 1 3 (out.map I) out.length))) G (some (.arr 1 4 (labB m gone) m))
structure Dg (G C O : Nat) : Prop where
  cg : C ≠ G
  og : O ≠ G
  co : C ≠ O
section
variable {H : Heap} {G C O m n r : Nat} {gone has : Int → Bool} {out : List Int} {x : Option Blk}
theorem gh_G : gh H G C O m n gone has out G = some (.arr 1 4 (labB m gone) m) := by simp [gh]
theorem gh_C (d : Dg G C O) : gh H G C O m n gone has out C = some (.arr 1 4 (labB n has) n) := by simp [gh, d.cg, d.co]
theorem gh_O (d : Dg G C O) : gh H G C O m n gone has out O = some (.arr 1 3 (out.map I) out.length) := by simp [gh, d.og]
theorem gh_setG {w : Int} {y : Bool} (h0 : 0 ≤ w) : upd (gh H G C O m n gone has out) G (some (.arr 1 4 ((labB m gone).set w.toNat (B y)) m)) = gh H G C O m n (setF gone w y) has out := by
  unfold gh; rw [upd_upd, labB_set h0]
theorem gh_setC (d : Dg G C O) {w : Int} {y : Bool} (h0 : 0 ≤ w) : upd (gh H G C O m n gone has out) C (some (.arr 1 4 ((labB n has).set w.toNat (B y)) n)) = gh H G C O m n gone (setF has w y) out := by
  unfold gh; rw [upd_comm _ _ _ (Ne.symm d.cg), upd_comm _ _ _ (Ne.symm d.co), upd_upd, labB_set h0]
theorem gh_app (d : Dg G C O) {i : Int} : upd (gh H G C O m n gone has out) O (some (.arr 1 3 (out.map I ++ [I i]) (out.length + 1))) = gh H G C O m n gone has (out ++ [i]) := by
  unfold gh; rw [upd_comm _ _ _ (Ne.symm d.og), upd_upd]; simp
theorem gh_asO (d : Dg G C O) : gh H G C O m n gone has out = upd (upd (upd H C (some (.arr 1 4 (labB n has) n))) G (some (.arr 1 4 (labB m gone) m))) O (some (.arr 1 3 (out.map I) out.length)) := by
  unfold gh; rw [upd_comm _ _ _ d.og]
theorem gh_none (h : gh H G C O m n gone has out r = none) : r ≠ G ∧ r ≠ C ∧ r ≠ O ∧ H r = none := by
  unfold gh at h
  by_cases e1 : r = G
  · subst e1; simp [upd_same] at h
  rw [upd_ne _ _ _ e1] at h
  by_cases e2 : r = O
  · subst e2; simp [upd_same] at h
  rw [upd_ne _ _ _ e2] at h
  by_cases e3 : r = C
  · subst e3; simp [upd_same] at h
  rw [upd_ne _ _ _ e3] at h
  exact ⟨e1, e3, e2, h⟩
theorem gh_upd (h1 : r ≠ G) (h2 : r ≠ C) (h3 : r ≠ O) : upd (gh H G C O m n gone has out) r x = gh (upd H r x) G C O m n gone has out := by
  unfold gh; rw [upd_comm _ _ _ (Ne.symm h1), upd_comm _ _ _ (Ne.symm h3), upd_comm _ _ _ (Ne.symm h2)]
theorem gh_r (h1 : r ≠ G) (h2 : r ≠ C) (h3 : r ≠ O) : gh (upd H r x) G C O m n gone has out r = x := by simp [gh, h1, h2, h3]
theorem gh_sub (h : H r = none) (h1 : r ≠ G) (h2 : r ≠ C) (h3 : r ≠ O) : Sub (gh H G C O m n gone has out) (gh (upd H r x) G C O m n gone has out) := by
  rw [← gh_upd h1 h2 h3]
  refine sub_new ?_
  simp [gh, h1, h2, h3, h]
end
theorem sortI_set {l : List Int} {m : Nat} (hn : l.Nodup) (hr : ∀ i ∈ l, 0 ≤ i ∧ i < m) : sortI l = (upto m).filter fun i => decide (i ∈ l) := by
  have h1 : (sortI l).Pairwise (· ≤ ·) := by
    have := List.pairwise_mergeSort (le := fun x y : Int => decide (x ≤ y)) (fun a b c h1 h2 => by simp at *; omega) (fun a b => by simp; omega) l
    simpa [sortI] using this
  have hp : (sortI l).Perm l := List.mergeSort_perm _ _
  have h2 : (sortI l).Pairwise (· ≠ ·) := hp.nodup_iff.2 hn
  refine up_ext ((h1.and h2).imp fun h => by omega) ((up_upto _).filter _) fun x => ?_
  rw [hp.mem_iff, List.mem_filter, mem_upto]
  exact ⟨fun h => ⟨hr x h, by simpa using h⟩, fun h => by simpa using h.2⟩
set_option maxHeartbeats 4000000 in
theorem grow_use {H : Heap} {G n others : Nat} {arcs : List (Int × Int)} {gone : Int → Bool} {root : Int} (N : NetA n arcs root) (ho : others ≤ 1000) {K : AV → Heap → Prop} (hGn : H G = none)
    (k : K (ints (growL arcs n root others gone)) (upd H G (some (.arr 1 4 (labB arcs.length (finG arcs n root others gone).gone) arcs.length)))) :
    ACalls Try.prog w0 37 [I n, pairs arcs, .ref G 0 arcs.length arcs.length, I root, I others] (upd H G (some (.arr 1 4 (labB arcs.length gone) arcs.length))) K := by
  refine (?_ : ACalls Try.prog w0 37 [I n, pairs arcs, .ref G 0 arcs.length arcs.length, I root, I others] (upd H G (some (.arr 1 4 (labB arcs.length gone) arcs.length)))
    (fun v h => v = ints (growL arcs n root others gone) ∧ Sub (upd H G (some (.arr 1 4 (labB arcs.length (finG arcs n root others gone).gone) arcs.length))) h)).drop ?_
  rotate_left
  · rintro v H' ⟨rfl, s⟩
    exact ⟨_, s, k⟩
  clear k K
  have hn := N.nle
  have hm := N.mle
  have hrt := N.root
  have hrn : root.toNat < n := by omega
  refine w_enter Try.func37 rfl Try.ntmps37 (ts := [10]) rfl (by simp) (by kernel_rfl) ?_
  have hset0 := labB_set (n := n) (s := fun _ => false) (w := root) (x := true) hrt.1
  have hl0 := labB_length n (fun _ => false)
  repeat' (first
    | (with_reducible refine awp_skip ?_)
    | (with_reducible refine then_any ?_)
    | (with_reducible refine then_ret ?_)
    | (with_reducible refine then_exit ?_)
    | (with_reducible refine inBlock_normal ?_)
    | (with_reducible refine inBlock_ret ?_)
    | (with_reducible refine inBlock_hit ?_)
    | (with_reducible refine inBlock_miss (by decide) ?_)
    | (with_reducible refine awp_ret ?_)
    | (with_reducible refine awp_exit ?_)
    | (with_reducible refine post_ret ?_)
    | (with_reducible refine post_normal ?_)
    | (with_reducible refine awp_block ?_)
    | (with_reducible refine awp_scope_ret ?_)
    | (with_reducible refine awp_label ?_)
    | ((fail_if_success (with_reducible refine at_reg 4 ?_)); with_reducible refine v_reg [12] (fun K hK => ?_))
    | (with_reducible refine v_reg1 [12] (fun K hK => ?_))
    | ((fail_if_success (with_reducible refine at_reg 4 ?_)); with_reducible refine v_draw mixed [12] [] (by kernel_rfl) (fun K hK => ?_))
    | (with_reducible refine v_draw1 mixed [12] [] (by kernel_rfl) (fun K hK => ?_))
    | (with_reducible refine ev_nil (hK _ _ ?_); clear hK K)
    | (with_reducible refine ed_nil (hK _ _ ?_); clear hK K)
    | ((first | with_reducible refine ev_cons (fun K' hK' => ?_) | with_reducible refine ed_cons (fun K' hK' => ?_) | (with_reducible refine ev_id ?_; refine ev_guard rfl (fun K' hK' => ?_)) | (with_reducible refine ed_id ?_; refine ed_guard rfl (fun K' hK' => ?_))); simp [pairs, labB_rep, hrn, hrt.1, hrt.2, hset0, hl0]; repeat' (first | (with_reducible refine hK' _ _ ?_; clear hK' K') | (with_reducible refine And.intro ?_ ?_) | (with_reducible intro hg) | (clear hK' K'; omega)))
    | (with_reducible refine w_cond (fun A B hA hB => ?_); simp [pairs, labB_rep, hrn, hrt.1, hrt.2, hset0, hl0]; repeat' (first | (with_reducible refine hA ?_; clear hA hB A B) | (with_reducible refine hB ?_; clear hA hB A B) | (with_reducible refine And.intro ?_ ?_) | (with_reducible intro hc)))
    | ((fail_if_success (with_reducible refine at_reg 4 ?_)); with_reducible refine awp_seq ?_))
  rename_i C hC0 O
  obtain ⟨hCG, hC⟩ : C ≠ G ∧ H C = none := by
    have h1 : C ≠ G := by rintro rfl; simp at hC0
    exact ⟨h1, by rw [if_neg h1] at hC0; exact hC0⟩
  obtain ⟨hOC, hOG, hO⟩ : O ≠ C ∧ O ≠ G ∧ H O = none := by
    have h1 : O ≠ C := by rintro rfl; simp at hg
    rw [if_neg h1] at hg
    have h2 : O ≠ G := by rintro rfl; simp at hg
    exact ⟨h1, h2, by rw [if_neg h2] at hg; exact hg⟩
  clear hg hC0 hset0 hl0
  have d : Dg G C O := ⟨hCG, hOG, Ne.symm hOC⟩
  have hst : (upd (upd (upd H G (some (.arr 1 4 (labB arcs.length gone) arcs.length))) C (some (.arr 1 4 (labB n (setF (fun _ => false) root true)) n))) O (some (.arr 1 3 [] 0))) =
      gh H G C O arcs.length n (startG root gone).gone (startG root gone).has (startG root gone).out := by
    unfold gh
    rw [upd_comm H _ _ (Ne.symm hCG), upd_comm _ _ _ (Ne.symm hOG)]
    rfl
  generalize hiter : iterG arcs n root others gone = it at *
  have hfinG : finG arcs n root others gone = it (n - 1) := by rw [finG, hiter]
  have hinv : ∀ j, GInv arcs n root gone (it j) := fun j => by rw [← hiter]; exact .iter N gone j
  have hstop : ∀ j k, stepG arcs n root others (it j) = it j → j ≤ k → it k = it j := fun j k h1 h2 => by rw [← hiter] at *; exact iterG_stop h1 k h2
  have hnext : ∀ j, it (j + 1) = stepG arcs n root others (it j) := fun j => by rw [← hiter]; rfl
  have hz : it 0 = startG root gone := by rw [← hiter]; rfl
  rw [hst, ← hz]
  refine awp_loop_prep (fun env h => ∃ j : Nat, (it j).out.length = j ∧ env 0 = I n ∧ env 1 = pairs arcs ∧ env 2 = .ref G 0 arcs.length arcs.length ∧ env 3 = I root ∧ env 4 = I others ∧ env 11 = .ref C 0 n n ∧ env 12 = .ref O 0 (it j).out.length (it j).out.length ∧
      h = gh H G C O arcs.length n (it j).gone (it j).has (it j).out)
    (fun env h => ∃ j : Nat, (it j).out.length = j ∧ env 0 = I n ∧ env 1 = pairs arcs ∧ env 2 = .ref G 0 arcs.length arcs.length ∧ env 3 = I root ∧ env 4 = I others ∧ env 11 = .ref C 0 n n ∧ env 12 = .ref O 0 (it j).out.length (it j).out.length ∧
      Sub (gh H G C O arcs.length n (it j).gone (it j).has (it j).out) h) (fun env _ => n - lenA (env 12)) ?_ ?_ ?_
  · refine ⟨0, by rw [hz]; rfl, by simp, by simp [pairs], by simp, by simp, by simp, by simp, by rw [hz]; simp [startG], .refl _⟩
  · rintro env h ⟨j, a1, a2, a3, a4, a5, a6, a7, a8, s⟩ Q' q
    exact AWP.sub s (q env _ ⟨j, a1, a2, a3, a4, a5, a6, a7, a8, rfl⟩ rfl)
  rintro env h ⟨j, hj, h0, h1, h2, h3, h4, h11, h12, rfl⟩
  have hnat : lenA (env 12) = j := by simp [h12, lenA, hj]
  rw [hnat]; clear hnat
  have hI := hinv j
  have hjn := hI.len_lt
  by_cases hlt : j + 1 < n
  · have hlt' : (j : Int) < (n : Int) - 1 := by omega
    have hsI := hnext j
    generalize hs : it j = s at *
    repeat' (first
      | (with_reducible refine awp_skip ?_)
      | (with_reducible refine then_any ?_)
      | (with_reducible refine then_ret ?_)
      | (with_reducible refine then_exit ?_)
      | (with_reducible refine inBlock_normal ?_)
      | (with_reducible refine inBlock_ret ?_)
      | (with_reducible refine inBlock_hit ?_)
      | (with_reducible refine inBlock_miss (by decide) ?_)
      | (with_reducible refine awp_ret ?_)
      | (with_reducible refine awp_exit ?_)
      | (with_reducible refine post_ret ?_)
      | (with_reducible refine post_normal ?_)
      | (with_reducible refine awp_block ?_)
      | (with_reducible refine awp_scope_ret ?_)
      | (with_reducible refine awp_label ?_)
      | (with_reducible refine v_reg [] (fun K hK => ?_))
      | (with_reducible refine v_reg1 [] (fun K hK => ?_))
      | (with_reducible refine v_draw mixed [] [] (by kernel_rfl) (fun K hK => ?_))
      | (with_reducible refine v_draw1 mixed [] [] (by kernel_rfl) (fun K hK => ?_))
      | (with_reducible refine ev_nil (hK _ _ ?_); clear hK K)
      | (with_reducible refine ed_nil (hK _ _ ?_); clear hK K)
      | ((first | with_reducible refine ev_cons (fun K' hK' => ?_) | with_reducible refine ed_cons (fun K' hK' => ?_) | (with_reducible refine ev_id ?_; refine ev_guard rfl (fun K' hK' => ?_)) | (with_reducible refine ed_id ?_; refine ed_guard rfl (fun K' hK' => ?_))); simp [h0, h1, h2, h3, h4, h11, h12, hj, hlt', pairs]; repeat' (first | (with_reducible refine hK' _ _ ?_; clear hK' K') | (with_reducible refine And.intro ?_ ?_) | (with_reducible intro hg) | (clear hK' K'; omega)))
      | (with_reducible refine w_cond (fun A B hA hB => ?_); simp [h0, h1, h2, h3, h4, h11, h12, hj, hlt', pairs]; repeat' (first | (with_reducible refine hA ?_; clear hA hB A B) | (with_reducible refine hB ?_; clear hA hB A B) | (with_reducible refine And.intro ?_ ?_) | (with_reducible intro hc)))
      | (with_reducible refine awp_seq ?_))
    refine awp_loop_prep (fun env h => ∃ i : Nat, i ≤ arcs.length ∧ (∀ q : Int, 0 ≤ q → q < i → okG arcs n root others s q = false) ∧ env 27 = I i ∧ env 26 = I arcs.length ∧ env 25 = pairs arcs ∧
        env 0 = I n ∧ env 1 = pairs arcs ∧ env 2 = .ref G 0 arcs.length arcs.length ∧ env 3 = I root ∧ env 4 = I others ∧ env 11 = .ref C 0 n n ∧ env 12 = .ref O 0 s.out.length s.out.length ∧ h = gh H G C O arcs.length n s.gone s.has s.out)
      (fun env h => ∃ i : Nat, i ≤ arcs.length ∧ (∀ q : Int, 0 ≤ q → q < i → okG arcs n root others s q = false) ∧ env 27 = I i ∧ env 26 = I arcs.length ∧ env 25 = pairs arcs ∧
        env 0 = I n ∧ env 1 = pairs arcs ∧ env 2 = .ref G 0 arcs.length arcs.length ∧ env 3 = I root ∧ env 4 = I others ∧ env 11 = .ref C 0 n n ∧ env 12 = .ref O 0 s.out.length s.out.length ∧ Sub (gh H G C O arcs.length n s.gone s.has s.out) h) (fun env _ => arcs.length - natA (env 27)) ?_ ?_ ?_
    · exact ⟨0, by omega, fun q a b => by omega, by simp, by simp, by simp [pairs], by simp [h0], by simp [h1, pairs], by simp [h2], by simp [h3], by simp [h4], by simp [h11], by simp [h12, hj], .refl _⟩
    · clear h0 h1 h2 h3 h4 h11 h12
      rintro env h ⟨i, a1, a2, a3, a4, a5, a6, a7, a8, a9, a10, a11, a12, s⟩ Q' q
      exact AWP.sub s (q env _ ⟨i, a1, a2, a3, a4, a5, a6, a7, a8, a9, a10, a11, a12, rfl⟩ rfl)
    clear h0 h1 h2 h3 h4 h11 h12
    rintro env h ⟨i, hi, hno, h27, h26, h25, h0, h1, h2, h3, h4, h11, h12, rfl⟩
    have hnat : natA (env 27) = i := by simp [h27]
    rw [hnat]; clear hnat
    by_cases hil : i < arcs.length
    · have hp := pairs_get hil
      rw [tlA_get hil, hdA_get hil] at hp
      repeat' (first
        | (with_reducible refine awp_skip ?_)
        | (with_reducible refine then_any ?_)
        | (with_reducible refine then_ret ?_)
        | (with_reducible refine then_exit ?_)
        | (with_reducible refine inBlock_normal ?_)
        | (with_reducible refine inBlock_ret ?_)
        | (with_reducible refine inBlock_hit ?_)
        | (with_reducible refine inBlock_miss (by decide) ?_)
        | (with_reducible refine awp_ret ?_)
        | (with_reducible refine awp_exit ?_)
        | (with_reducible refine post_ret ?_)
        | (with_reducible refine post_normal ?_)
        | (with_reducible refine awp_block ?_)
        | (with_reducible refine awp_scope_ret ?_)
        | (with_reducible refine awp_label ?_)
        | ((fail_if_success (with_reducible refine at_reg 8 ?_)); with_reducible refine v_reg [] (fun K hK => ?_))
        | (with_reducible refine v_reg1 [] (fun K hK => ?_))
        | ((fail_if_success (with_reducible refine at_reg 8 ?_)); with_reducible refine v_draw mixed [] [] (by kernel_rfl) (fun K hK => ?_))
        | (with_reducible refine v_draw1 mixed [] [] (by kernel_rfl) (fun K hK => ?_))
        | (with_reducible refine ev_nil (hK _ _ ?_); clear hK K)
        | (with_reducible refine ed_nil (hK _ _ ?_); clear hK K)
        | ((first | with_reducible refine ev_cons (fun K' hK' => ?_) | with_reducible refine ed_cons (fun K' hK' => ?_) | (with_reducible refine ev_id ?_; refine ev_guard rfl (fun K' hK' => ?_)) | (with_reducible refine ed_id ?_; refine ed_guard rfl (fun K' hK' => ?_))); simp [h27, h26, h25, hil, pairs, pairs_len, sum2, hp.1, hp.2.1, hp.2.2]; repeat' (first | (with_reducible refine hK' _ _ ?_; clear hK' K') | (with_reducible refine And.intro ?_ ?_) | (with_reducible intro hg) | (clear hK' K'; omega)))
        | (with_reducible refine w_cond (fun A B hA hB => ?_); simp [h27, h26, h25, hil, pairs, pairs_len, sum2, hp.1, hp.2.1, hp.2.2]; repeat' (first | (with_reducible refine hA ?_; clear hA hB A B) | (with_reducible refine hB ?_; clear hA hB A B) | (with_reducible refine And.intro ?_ ?_) | (with_reducible intro hc)))
        | ((fail_if_success (with_reducible refine at_reg 8 ?_)); with_reducible refine awp_seq ?_))
      rename_i r
      obtain ⟨r1, r2, r3, r0⟩ := gh_none hg
      rw [gh_upd r1 r2 r3]
      have hsub := gh_sub (m := arcs.length) (n := n) (gone := s.gone) (has := s.has) (out := s.out) (x := some (.box [I (tlA arcs i), I (hdA arcs i)])) r0 r1 r2 r3
      clear hg
      obtain ⟨⟨t0, tn⟩, ⟨q0, qn⟩⟩ := N.ends i (by omega) (by omega)
      obtain ⟨tl, htl⟩ : ∃ x, x = tlA arcs i := ⟨_, rfl⟩
      obtain ⟨hd, hhd⟩ : ∃ x, x = hdA arcs i := ⟨_, rfl⟩
      rw [← htl] at t0 tn hsub
      rw [← hhd] at q0 qn hsub
      rw [← htl, ← hhd]
      have ttn : tl.toNat < n := by omega
      have hhn : hd.toNat < n := by omega
      have cat1 : ∀ (g : Int → Bool) h, (labB n g)[tl.toNat]'h = B (g tl) := fun g h => labB_at t0 h
      have cat2 : ∀ (g : Int → Bool) h, (labB n g)[hd.toNat]'h = B (g hd) := fun g h => labB_at q0 h
      have cln1 : ∀ g : Int → Bool, tl.toNat < (labB n g).length := fun g => by rw [labB_length]; exact ttn
      have cln2 : ∀ g : Int → Bool, hd.toNat < (labB n g).length := fun g => by rw [labB_length]; exact hhn
      have gat : ∀ (g : Int → Bool) h, (labB arcs.length g)[i]'h = B (g i) := fun g h => by
        have := labB_at (n := arcs.length) (s := g) (x := (i : Int)) (by omega) (by simpa using h)
        simpa using this
      have gln : ∀ g : Int → Bool, i < (labB arcs.length g).length := fun g => by rw [labB_length]; exact hil
      generalize hH' : upd H r (some (.box [I tl, I hd])) = H' at *
      have eR : ∀ {g has out}, gh H' G C O arcs.length n g has out r = some (.box [I tl, I hd]) := by
        intro g has out; rw [← hH']; exact gh_r r1 r2 r3
      have hskip : ∀ e : okG arcs n root others s i = false, ∀ q : Int, 0 ≤ q → q < (i + 1 : Nat) → okG arcs n root others s q = false := fun e q a b => by
        by_cases e' : q = i
        · rw [e']; exact e
        · exact hno q a (by omega)
      cases hg1 : s.gone i with
      | true =>
        have hf : okG arcs n root others s i = false := by simp [okG, hg1]
        repeat' (first
          | (with_reducible refine awp_skip ?_)
          | (with_reducible refine then_any ?_)
          | (with_reducible refine then_ret ?_)
          | (with_reducible refine then_exit ?_)
          | (with_reducible refine inBlock_normal ?_)
          | (with_reducible refine inBlock_ret ?_)
          | (with_reducible refine inBlock_hit ?_)
          | (with_reducible refine inBlock_miss (by decide) ?_)
          | (with_reducible refine awp_ret ?_)
          | (with_reducible refine awp_exit ?_)
          | (with_reducible refine post_ret ?_)
          | (with_reducible refine post_normal ?_)
          | (with_reducible refine awp_block ?_)
          | (with_reducible refine awp_scope_ret ?_)
          | (with_reducible refine awp_label ?_)
          | (with_reducible refine v_reg [] (fun K hK => ?_))
          | (with_reducible refine v_reg1 [] (fun K hK => ?_))
          | (with_reducible refine v_draw mixed [] [] (by kernel_rfl) (fun K hK => ?_))
          | (with_reducible refine v_draw1 mixed [] [] (by kernel_rfl) (fun K hK => ?_))
          | (with_reducible refine ev_nil (hK _ _ ?_); clear hK K)
          | (with_reducible refine ed_nil (hK _ _ ?_); clear hK K)
          | ((first | with_reducible refine ev_cons (fun K' hK' => ?_) | with_reducible refine ed_cons (fun K' hK' => ?_) | (with_reducible refine ev_id ?_; refine ev_guard rfl (fun K' hK' => ?_)) | (with_reducible refine ed_id ?_; refine ed_guard rfl (fun K' hK' => ?_))); simp [h27, h26, h25, h0, h1, h2, h3, h4, h11, h12, hil, eR, gh_G, gh_C d, cat1, cat2, cln1, cln2, gat, gln, labB_length, ttn, hhn, t0, q0, hg1]; repeat' (first | (with_reducible refine hK' _ _ ?_; clear hK' K') | (with_reducible refine And.intro ?_ ?_) | (with_reducible intro hg) | (clear hK' K'; omega)))
          | (with_reducible refine w_cond (fun A B hA hB => ?_); simp [h27, h26, h25, h0, h1, h2, h3, h4, h11, h12, hil, eR, gh_G, gh_C d, cat1, cat2, cln1, cln2, gat, gln, labB_length, ttn, hhn, t0, q0, hg1]; repeat' (first | (with_reducible refine hA ?_; clear hA hB A B) | (with_reducible refine hB ?_; clear hA hB A B) | (with_reducible refine And.intro ?_ ?_) | (with_reducible intro hc)))
          | (with_reducible refine awp_seq ?_))
        exact ⟨⟨i + 1, by omega, hskip hf, by simp, by simp [h26], by simp [h25], by simp [h0], by simp [h1], by simp [h2], by simp [h3], by simp [h4], by simp [h11], by simp [h12], hsub⟩, by simp; omega⟩
      | false =>
      cases hg2 : s.has tl with
      | false =>
        have hf : okG arcs n root others s i = false := by simp [okG, ← htl, hg2]
        repeat' (first
          | (with_reducible refine awp_skip ?_)
          | (with_reducible refine then_any ?_)
          | (with_reducible refine then_ret ?_)
          | (with_reducible refine then_exit ?_)
          | (with_reducible refine inBlock_normal ?_)
          | (with_reducible refine inBlock_ret ?_)
          | (with_reducible refine inBlock_hit ?_)
          | (with_reducible refine inBlock_miss (by decide) ?_)
          | (with_reducible refine awp_ret ?_)
          | (with_reducible refine awp_exit ?_)
          | (with_reducible refine post_ret ?_)
          | (with_reducible refine post_normal ?_)
          | (with_reducible refine awp_block ?_)
          | (with_reducible refine awp_scope_ret ?_)
          | (with_reducible refine awp_label ?_)
          | (with_reducible refine v_reg [] (fun K hK => ?_))
          | (with_reducible refine v_reg1 [] (fun K hK => ?_))
          | (with_reducible refine v_draw mixed [] [] (by kernel_rfl) (fun K hK => ?_))
          | (with_reducible refine v_draw1 mixed [] [] (by kernel_rfl) (fun K hK => ?_))
          | (with_reducible refine ev_nil (hK _ _ ?_); clear hK K)
          | (with_reducible refine ed_nil (hK _ _ ?_); clear hK K)
          | ((first | with_reducible refine ev_cons (fun K' hK' => ?_) | with_reducible refine ed_cons (fun K' hK' => ?_) | (with_reducible refine ev_id ?_; refine ev_guard rfl (fun K' hK' => ?_)) | (with_reducible refine ed_id ?_; refine ed_guard rfl (fun K' hK' => ?_))); simp [h27, h26, h25, h0, h1, h2, h3, h4, h11, h12, hil, eR, gh_G, gh_C d, cat1, cat2, cln1, cln2, gat, gln, labB_length, ttn, hhn, t0, q0, hg1, hg2]; repeat' (first | (with_reducible refine hK' _ _ ?_; clear hK' K') | (with_reducible refine And.intro ?_ ?_) | (with_reducible intro hg) | (clear hK' K'; omega)))
          | (with_reducible refine w_cond (fun A B hA hB => ?_); simp [h27, h26, h25, h0, h1, h2, h3, h4, h11, h12, hil, eR, gh_G, gh_C d, cat1, cat2, cln1, cln2, gat, gln, labB_length, ttn, hhn, t0, q0, hg1, hg2]; repeat' (first | (with_reducible refine hA ?_; clear hA hB A B) | (with_reducible refine hB ?_; clear hA hB A B) | (with_reducible refine And.intro ?_ ?_) | (with_reducible intro hc)))
          | (with_reducible refine awp_seq ?_))
        exact ⟨⟨i + 1, by omega, hskip hf, by simp, by simp [h26], by simp [h25], by simp [h0], by simp [h1], by simp [h2], by simp [h3], by simp [h4], by simp [h11], by simp [h12], hsub⟩, by simp; omega⟩
      | true =>
      cases hg3 : s.has hd with
      | true =>
        have hf : okG arcs n root others s i = false := by simp [okG, ← hhd, hg3]
        repeat' (first
          | (with_reducible refine awp_skip ?_)
          | (with_reducible refine then_any ?_)
          | (with_reducible refine then_ret ?_)
          | (with_reducible refine then_exit ?_)
          | (with_reducible refine inBlock_normal ?_)
          | (with_reducible refine inBlock_ret ?_)
          | (with_reducible refine inBlock_hit ?_)
          | (with_reducible refine inBlock_miss (by decide) ?_)
          | (with_reducible refine awp_ret ?_)
          | (with_reducible refine awp_exit ?_)
          | (with_reducible refine post_ret ?_)
          | (with_reducible refine post_normal ?_)
          | (with_reducible refine awp_block ?_)
          | (with_reducible refine awp_scope_ret ?_)
          | (with_reducible refine awp_label ?_)
          | (with_reducible refine v_reg [] (fun K hK => ?_))
          | (with_reducible refine v_reg1 [] (fun K hK => ?_))
          | (with_reducible refine v_draw mixed [] [] (by kernel_rfl) (fun K hK => ?_))
          | (with_reducible refine v_draw1 mixed [] [] (by kernel_rfl) (fun K hK => ?_))
          | (with_reducible refine ev_nil (hK _ _ ?_); clear hK K)
          | (with_reducible refine ed_nil (hK _ _ ?_); clear hK K)
          | ((first | with_reducible refine ev_cons (fun K' hK' => ?_) | with_reducible refine ed_cons (fun K' hK' => ?_) | (with_reducible refine ev_id ?_; refine ev_guard rfl (fun K' hK' => ?_)) | (with_reducible refine ed_id ?_; refine ed_guard rfl (fun K' hK' => ?_))); simp [h27, h26, h25, h0, h1, h2, h3, h4, h11, h12, hil, eR, gh_G, gh_C d, cat1, cat2, cln1, cln2, gat, gln, labB_length, ttn, hhn, t0, q0, hg1, hg2, hg3]; repeat' (first | (with_reducible refine hK' _ _ ?_; clear hK' K') | (with_reducible refine And.intro ?_ ?_) | (with_reducible intro hg) | (clear hK' K'; omega)))
          | (with_reducible refine w_cond (fun A B hA hB => ?_); simp [h27, h26, h25, h0, h1, h2, h3, h4, h11, h12, hil, eR, gh_G, gh_C d, cat1, cat2, cln1, cln2, gat, gln, labB_length, ttn, hhn, t0, q0, hg1, hg2, hg3]; repeat' (first | (with_reducible refine hA ?_; clear hA hB A B) | (with_reducible refine hB ?_; clear hA hB A B) | (with_reducible refine And.intro ?_ ?_) | (with_reducible intro hc)))
          | (with_reducible refine awp_seq ?_))
        exact ⟨⟨i + 1, by omega, hskip hf, by simp, by simp [h26], by simp [h25], by simp [h0], by simp [h1], by simp [h2], by simp [h3], by simp [h4], by simp [h11], by simp [h12], hsub⟩, by simp; omega⟩
      | false =>
      have hsetG : ∀ g y, upd (gh H' G C O arcs.length n g s.has s.out) G (some (.arr 1 4 ((labB arcs.length g).set i (B y)) arcs.length)) = gh H' G C O arcs.length n (setF g i y) s.has s.out := fun g y => by
        have := gh_setG (H := H') (G := G) (C := C) (O := O) (m := arcs.length) (n := n) (gone := g) (has := s.has) (out := s.out) (w := (i : Int)) (y := y) (by omega)
        rwa [show ((i : Int)).toNat = i by omega] at this
      have hen := enough_at (w0 := w0) (H := gh H' G C O arcs.length n (setF s.gone i true) s.has s.out) (G := G) (k := others) N gh_G ho
      cases he : enoughB arcs n (setF s.gone i true) root others with
      | false =>
        have hf : okG arcs n root others s i = false := by simp [okG, he]
        rw [he] at hen
        have hback : setF (setF s.gone i true) i false = s.gone := by
          funext x
          by_cases e : x = i
          · rw [e, setF_same, hg1]
          · rw [setF_ne _ _ e, setF_ne _ _ e]
        repeat' (first
          | (with_reducible refine awp_skip ?_)
          | (with_reducible refine then_any ?_)
          | (with_reducible refine then_ret ?_)
          | (with_reducible refine then_exit ?_)
          | (with_reducible refine inBlock_normal ?_)
          | (with_reducible refine inBlock_ret ?_)
          | (with_reducible refine inBlock_hit ?_)
          | (with_reducible refine inBlock_miss (by decide) ?_)
          | (with_reducible refine awp_ret ?_)
          | (with_reducible refine awp_exit ?_)
          | (with_reducible refine post_ret ?_)
          | (with_reducible refine post_normal ?_)
          | (with_reducible refine awp_block ?_)
          | (with_reducible refine awp_scope_ret ?_)
          | (with_reducible refine awp_label ?_)
          | (with_reducible refine v_reg [] (fun K hK => ?_))
          | (with_reducible refine v_reg1 [] (fun K hK => ?_))
          | (with_reducible refine v_draw mixed [] [] (by kernel_rfl) (fun K hK => ?_))
          | (with_reducible refine v_draw1 mixed [] [] (by kernel_rfl) (fun K hK => ?_))
          | (with_reducible refine ev_nil (hK _ _ ?_); clear hK K)
          | (with_reducible refine ed_nil (hK _ _ ?_); clear hK K)
          | ((first | with_reducible refine ev_cons (fun K' hK' => ?_) | with_reducible refine ed_cons (fun K' hK' => ?_) | (with_reducible refine ev_id ?_; refine ev_guard rfl (fun K' hK' => ?_)) | (with_reducible refine ed_id ?_; refine ed_guard rfl (fun K' hK' => ?_))); simp [h27, h26, h25, h0, h1, h2, h3, h4, h11, h12, hil, eR, gh_G, gh_C d, cat1, cat2, cln1, cln2, gat, gln, labB_length, ttn, hhn, t0, q0, hg1, hg2, hg3, hsetG, hback]; repeat' (first | (with_reducible refine hK' _ _ ?_; clear hK' K') | ((with_reducible refine hen.use ?_); try simp [h27, h26, h25, h0, h1, h2, h3, h4, h11, h12, hil, eR, gh_G, gh_C d, cat1, cat2, cln1, cln2, gat, gln, labB_length, ttn, hhn, t0, q0, hg1, hg2, hg3, hsetG, hback]) | (with_reducible refine And.intro ?_ ?_) | (with_reducible intro hg) | (clear hK' K'; omega)))
          | (with_reducible refine w_cond (fun A B hA hB => ?_); simp [h27, h26, h25, h0, h1, h2, h3, h4, h11, h12, hil, eR, gh_G, gh_C d, cat1, cat2, cln1, cln2, gat, gln, labB_length, ttn, hhn, t0, q0, hg1, hg2, hg3, hsetG, hback]; repeat' (first | (with_reducible refine hA ?_; clear hA hB A B) | (with_reducible refine hB ?_; clear hA hB A B) | (with_reducible refine And.intro ?_ ?_) | (with_reducible intro hc)))
          | (with_reducible refine awp_seq ?_))
        exact ⟨⟨i + 1, by omega, hskip hf, by simp, by simp [h26], by simp [h25], by simp [h0], by simp [h1], by simp [h2], by simp [h3], by simp [h4], by simp [h11], by simp [h12], hsub⟩, by simp; omega⟩
      | true =>
        have hf : okG arcs n root others s i = true := by simp [okG, ← htl, ← hhd, hg1, hg2, hg3, he]
        rw [he] at hen
        have hst2 := stepG_some hil hno hf
        rw [hst2] at hsI
        have hsetC := gh_setC (H := H') (m := arcs.length) (n := n) (gone := setF s.gone i true) (has := s.has) (out := s.out) d (w := hd) (y := true) q0
        have happ := gh_app (H := H') (m := arcs.length) (n := n) (gone := setF s.gone i true) (has := setF s.has hd true) (out := s.out) d (i := (i : Int))
        have hout : s.out.length ≤ 64 := by omega
        repeat' (first
          | (with_reducible refine awp_skip ?_)
          | (with_reducible refine then_any ?_)
          | (with_reducible refine then_ret ?_)
          | (with_reducible refine then_exit ?_)
          | (with_reducible refine inBlock_normal ?_)
          | (with_reducible refine inBlock_ret ?_)
          | (with_reducible refine inBlock_hit ?_)
          | (with_reducible refine inBlock_miss (by decide) ?_)
          | (with_reducible refine awp_ret ?_)
          | (with_reducible refine awp_exit ?_)
          | (with_reducible refine post_ret ?_)
          | (with_reducible refine post_normal ?_)
          | (with_reducible refine awp_block ?_)
          | (with_reducible refine awp_scope_ret ?_)
          | (with_reducible refine awp_label ?_)
          | (with_reducible refine v_reg [] (fun K hK => ?_))
          | (with_reducible refine v_reg1 [] (fun K hK => ?_))
          | (with_reducible refine v_draw mixed [] [] (by kernel_rfl) (fun K hK => ?_))
          | (with_reducible refine v_draw1 mixed [] [] (by kernel_rfl) (fun K hK => ?_))
          | (with_reducible refine ev_nil (hK _ _ ?_); clear hK K)
          | (with_reducible refine ed_nil (hK _ _ ?_); clear hK K)
          | ((first | with_reducible refine ev_cons (fun K' hK' => ?_) | with_reducible refine ed_cons (fun K' hK' => ?_) | (with_reducible refine ev_id ?_; refine ev_guard rfl (fun K' hK' => ?_)) | (with_reducible refine ed_id ?_; refine ed_guard rfl (fun K' hK' => ?_))); simp [h27, h26, h25, h0, h1, h2, h3, h4, h11, h12, hil, eR, gh_G, gh_C d, gh_O d, cat1, cat2, cln1, cln2, gat, gln, labB_length, ttn, hhn, t0, q0, hg1, hg2, hg3, hsetG, hsetC, happ]; repeat' (first | (with_reducible refine hK' _ _ ?_; clear hK' K') | ((with_reducible refine hen.use ?_); try simp [h27, h26, h25, h0, h1, h2, h3, h4, h11, h12, hil, eR, gh_G, gh_C d, gh_O d, cat1, cat2, cln1, cln2, gat, gln, labB_length, ttn, hhn, t0, q0, hg1, hg2, hg3, hsetG, hsetC, happ]) | (with_reducible refine And.intro ?_ ?_) | (with_reducible intro hg) | (clear hK' K'; omega)))
          | (with_reducible refine w_cond (fun A B hA hB => ?_); simp [h27, h26, h25, h0, h1, h2, h3, h4, h11, h12, hil, eR, gh_G, gh_C d, gh_O d, cat1, cat2, cln1, cln2, gat, gln, labB_length, ttn, hhn, t0, q0, hg1, hg2, hg3, hsetG, hsetC, happ]; repeat' (first | (with_reducible refine hA ?_; clear hA hB A B) | (with_reducible refine hB ?_; clear hA hB A B) | (with_reducible refine And.intro ?_ ?_) | (with_reducible intro hc)))
          | (with_reducible refine awp_seq ?_))
        have hij : it (j + 1) = takeG arcs s i := hsI
        have hsub2 := gh_sub (m := arcs.length) (n := n) (gone := setF s.gone i true) (has := setF s.has hd true) (out := s.out ++ [(i : Int)]) (x := some (.box [I tl, I hd])) r0 r1 r2 r3
        rw [hH'] at hsub2
        refine ⟨⟨j + 1, by rw [hij]; simp [takeG, hj], by simp [h0], by simp [h1], by simp [h2], by simp [h3], by simp [h4], by simp [h11], by rw [hij]; simp [takeG], by rw [hij]; simp only [takeG]; rw [← hhd]; exact hsub2⟩, by simp [lenA]; omega⟩
    · have : i = arcs.length := by omega
      subst this
      have hst2 := stepG_none hno
      have hfin : finG arcs n root others gone = s := by rw [hfinG, ← hs]; exact hstop j (n - 1) (by rw [hs]; exact hst2) (by omega)
      repeat' (first
        | (with_reducible refine awp_skip ?_)
        | (with_reducible refine then_any ?_)
        | (with_reducible refine then_ret ?_)
        | (with_reducible refine then_exit ?_)
        | (with_reducible refine inBlock_normal ?_)
        | (with_reducible refine inBlock_ret ?_)
        | (with_reducible refine inBlock_hit ?_)
        | (with_reducible refine inBlock_miss (by decide) ?_)
        | (with_reducible refine awp_ret ?_)
        | (with_reducible refine awp_exit ?_)
        | (with_reducible refine post_ret ?_)
        | (with_reducible refine post_normal ?_)
        | (with_reducible refine awp_block ?_)
        | (with_reducible refine awp_scope_ret ?_)
        | (with_reducible refine awp_label ?_)
        | ((fail_if_success (with_reducible refine at_reg 15 ?_)); with_reducible refine v_reg [] (fun K hK => ?_))
        | (with_reducible refine v_reg1 [] (fun K hK => ?_))
        | ((fail_if_success (with_reducible refine at_reg 15 ?_)); with_reducible refine v_draw mixed [] [] (by kernel_rfl) (fun K hK => ?_))
        | (with_reducible refine v_draw1 mixed [] [] (by kernel_rfl) (fun K hK => ?_))
        | (with_reducible refine ev_nil (hK _ _ ?_); clear hK K)
        | (with_reducible refine ed_nil (hK _ _ ?_); clear hK K)
        | ((first | with_reducible refine ev_cons (fun K' hK' => ?_) | with_reducible refine ed_cons (fun K' hK' => ?_) | (with_reducible refine ev_id ?_; refine ev_guard rfl (fun K' hK' => ?_)) | (with_reducible refine ed_id ?_; refine ed_guard rfl (fun K' hK' => ?_))); simp [h27, h26, h25]; repeat' (first | (with_reducible refine hK' _ _ ?_; clear hK' K') | (with_reducible refine And.intro ?_ ?_) | (with_reducible intro hg) | (clear hK' K'; omega)))
        | (with_reducible refine w_cond (fun A B hA hB => ?_); simp [h27, h26, h25]; repeat' (first | (with_reducible refine hA ?_; clear hA hB A B) | (with_reducible refine hB ?_; clear hA hB A B) | (with_reducible refine And.intro ?_ ?_) | (with_reducible intro hc)))
        | ((fail_if_success (with_reducible refine at_reg 15 ?_)); with_reducible refine awp_seq ?_))
      rw [gh_asO d]
      have hsrt := sortI_set hI.nodup hI.rng
      have hgl : growL arcs n root others gone = sortI s.out := by rw [hsrt, growL, hfin]
      have hsb : Sub (upd H G (some (.arr 1 4 (labB arcs.length (finG arcs n root others gone).gone) arcs.length))) (upd (upd (upd H C (some (.arr 1 4 (labB n s.has) n))) G (some (.arr 1 4 (labB arcs.length s.gone) arcs.length))) O none) := by
        rw [hfin, upd_comm H _ _ hCG]
        refine ((Sub.refl _).upd ?_ _).upd ?_ _
        · rw [upd_ne _ _ _ hCG]; exact hC
        · rw [upd_ne _ _ _ hOG]; exact hO
      by_cases hpos : 0 < s.out.length
      · repeat' (first
          | (with_reducible refine awp_skip ?_)
          | (with_reducible refine then_any ?_)
          | (with_reducible refine then_ret ?_)
          | (with_reducible refine then_exit ?_)
          | (with_reducible refine inBlock_normal ?_)
          | (with_reducible refine inBlock_ret ?_)
          | (with_reducible refine inBlock_hit ?_)
          | (with_reducible refine inBlock_miss (by decide) ?_)
          | (with_reducible refine awp_ret ?_)
          | (with_reducible refine awp_exit ?_)
          | (with_reducible refine post_ret ?_)
          | (with_reducible refine post_normal ?_)
          | (with_reducible refine awp_block ?_)
          | (with_reducible refine awp_scope_ret ?_)
          | (with_reducible refine awp_label ?_)
          | ((fail_if_success (with_reducible refine at_reg 16 ?_)); with_reducible refine v_reg [] (fun K hK => ?_))
          | (with_reducible refine v_reg1 [] (fun K hK => ?_))
          | ((fail_if_success (with_reducible refine at_reg 16 ?_)); with_reducible refine v_draw mixed [] [] (by kernel_rfl) (fun K hK => ?_))
          | (with_reducible refine v_draw1 mixed [] [] (by kernel_rfl) (fun K hK => ?_))
          | (with_reducible refine ev_nil (hK _ _ ?_); clear hK K)
          | (with_reducible refine ed_nil (hK _ _ ?_); clear hK K)
          | ((first | with_reducible refine ev_cons (fun K' hK' => ?_) | with_reducible refine ed_cons (fun K' hK' => ?_) | (with_reducible refine ev_id ?_; refine ev_guard rfl (fun K' hK' => ?_)) | (with_reducible refine ed_id ?_; refine ed_guard rfl (fun K' hK' => ?_))); simp [h12]; repeat' (first | (with_reducible refine hK' _ _ ?_; clear hK' K') | ((with_reducible refine sort_use (c := s.out) rfl (Nat.le_refl _) hpos (by omega) (fun c hc1 hc2 => ?_)); try simp [h12]) | (with_reducible refine And.intro ?_ ?_) | (with_reducible intro hg) | (clear hK' K'; omega)))
          | (with_reducible refine w_cond (fun A B hA hB => ?_); simp [h12]; repeat' (first | (with_reducible refine hA ?_; clear hA hB A B) | (with_reducible refine hB ?_; clear hA hB A B) | (with_reducible refine And.intro ?_ ?_) | (with_reducible intro hc)))
          | ((fail_if_success (with_reducible refine at_reg 16 ?_)); with_reducible refine awp_seq ?_))
        have hcs : c = sortI s.out := by rwa [List.take_of_length_le (by omega), List.take_length] at hc2
        refine awp_freeze 12 (r := O) (off := 0) (len := s.out.length) (top := s.out.length) (by simp [h12]) (upd_same _ _ _) ?_
        rw [← hc1, cut_map]
        repeat' (first
          | (with_reducible refine awp_skip ?_)
          | (with_reducible refine then_any ?_)
          | (with_reducible refine then_ret ?_)
          | (with_reducible refine then_exit ?_)
          | (with_reducible refine inBlock_normal ?_)
          | (with_reducible refine inBlock_ret ?_)
          | (with_reducible refine inBlock_hit ?_)
          | (with_reducible refine inBlock_miss (by decide) ?_)
          | (with_reducible refine awp_ret ?_)
          | (with_reducible refine awp_exit ?_)
          | (with_reducible refine post_ret ?_)
          | (with_reducible refine post_normal ?_)
          | (with_reducible refine awp_block ?_)
          | (with_reducible refine awp_scope_ret ?_)
          | (with_reducible refine awp_label ?_)
          | (with_reducible refine v_reg [] (fun K hK => ?_))
          | (with_reducible refine v_reg1 [] (fun K hK => ?_))
          | (with_reducible refine v_draw mixed [] [] (by kernel_rfl) (fun K hK => ?_))
          | (with_reducible refine v_draw1 mixed [] [] (by kernel_rfl) (fun K hK => ?_))
          | (with_reducible refine ev_nil (hK _ _ ?_); clear hK K)
          | (with_reducible refine ed_nil (hK _ _ ?_); clear hK K)
          | ((first | with_reducible refine ev_cons (fun K' hK' => ?_) | with_reducible refine ed_cons (fun K' hK' => ?_) | (with_reducible refine ev_id ?_; refine ev_guard rfl (fun K' hK' => ?_)) | (with_reducible refine ed_id ?_; refine ed_guard rfl (fun K' hK' => ?_))); simp; repeat' (first | (with_reducible refine hK' _ _ ?_; clear hK' K') | (with_reducible refine And.intro ?_ ?_) | (with_reducible intro hg) | (clear hK' K'; omega)))
          | (with_reducible refine w_cond (fun A B hA hB => ?_); simp; repeat' (first | (with_reducible refine hA ?_; clear hA hB A B) | (with_reducible refine hB ?_; clear hA hB A B) | (with_reducible refine And.intro ?_ ?_) | (with_reducible intro hc)))
          | (with_reducible refine awp_seq ?_))
        refine ⟨?_, hsb⟩
        rw [hgl, ← hcs]; simp [ints]
      · have hz0 : s.out.length = 0 := by omega
        have hnil : s.out = [] := List.length_eq_zero_iff.1 hz0
        rw [hz0] at h12
        repeat' (first
          | (with_reducible refine awp_skip ?_)
          | (with_reducible refine then_any ?_)
          | (with_reducible refine then_ret ?_)
          | (with_reducible refine then_exit ?_)
          | (with_reducible refine inBlock_normal ?_)
          | (with_reducible refine inBlock_ret ?_)
          | (with_reducible refine inBlock_hit ?_)
          | (with_reducible refine inBlock_miss (by decide) ?_)
          | (with_reducible refine awp_ret ?_)
          | (with_reducible refine awp_exit ?_)
          | (with_reducible refine post_ret ?_)
          | (with_reducible refine post_normal ?_)
          | (with_reducible refine awp_block ?_)
          | (with_reducible refine awp_scope_ret ?_)
          | (with_reducible refine awp_label ?_)
          | ((fail_if_success (with_reducible refine at_reg 16 ?_)); with_reducible refine v_reg [] (fun K hK => ?_))
          | (with_reducible refine v_reg1 [] (fun K hK => ?_))
          | ((fail_if_success (with_reducible refine at_reg 16 ?_)); with_reducible refine v_draw mixed [] [] (by kernel_rfl) (fun K hK => ?_))
          | (with_reducible refine v_draw1 mixed [] [] (by kernel_rfl) (fun K hK => ?_))
          | (with_reducible refine ev_nil (hK _ _ ?_); clear hK K)
          | (with_reducible refine ed_nil (hK _ _ ?_); clear hK K)
          | ((first | with_reducible refine ev_cons (fun K' hK' => ?_) | with_reducible refine ed_cons (fun K' hK' => ?_) | (with_reducible refine ev_id ?_; refine ev_guard rfl (fun K' hK' => ?_)) | (with_reducible refine ed_id ?_; refine ed_guard rfl (fun K' hK' => ?_))); simp [h12]; repeat' (first | (with_reducible refine hK' _ _ ?_; clear hK' K') | (with_reducible refine Ret.use sort_none ?_; try simp [h12]) | (with_reducible refine And.intro ?_ ?_) | (with_reducible intro hg) | (clear hK' K'; omega)))
          | (with_reducible refine w_cond (fun A B hA hB => ?_); simp [h12]; repeat' (first | (with_reducible refine hA ?_; clear hA hB A B) | (with_reducible refine hB ?_; clear hA hB A B) | (with_reducible refine And.intro ?_ ?_) | (with_reducible intro hc)))
          | ((fail_if_success (with_reducible refine at_reg 16 ?_)); with_reducible refine awp_seq ?_))
        refine awp_freeze 12 (r := O) (off := 0) (len := 0) (top := 0) (by simp [h12]) (by rw [upd_same, hz0]) ?_
        repeat' (first
          | (with_reducible refine awp_skip ?_)
          | (with_reducible refine then_any ?_)
          | (with_reducible refine then_ret ?_)
          | (with_reducible refine then_exit ?_)
          | (with_reducible refine inBlock_normal ?_)
          | (with_reducible refine inBlock_ret ?_)
          | (with_reducible refine inBlock_hit ?_)
          | (with_reducible refine inBlock_miss (by decide) ?_)
          | (with_reducible refine awp_ret ?_)
          | (with_reducible refine awp_exit ?_)
          | (with_reducible refine post_ret ?_)
          | (with_reducible refine post_normal ?_)
          | (with_reducible refine awp_block ?_)
          | (with_reducible refine awp_scope_ret ?_)
          | (with_reducible refine awp_label ?_)
          | (with_reducible refine v_reg [] (fun K hK => ?_))
          | (with_reducible refine v_reg1 [] (fun K hK => ?_))
          | (with_reducible refine v_draw mixed [] [] (by kernel_rfl) (fun K hK => ?_))
          | (with_reducible refine v_draw1 mixed [] [] (by kernel_rfl) (fun K hK => ?_))
          | (with_reducible refine ev_nil (hK _ _ ?_); clear hK K)
          | (with_reducible refine ed_nil (hK _ _ ?_); clear hK K)
          | ((first | with_reducible refine ev_cons (fun K' hK' => ?_) | with_reducible refine ed_cons (fun K' hK' => ?_) | (with_reducible refine ev_id ?_; refine ev_guard rfl (fun K' hK' => ?_)) | (with_reducible refine ed_id ?_; refine ed_guard rfl (fun K' hK' => ?_))); simp; repeat' (first | (with_reducible refine hK' _ _ ?_; clear hK' K') | (with_reducible refine And.intro ?_ ?_) | (with_reducible intro hg) | (clear hK' K'; omega)))
          | (with_reducible refine w_cond (fun A B hA hB => ?_); simp; repeat' (first | (with_reducible refine hA ?_; clear hA hB A B) | (with_reducible refine hB ?_; clear hA hB A B) | (with_reducible refine And.intro ?_ ?_) | (with_reducible intro hc)))
          | (with_reducible refine awp_seq ?_))
        refine ⟨?_, hsb⟩
        rw [hgl, hnil]
        simp [cut, sortI]
  · have hjl : j = n - 1 := by omega
    have hlt' : ¬ (j : Int) < (n : Int) - 1 := by omega
    have hfin : finG arcs n root others gone = it j := by rw [hfinG, ← hjl]
    generalize hs : it j = s at *
    repeat' (first
      | (with_reducible refine awp_skip ?_)
      | (with_reducible refine then_any ?_)
      | (with_reducible refine then_ret ?_)
      | (with_reducible refine then_exit ?_)
      | (with_reducible refine inBlock_normal ?_)
      | (with_reducible refine inBlock_ret ?_)
      | (with_reducible refine inBlock_hit ?_)
      | (with_reducible refine inBlock_miss (by decide) ?_)
      | (with_reducible refine awp_ret ?_)
      | (with_reducible refine awp_exit ?_)
      | (with_reducible refine post_ret ?_)
      | (with_reducible refine post_normal ?_)
      | (with_reducible refine awp_block ?_)
      | (with_reducible refine awp_scope_ret ?_)
      | (with_reducible refine awp_label ?_)
      | ((fail_if_success (with_reducible refine at_reg 15 ?_)); with_reducible refine v_reg [] (fun K hK => ?_))
      | (with_reducible refine v_reg1 [] (fun K hK => ?_))
      | ((fail_if_success (with_reducible refine at_reg 15 ?_)); with_reducible refine v_draw mixed [] [] (by kernel_rfl) (fun K hK => ?_))
      | (with_reducible refine v_draw1 mixed [] [] (by kernel_rfl) (fun K hK => ?_))
      | (with_reducible refine ev_nil (hK _ _ ?_); clear hK K)
      | (with_reducible refine ed_nil (hK _ _ ?_); clear hK K)
      | ((first | with_reducible refine ev_cons (fun K' hK' => ?_) | with_reducible refine ed_cons (fun K' hK' => ?_) | (with_reducible refine ev_id ?_; refine ev_guard rfl (fun K' hK' => ?_)) | (with_reducible refine ed_id ?_; refine ed_guard rfl (fun K' hK' => ?_))); simp [h0, h12, hj, hlt']; repeat' (first | (with_reducible refine hK' _ _ ?_; clear hK' K') | (with_reducible refine And.intro ?_ ?_) | (with_reducible intro hg) | (clear hK' K'; omega)))
      | (with_reducible refine w_cond (fun A B hA hB => ?_); simp [h0, h12, hj, hlt']; repeat' (first | (with_reducible refine hA ?_; clear hA hB A B) | (with_reducible refine hB ?_; clear hA hB A B) | (with_reducible refine And.intro ?_ ?_) | (with_reducible intro hc)))
      | ((fail_if_success (with_reducible refine at_reg 15 ?_)); with_reducible refine awp_seq ?_))
    rw [gh_asO d]
    have hsrt := sortI_set hI.nodup hI.rng
    have hgl : growL arcs n root others gone = sortI s.out := by rw [hsrt, growL, hfin]
    have hsb : Sub (upd H G (some (.arr 1 4 (labB arcs.length (finG arcs n root others gone).gone) arcs.length))) (upd (upd (upd H C (some (.arr 1 4 (labB n s.has) n))) G (some (.arr 1 4 (labB arcs.length s.gone) arcs.length))) O none) := by
      rw [hfin, upd_comm H _ _ hCG]
      refine ((Sub.refl _).upd ?_ _).upd ?_ _
      · rw [upd_ne _ _ _ hCG]; exact hC
      · rw [upd_ne _ _ _ hOG]; exact hO
    by_cases hpos : 0 < s.out.length
    · repeat' (first
        | (with_reducible refine awp_skip ?_)
        | (with_reducible refine then_any ?_)
        | (with_reducible refine then_ret ?_)
        | (with_reducible refine then_exit ?_)
        | (with_reducible refine inBlock_normal ?_)
        | (with_reducible refine inBlock_ret ?_)
        | (with_reducible refine inBlock_hit ?_)
        | (with_reducible refine inBlock_miss (by decide) ?_)
        | (with_reducible refine awp_ret ?_)
        | (with_reducible refine awp_exit ?_)
        | (with_reducible refine post_ret ?_)
        | (with_reducible refine post_normal ?_)
        | (with_reducible refine awp_block ?_)
        | (with_reducible refine awp_scope_ret ?_)
        | (with_reducible refine awp_label ?_)
        | ((fail_if_success (with_reducible refine at_reg 16 ?_)); with_reducible refine v_reg [] (fun K hK => ?_))
        | (with_reducible refine v_reg1 [] (fun K hK => ?_))
        | ((fail_if_success (with_reducible refine at_reg 16 ?_)); with_reducible refine v_draw mixed [] [] (by kernel_rfl) (fun K hK => ?_))
        | (with_reducible refine v_draw1 mixed [] [] (by kernel_rfl) (fun K hK => ?_))
        | (with_reducible refine ev_nil (hK _ _ ?_); clear hK K)
        | (with_reducible refine ed_nil (hK _ _ ?_); clear hK K)
        | ((first | with_reducible refine ev_cons (fun K' hK' => ?_) | with_reducible refine ed_cons (fun K' hK' => ?_) | (with_reducible refine ev_id ?_; refine ev_guard rfl (fun K' hK' => ?_)) | (with_reducible refine ed_id ?_; refine ed_guard rfl (fun K' hK' => ?_))); simp [h12]; repeat' (first | (with_reducible refine hK' _ _ ?_; clear hK' K') | ((with_reducible refine sort_use (c := s.out) rfl (Nat.le_refl _) hpos (by omega) (fun c hc1 hc2 => ?_)); try simp [h12]) | (with_reducible refine And.intro ?_ ?_) | (with_reducible intro hg) | (clear hK' K'; omega)))
        | (with_reducible refine w_cond (fun A B hA hB => ?_); simp [h12]; repeat' (first | (with_reducible refine hA ?_; clear hA hB A B) | (with_reducible refine hB ?_; clear hA hB A B) | (with_reducible refine And.intro ?_ ?_) | (with_reducible intro hc)))
        | ((fail_if_success (with_reducible refine at_reg 16 ?_)); with_reducible refine awp_seq ?_))
      have hcs : c = sortI s.out := by rwa [List.take_of_length_le (by omega), List.take_length] at hc2
      refine awp_freeze 12 (r := O) (off := 0) (len := s.out.length) (top := s.out.length) (by simp [h12]) (upd_same _ _ _) ?_
      rw [← hc1, cut_map]
      repeat' (first
        | (with_reducible refine awp_skip ?_)
        | (with_reducible refine then_any ?_)
        | (with_reducible refine then_ret ?_)
        | (with_reducible refine then_exit ?_)
        | (with_reducible refine inBlock_normal ?_)
        | (with_reducible refine inBlock_ret ?_)
        | (with_reducible refine inBlock_hit ?_)
        | (with_reducible refine inBlock_miss (by decide) ?_)
        | (with_reducible refine awp_ret ?_)
        | (with_reducible refine awp_exit ?_)
        | (with_reducible refine post_ret ?_)
        | (with_reducible refine post_normal ?_)
        | (with_reducible refine awp_block ?_)
        | (with_reducible refine awp_scope_ret ?_)
        | (with_reducible refine awp_label ?_)
        | (with_reducible refine v_reg [] (fun K hK => ?_))
        | (with_reducible refine v_reg1 [] (fun K hK => ?_))
        | (with_reducible refine v_draw mixed [] [] (by kernel_rfl) (fun K hK => ?_))
        | (with_reducible refine v_draw1 mixed [] [] (by kernel_rfl) (fun K hK => ?_))
        | (with_reducible refine ev_nil (hK _ _ ?_); clear hK K)
        | (with_reducible refine ed_nil (hK _ _ ?_); clear hK K)
        | ((first | with_reducible refine ev_cons (fun K' hK' => ?_) | with_reducible refine ed_cons (fun K' hK' => ?_) | (with_reducible refine ev_id ?_; refine ev_guard rfl (fun K' hK' => ?_)) | (with_reducible refine ed_id ?_; refine ed_guard rfl (fun K' hK' => ?_))); simp; repeat' (first | (with_reducible refine hK' _ _ ?_; clear hK' K') | (with_reducible refine And.intro ?_ ?_) | (with_reducible intro hg) | (clear hK' K'; omega)))
        | (with_reducible refine w_cond (fun A B hA hB => ?_); simp; repeat' (first | (with_reducible refine hA ?_; clear hA hB A B) | (with_reducible refine hB ?_; clear hA hB A B) | (with_reducible refine And.intro ?_ ?_) | (with_reducible intro hc)))
        | (with_reducible refine awp_seq ?_))
      refine ⟨?_, hsb⟩
      rw [hgl, ← hcs]; simp [ints]
    · have hz0 : s.out.length = 0 := by omega
      have hnil : s.out = [] := List.length_eq_zero_iff.1 hz0
      rw [hz0] at h12
      repeat' (first
        | (with_reducible refine awp_skip ?_)
        | (with_reducible refine then_any ?_)
        | (with_reducible refine then_ret ?_)
        | (with_reducible refine then_exit ?_)
        | (with_reducible refine inBlock_normal ?_)
        | (with_reducible refine inBlock_ret ?_)
        | (with_reducible refine inBlock_hit ?_)
        | (with_reducible refine inBlock_miss (by decide) ?_)
        | (with_reducible refine awp_ret ?_)
        | (with_reducible refine awp_exit ?_)
        | (with_reducible refine post_ret ?_)
        | (with_reducible refine post_normal ?_)
        | (with_reducible refine awp_block ?_)
        | (with_reducible refine awp_scope_ret ?_)
        | (with_reducible refine awp_label ?_)
        | ((fail_if_success (with_reducible refine at_reg 16 ?_)); with_reducible refine v_reg [] (fun K hK => ?_))
        | (with_reducible refine v_reg1 [] (fun K hK => ?_))
        | ((fail_if_success (with_reducible refine at_reg 16 ?_)); with_reducible refine v_draw mixed [] [] (by kernel_rfl) (fun K hK => ?_))
        | (with_reducible refine v_draw1 mixed [] [] (by kernel_rfl) (fun K hK => ?_))
        | (with_reducible refine ev_nil (hK _ _ ?_); clear hK K)
        | (with_reducible refine ed_nil (hK _ _ ?_); clear hK K)
        | ((first | with_reducible refine ev_cons (fun K' hK' => ?_) | with_reducible refine ed_cons (fun K' hK' => ?_) | (with_reducible refine ev_id ?_; refine ev_guard rfl (fun K' hK' => ?_)) | (with_reducible refine ed_id ?_; refine ed_guard rfl (fun K' hK' => ?_))); simp [h12]; repeat' (first | (with_reducible refine hK' _ _ ?_; clear hK' K') | (with_reducible refine Ret.use sort_none ?_; try simp [h12]) | (with_reducible refine And.intro ?_ ?_) | (with_reducible intro hg) | (clear hK' K'; omega)))
        | (with_reducible refine w_cond (fun A B hA hB => ?_); simp [h12]; repeat' (first | (with_reducible refine hA ?_; clear hA hB A B) | (with_reducible refine hB ?_; clear hA hB A B) | (with_reducible refine And.intro ?_ ?_) | (with_reducible intro hc)))
        | ((fail_if_success (with_reducible refine at_reg 16 ?_)); with_reducible refine awp_seq ?_))
      refine awp_freeze 12 (r := O) (off := 0) (len := 0) (top := 0) (by simp [h12]) (by rw [upd_same, hz0]) ?_
      repeat' (first
        | (with_reducible refine awp_skip ?_)
        | (with_reducible refine then_any ?_)
        | (with_reducible refine then_ret ?_)
        | (with_reducible refine then_exit ?_)
        | (with_reducible refine inBlock_normal ?_)
        | (with_reducible refine inBlock_ret ?_)
        | (with_reducible refine inBlock_hit ?_)
        | (with_reducible refine inBlock_miss (by decide) ?_)
        | (with_reducible refine awp_ret ?_)
        | (with_reducible refine awp_exit ?_)
        | (with_reducible refine post_ret ?_)
        | (with_reducible refine post_normal ?_)
        | (with_reducible refine awp_block ?_)
        | (with_reducible refine awp_scope_ret ?_)
        | (with_reducible refine awp_label ?_)
        | (with_reducible refine v_reg [] (fun K hK => ?_))
        | (with_reducible refine v_reg1 [] (fun K hK => ?_))
        | (with_reducible refine v_draw mixed [] [] (by kernel_rfl) (fun K hK => ?_))
        | (with_reducible refine v_draw1 mixed [] [] (by kernel_rfl) (fun K hK => ?_))
        | (with_reducible refine ev_nil (hK _ _ ?_); clear hK K)
        | (with_reducible refine ed_nil (hK _ _ ?_); clear hK K)
        | ((first | with_reducible refine ev_cons (fun K' hK' => ?_) | with_reducible refine ed_cons (fun K' hK' => ?_) | (with_reducible refine ev_id ?_; refine ev_guard rfl (fun K' hK' => ?_)) | (with_reducible refine ed_id ?_; refine ed_guard rfl (fun K' hK' => ?_))); simp; repeat' (first | (with_reducible refine hK' _ _ ?_; clear hK' K') | (with_reducible refine And.intro ?_ ?_) | (with_reducible intro hg) | (clear hK' K'; omega)))
        | (with_reducible refine w_cond (fun A B hA hB => ?_); simp; repeat' (first | (with_reducible refine hA ?_; clear hA hB A B) | (with_reducible refine hB ?_; clear hA hB A B) | (with_reducible refine And.intro ?_ ?_) | (with_reducible intro hc)))
        | (with_reducible refine awp_seq ?_))
      refine ⟨?_, hsb⟩
      rw [hgl, hnil]
      simp [cut, sortI]
end Go.Am
namespace Go.Am
open Go Go.Proofs
set_option linter.unusedVariables false
set_option linter.unusedSimpArgs false
variable {w0 : World}
attribute [local irreducible] AWP ACalls
attribute [local congr] acalls_congr
noncomputable def badV (arcs : List (Int × Int)) (n : Nat) (root : Int) (k : Nat) : Option Int := (upto n).find? fun v => decide (v ≠ root) && decide ((flowA arcs n no0 root v).1 < k)
noncomputable def packT (n : Int) (arcs : List (Int × Int)) (root k : Int) : AV :=
  if mayK n arcs root k then
    match badV arcs n.toNat root k.toNat with
    | some v => .tup [rows [], ints (flowA arcs n.toNat no0 root v).2, I 200]
    | none => .tup [rows (packI arcs n.toNat root k.toNat k.toNat).2, ints [], I 0]
  else .tup [rows [], ints [], I 1]
theorem badV_some {arcs : List (Int × Int)} {n : Nat} {root : Int} {k v : Nat} (h : v < n) (hno : ∀ u : Int, 0 ≤ u → u < v → u ≠ root → k ≤ (flowA arcs n no0 root u).1) (hr : (v : Int) ≠ root) (hv : (flowA arcs n no0 root v).1 < k) : badV arcs n root k = some (v : Int) := by
  rw [badV, List.find?_eq_some_iff_getElem]
  refine ⟨by simp [hr, hv], v, by simpa using h, by rw [upto_get], fun j hj => ?_⟩
  rw [upto_get]
  by_cases e : (j : Int) = root
  · simp [e]
  · have := hno j (by omega) (by omega) e
    simp [e]; omega
theorem badV_none {arcs : List (Int × Int)} {n : Nat} {root : Int} {k : Nat} (hno : ∀ u : Int, 0 ≤ u → u < n → u ≠ root → k ≤ (flowA arcs n no0 root u).1) : badV arcs n root k = none := by
  rw [badV, List.find?_eq_none]
  intro x hx
  obtain ⟨a, b⟩ := mem_upto.1 hx
  by_cases e : x = root
  · simp [e]
  · have := hno x a b e
    simp [e]; omega
theorem flowT_root {n root : Int} {arcs : List (Int × Int)} : flowT n arcs root root = .tup [I 0, ints [], I 1] := by simp [flowT, mayF]
theorem flowT_ok {n : Nat} {root v : Int} {arcs : List (Int × Int)} (hA : mayA n arcs root = true) (h0 : 0 ≤ v) (h1 : v < n) (hr : v ≠ root) :
    flowT n arcs root v = .tup [I (flowA arcs n no0 root v).1, ints (flowA arcs n no0 root v).2, I 0] := by
  have : mayF n arcs root v = true := by simp [mayF, hA, h0, h1, hr]
  simp [flowT, this]
theorem packI_length (arcs : List (Int × Int)) (n : Nat) (root : Int) (k i : Nat) : (packI arcs n root k i).2.length = i := by
  induction i with
  | zero => rfl
  | succ i ih => simp [packI, ih]
set_option maxHeartbeats 4000000 in
theorem pack_ret {n root k : Int} {arcs : List (Int × Int)} (ha : smLen arcs) : Ret Try.prog w0 14 [I n, pairs arcs, I root, I k] (packT n arcs root k) := by
  intro H
  have hmay := arcsMay_ret (w0 := w0) (n := n) (root := root) (k := k) ha
  refine w_enter Try.func14 rfl Try.ntmps14 (ts := [8, 9, 10]) rfl (by simp) (by kernel_rfl) ?_
  cases hK : mayK n arcs root k with
  | false =>
    repeat' (first
      | (with_reducible refine awp_skip ?_)
      | (with_reducible refine then_any ?_)
      | (with_reducible refine then_ret ?_)
      | (with_reducible refine then_exit ?_)
      | (with_reducible refine inBlock_normal ?_)
      | (with_reducible refine inBlock_ret ?_)
      | (with_reducible refine inBlock_hit ?_)
      | (with_reducible refine inBlock_miss (by decide) ?_)
      | (with_reducible refine awp_ret ?_)
      | (with_reducible refine awp_exit ?_)
      | (with_reducible refine post_ret ?_)
      | (with_reducible refine post_normal ?_)
      | (with_reducible refine awp_block ?_)
      | (with_reducible refine awp_scope_ret ?_)
      | (with_reducible refine awp_label ?_)
      | (with_reducible refine v_reg [] (fun K hK => ?_))
      | (with_reducible refine v_reg1 [] (fun K hK => ?_))
      | (with_reducible refine v_draw mixed [] [] (by kernel_rfl) (fun K hK => ?_))
      | (with_reducible refine v_draw1 mixed [] [] (by kernel_rfl) (fun K hK => ?_))
      | (with_reducible refine ev_nil (hK _ _ ?_); clear hK K)
      | (with_reducible refine ed_nil (hK _ _ ?_); clear hK K)
      | ((first | with_reducible refine ev_cons (fun K' hK' => ?_) | with_reducible refine ed_cons (fun K' hK' => ?_) | (with_reducible refine ev_id ?_; refine ev_guard rfl (fun K' hK' => ?_)) | (with_reducible refine ed_id ?_; refine ed_guard rfl (fun K' hK' => ?_))); simp [hK]; repeat' (first | (with_reducible refine hK' _ _ ?_; clear hK' K') | (with_reducible refine Ret.use hmay ?_; try simp [hK]) | (with_reducible refine And.intro ?_ ?_) | (with_reducible intro hg) | (clear hK' K'; omega)))
      | (with_reducible refine w_cond (fun A B hA hB => ?_); simp [hK]; repeat' (first | (with_reducible refine hA ?_; clear hA hB A B) | (with_reducible refine hB ?_; clear hA hB A B) | (with_reducible refine And.intro ?_ ?_) | (with_reducible intro hc)))
      | (with_reducible refine awp_seq ?_))
    simp [packT, hK, rows]
  | true =>
  have hK' := hK
  simp only [mayK, Bool.and_eq_true, decide_eq_true_eq] at hK'
  obtain ⟨⟨hA, hk1⟩, hk8⟩ := hK'
  obtain ⟨m, rfl, hm1, N⟩ := mayA_net hA
  obtain ⟨kk, rfl⟩ := Int.eq_ofNat_of_zero_le (show 0 ≤ k by omega)
  have hnl := N.nle
  repeat' (first
    | (with_reducible refine awp_skip ?_)
    | (with_reducible refine then_any ?_)
    | (with_reducible refine then_ret ?_)
    | (with_reducible refine then_exit ?_)
    | (with_reducible refine inBlock_normal ?_)
    | (with_reducible refine inBlock_ret ?_)
    | (with_reducible refine inBlock_hit ?_)
    | (with_reducible refine inBlock_miss (by decide) ?_)
    | (with_reducible refine awp_ret ?_)
    | (with_reducible refine awp_exit ?_)
    | (with_reducible refine post_ret ?_)
    | (with_reducible refine post_normal ?_)
    | (with_reducible refine awp_block ?_)
    | (with_reducible refine awp_scope_ret ?_)
    | (with_reducible refine awp_label ?_)
    | (with_reducible refine v_reg [] (fun K hK => ?_))
    | (with_reducible refine v_reg1 [] (fun K hK => ?_))
    | (with_reducible refine v_draw mixed [] [] (by kernel_rfl) (fun K hK => ?_))
    | (with_reducible refine v_draw1 mixed [] [] (by kernel_rfl) (fun K hK => ?_))
    | (with_reducible refine ev_nil (hK _ _ ?_); clear hK K)
    | (with_reducible refine ed_nil (hK _ _ ?_); clear hK K)
    | ((first | with_reducible refine ev_cons (fun K' hK' => ?_) | with_reducible refine ed_cons (fun K' hK' => ?_) | (with_reducible refine ev_id ?_; refine ev_guard rfl (fun K' hK' => ?_)) | (with_reducible refine ed_id ?_; refine ed_guard rfl (fun K' hK' => ?_))); simp [hK]; repeat' (first | (with_reducible refine hK' _ _ ?_; clear hK' K') | (with_reducible refine Ret.use hmay ?_; try simp [hK]) | (with_reducible refine And.intro ?_ ?_) | (with_reducible intro hg) | (clear hK' K'; omega)))
    | (with_reducible refine w_cond (fun A B hA hB => ?_); simp [hK]; repeat' (first | (with_reducible refine hA ?_; clear hA hB A B) | (with_reducible refine hB ?_; clear hA hB A B) | (with_reducible refine And.intro ?_ ?_) | (with_reducible intro hc)))
    | (with_reducible refine awp_seq ?_))
  refine awp_loop (fun env h => ∃ v : Nat, v ≤ m ∧ (∀ u : Int, 0 ≤ u → u < v → u ≠ root → kk ≤ (flowA arcs m no0 root u).1) ∧ env 25 = I v ∧ env 24 = I m ∧ env 0 = I m ∧ env 1 = pairs arcs ∧ env 2 = I root ∧ env 3 = I kk ∧ h = H) (fun env _ => m - natA (env 25)) ?_ ?_
  · exact ⟨0, by omega, fun u a b => by omega, by simp, by simp, by simp, by simp, by simp, by simp, rfl⟩
  rintro env h ⟨v, hv, hno, h25, h24, h0, h1, h2, h3, rfl⟩
  have hnat : natA (env 25) = v := by simp [h25]
  rw [hnat]; clear hnat
  by_cases hlt : v < m
  · have hfl := flow_ret (w0 := w0) (n := m) (root := root) (v := v) ha
    by_cases hr : (v : Int) = root
    · subst hr
      rw [flowT_root] at hfl
      repeat' (first
        | (with_reducible refine awp_skip ?_)
        | (with_reducible refine then_any ?_)
        | (with_reducible refine then_ret ?_)
        | (with_reducible refine then_exit ?_)
        | (with_reducible refine inBlock_normal ?_)
        | (with_reducible refine inBlock_ret ?_)
        | (with_reducible refine inBlock_hit ?_)
        | (with_reducible refine inBlock_miss (by decide) ?_)
        | (with_reducible refine awp_ret ?_)
        | (with_reducible refine awp_exit ?_)
        | (with_reducible refine post_ret ?_)
        | (with_reducible refine post_normal ?_)
        | (with_reducible refine awp_block ?_)
        | (with_reducible refine awp_scope_ret ?_)
        | (with_reducible refine awp_label ?_)
        | (with_reducible refine v_reg [] (fun K hK => ?_))
        | (with_reducible refine v_reg1 [] (fun K hK => ?_))
        | (with_reducible refine v_draw mixed [] [] (by kernel_rfl) (fun K hK => ?_))
        | (with_reducible refine v_draw1 mixed [] [] (by kernel_rfl) (fun K hK => ?_))
        | (with_reducible refine ev_nil (hK _ _ ?_); clear hK K)
        | (with_reducible refine ed_nil (hK _ _ ?_); clear hK K)
        | ((first | with_reducible refine ev_cons (fun K' hK' => ?_) | with_reducible refine ed_cons (fun K' hK' => ?_) | (with_reducible refine ev_id ?_; refine ev_guard rfl (fun K' hK' => ?_)) | (with_reducible refine ed_id ?_; refine ed_guard rfl (fun K' hK' => ?_))); simp [h25, h24, h0, h1, h2, h3, hlt]; repeat' (first | (with_reducible refine hK' _ _ ?_; clear hK' K') | (with_reducible refine Ret.use hfl ?_; try simp [h25, h24, h0, h1, h2, h3, hlt]) | (with_reducible refine And.intro ?_ ?_) | (with_reducible intro hg) | (clear hK' K'; omega)))
        | (with_reducible refine w_cond (fun A B hA hB => ?_); simp [h25, h24, h0, h1, h2, h3, hlt]; repeat' (first | (with_reducible refine hA ?_; clear hA hB A B) | (with_reducible refine hB ?_; clear hA hB A B) | (with_reducible refine And.intro ?_ ?_) | (with_reducible intro hc)))
        | (with_reducible refine awp_seq ?_))
      exact ⟨⟨v + 1, by omega, fun u a b c => hno u a (by omega) c, by simp, by simp [h24], by simp [h0], by simp [h1], by simp [h2], by simp [h3], rfl⟩, by simp; omega⟩
    · rw [flowT_ok hA (by omega) (by omega) hr] at hfl
      by_cases hu : (flowA arcs m no0 root v).1 < kk
      · have hb := badV_some hlt hno hr hu
        repeat' (first
          | (with_reducible refine awp_skip ?_)
          | (with_reducible refine then_any ?_)
          | (with_reducible refine then_ret ?_)
          | (with_reducible refine then_exit ?_)
          | (with_reducible refine inBlock_normal ?_)
          | (with_reducible refine inBlock_ret ?_)
          | (with_reducible refine inBlock_hit ?_)
          | (with_reducible refine inBlock_miss (by decide) ?_)
          | (with_reducible refine awp_ret ?_)
          | (with_reducible refine awp_exit ?_)
          | (with_reducible refine post_ret ?_)
          | (with_reducible refine post_normal ?_)
          | (with_reducible refine awp_block ?_)
          | (with_reducible refine awp_scope_ret ?_)
          | (with_reducible refine awp_label ?_)
          | (with_reducible refine v_reg [] (fun K hK => ?_))
          | (with_reducible refine v_reg1 [] (fun K hK => ?_))
          | (with_reducible refine v_draw mixed [] [] (by kernel_rfl) (fun K hK => ?_))
          | (with_reducible refine v_draw1 mixed [] [] (by kernel_rfl) (fun K hK => ?_))
          | (with_reducible refine ev_nil (hK _ _ ?_); clear hK K)
          | (with_reducible refine ed_nil (hK _ _ ?_); clear hK K)
          | ((first | with_reducible refine ev_cons (fun K' hK' => ?_) | with_reducible refine ed_cons (fun K' hK' => ?_) | (with_reducible refine ev_id ?_; refine ev_guard rfl (fun K' hK' => ?_)) | (with_reducible refine ed_id ?_; refine ed_guard rfl (fun K' hK' => ?_))); simp [h25, h24, h0, h1, h2, h3, hlt, hu]; repeat' (first | (with_reducible refine hK' _ _ ?_; clear hK' K') | (with_reducible refine Ret.use hfl ?_; try simp [h25, h24, h0, h1, h2, h3, hlt, hu]) | (with_reducible refine And.intro ?_ ?_) | (with_reducible intro hg) | (clear hK' K'; omega)))
          | (with_reducible refine w_cond (fun A B hA hB => ?_); simp [h25, h24, h0, h1, h2, h3, hlt, hu]; repeat' (first | (with_reducible refine hA ?_; clear hA hB A B) | (with_reducible refine hB ?_; clear hA hB A B) | (with_reducible refine And.intro ?_ ?_) | (with_reducible intro hc)))
          | (with_reducible refine awp_seq ?_))
        simp [packT, hK, hb, rows]
      · repeat' (first
          | (with_reducible refine awp_skip ?_)
          | (with_reducible refine then_any ?_)
          | (with_reducible refine then_ret ?_)
          | (with_reducible refine then_exit ?_)
          | (with_reducible refine inBlock_normal ?_)
          | (with_reducible refine inBlock_ret ?_)
          | (with_reducible refine inBlock_hit ?_)
          | (with_reducible refine inBlock_miss (by decide) ?_)
          | (with_reducible refine awp_ret ?_)
          | (with_reducible refine awp_exit ?_)
          | (with_reducible refine post_ret ?_)
          | (with_reducible refine post_normal ?_)
          | (with_reducible refine awp_block ?_)
          | (with_reducible refine awp_scope_ret ?_)
          | (with_reducible refine awp_label ?_)
          | (with_reducible refine v_reg [] (fun K hK => ?_))
          | (with_reducible refine v_reg1 [] (fun K hK => ?_))
          | (with_reducible refine v_draw mixed [] [] (by kernel_rfl) (fun K hK => ?_))
          | (with_reducible refine v_draw1 mixed [] [] (by kernel_rfl) (fun K hK => ?_))
          | (with_reducible refine ev_nil (hK _ _ ?_); clear hK K)
          | (with_reducible refine ed_nil (hK _ _ ?_); clear hK K)
          | ((first | with_reducible refine ev_cons (fun K' hK' => ?_) | with_reducible refine ed_cons (fun K' hK' => ?_) | (with_reducible refine ev_id ?_; refine ev_guard rfl (fun K' hK' => ?_)) | (with_reducible refine ed_id ?_; refine ed_guard rfl (fun K' hK' => ?_))); simp [h25, h24, h0, h1, h2, h3, hlt, hu]; repeat' (first | (with_reducible refine hK' _ _ ?_; clear hK' K') | (with_reducible refine Ret.use hfl ?_; try simp [h25, h24, h0, h1, h2, h3, hlt, hu]) | (with_reducible refine And.intro ?_ ?_) | (with_reducible intro hg) | (clear hK' K'; omega)))
          | (with_reducible refine w_cond (fun A B hA hB => ?_); simp [h25, h24, h0, h1, h2, h3, hlt, hu]; repeat' (first | (with_reducible refine hA ?_; clear hA hB A B) | (with_reducible refine hB ?_; clear hA hB A B) | (with_reducible refine And.intro ?_ ?_) | (with_reducible intro hc)))
          | (with_reducible refine awp_seq ?_))
        exact ⟨⟨v + 1, by omega, fun u a b c => by by_cases e : u = v; (· rw [e]; omega); (· exact hno u a (by omega) c), by simp, by simp [h24], by simp [h0], by simp [h1], by simp [h2], by simp [h3], rfl⟩, by simp; omega⟩
  · have : v = m := by omega
    subst this
    have hb := badV_none hno
    have hml := N.mle
    repeat' (first
      | (with_reducible refine awp_skip ?_)
      | (with_reducible refine then_any ?_)
      | (with_reducible refine then_ret ?_)
      | (with_reducible refine then_exit ?_)
      | (with_reducible refine inBlock_normal ?_)
      | (with_reducible refine inBlock_ret ?_)
      | (with_reducible refine inBlock_hit ?_)
      | (with_reducible refine inBlock_miss (by decide) ?_)
      | (with_reducible refine awp_ret ?_)
      | (with_reducible refine awp_exit ?_)
      | (with_reducible refine post_ret ?_)
      | (with_reducible refine post_normal ?_)
      | (with_reducible refine awp_block ?_)
      | (with_reducible refine awp_scope_ret ?_)
      | (with_reducible refine awp_label ?_)
      | (with_reducible refine v_reg [16] (fun K hK => ?_))
      | (with_reducible refine v_reg1 [16] (fun K hK => ?_))
      | (with_reducible refine v_draw mixed [16] [] (by kernel_rfl) (fun K hK => ?_))
      | (with_reducible refine v_draw1 mixed [16] [] (by kernel_rfl) (fun K hK => ?_))
      | (with_reducible refine ev_nil (hK _ _ ?_); clear hK K)
      | (with_reducible refine ed_nil (hK _ _ ?_); clear hK K)
      | ((first | with_reducible refine ev_cons (fun K' hK' => ?_) | with_reducible refine ed_cons (fun K' hK' => ?_) | (with_reducible refine ev_id ?_; refine ev_guard rfl (fun K' hK' => ?_)) | (with_reducible refine ed_id ?_; refine ed_guard rfl (fun K' hK' => ?_))); simp [h25, h24, h0, h1, h2, h3, pairs]; repeat' (first | (with_reducible refine hK' _ _ ?_; clear hK' K') | (with_reducible refine And.intro ?_ ?_) | (with_reducible intro hg) | (clear hK' K'; omega)))
      | (with_reducible refine w_cond (fun A B hA hB => ?_); simp [h25, h24, h0, h1, h2, h3, pairs]; repeat' (first | (with_reducible refine hA ?_; clear hA hB A B) | (with_reducible refine hB ?_; clear hA hB A B) | (with_reducible refine And.intro ?_ ?_) | (with_reducible intro hc)))
      | (with_reducible refine awp_seq ?_))
    rename_i G hG O
    obtain ⟨hOG, hO⟩ : O ≠ G ∧ h O = none := by
      have h1 : O ≠ G := by rintro rfl; simp at hg
      exact ⟨h1, by rw [if_neg h1] at hg; exact hg⟩
    clear hg
    have hGO : upd h O (some (Blk.arr 1 27 [] 0)) G = none := by rw [upd_ne _ _ _ (Ne.symm hOG)]; exact hG
    rw [labB_rep, upd_comm _ _ _ (Ne.symm hOG)]
    refine awp_loop (fun env h' => ∃ i : Nat, i ≤ kk ∧ env 50 = I i ∧ env 49 = I kk ∧ env 0 = I v ∧ env 1 = pairs arcs ∧ env 2 = I root ∧ env 3 = I kk ∧ env 15 = .ref G 0 arcs.length arcs.length ∧ env 16 = .ref O 0 i i ∧
      h' = upd (upd h O (some (.arr 1 27 ((packI arcs v root kk i).2.map ints) i))) G (some (.arr 1 4 (labB arcs.length (packI arcs v root kk i).1) arcs.length))) (fun env _ => kk - natA (env 50)) ?_ ?_
    · exact ⟨0, by omega, by simp, by simp, by simp [h0], by simp [h1], by simp [h2], by simp [h3], by simp, by simp, by simp [packI]⟩
    clear h25 h24 h0 h1 h2 h3
    rintro env h' ⟨i, hi, h50, h49, h0, h1, h2, h3, h15, h16, rfl⟩
    have hnat : natA (env 50) = i := by simp [h50]
    rw [hnat]; clear hnat
    by_cases hik : i < kk
    · have hcast : (kk : Int) - 1 - i = ((kk - 1 - i : Nat) : Int) := by omega
      have hcast2 : ((kk - 1 - i : Nat) : Int) = (kk : Int) - 1 - i := by omega
      have hpl := packI_length arcs v root kk i
      have hsucc : packI arcs v root kk (i + 1) = ((finG arcs v root (kk - 1 - i) (packI arcs v root kk i).1).gone, (packI arcs v root kk i).2 ++ [growL arcs v root (kk - 1 - i) (packI arcs v root kk i).1]) := rfl
      obtain ⟨⟨g, L⟩, hgL⟩ : ∃ p, p = packI arcs v root kk i := ⟨_, rfl⟩
      rw [← hgL] at hpl hsucc ⊢
      have hgrow := fun (Hx : Heap) (hx : Hx G = none) (K : AV → Heap → Prop) k' => grow_use (w0 := w0) (H := Hx) (G := G) (n := v) (others := kk - 1 - i) (gone := g) (K := K) N (by omega) hx k'
      simp only [hcast2] at hgrow
      have hx : upd h O (some (.arr 1 27 (L.map ints) i)) G = none := by rw [upd_ne _ _ _ (Ne.symm hOG)]; exact hG
      have hll : L.length ≤ 8 := by simp only at hpl; omega
      simp only at hpl
      have hupd : ∀ a b c, upd (upd (upd h O a) G b) O c = upd (upd h O c) G b := fun a b c => by rw [upd_comm _ _ _ (Ne.symm hOG), upd_upd]
      repeat' (first
        | (with_reducible refine awp_skip ?_)
        | (with_reducible refine then_any ?_)
        | (with_reducible refine then_ret ?_)
        | (with_reducible refine then_exit ?_)
        | (with_reducible refine inBlock_normal ?_)
        | (with_reducible refine inBlock_ret ?_)
        | (with_reducible refine inBlock_hit ?_)
        | (with_reducible refine inBlock_miss (by decide) ?_)
        | (with_reducible refine awp_ret ?_)
        | (with_reducible refine awp_exit ?_)
        | (with_reducible refine post_ret ?_)
        | (with_reducible refine post_normal ?_)
        | (with_reducible refine awp_block ?_)
        | (with_reducible refine awp_scope_ret ?_)
        | (with_reducible refine awp_label ?_)
        | (with_reducible refine v_reg [] (fun K hK => ?_))
        | (with_reducible refine v_reg1 [] (fun K hK => ?_))
        | (with_reducible refine v_draw mixed [] [] (by kernel_rfl) (fun K hK => ?_))
        | (with_reducible refine v_draw1 mixed [] [] (by kernel_rfl) (fun K hK => ?_))
        | (with_reducible refine ev_nil (hK _ _ ?_); clear hK K)
        | (with_reducible refine ed_nil (hK _ _ ?_); clear hK K)
        | ((first | with_reducible refine ev_cons (fun K' hK' => ?_) | with_reducible refine ed_cons (fun K' hK' => ?_) | (with_reducible refine ev_id ?_; refine ev_guard rfl (fun K' hK' => ?_)) | (with_reducible refine ed_id ?_; refine ed_guard rfl (fun K' hK' => ?_))); simp [h50, h49, h0, h1, h2, h3, h15, h16, hik, hOG, hupd]; repeat' (first | (with_reducible refine hK' _ _ ?_; clear hK' K') | ((with_reducible refine hgrow _ hx _ ?_); try simp [h50, h49, h0, h1, h2, h3, h15, h16, hik, hOG, hupd]) | (with_reducible refine And.intro ?_ ?_) | (with_reducible intro hg) | (clear hK' K'; omega)))
        | (with_reducible refine w_cond (fun A B hA hB => ?_); simp [h50, h49, h0, h1, h2, h3, h15, h16, hik, hOG, hupd]; repeat' (first | (with_reducible refine hA ?_; clear hA hB A B) | (with_reducible refine hB ?_; clear hA hB A B) | (with_reducible refine And.intro ?_ ?_) | (with_reducible intro hc)))
        | (with_reducible refine awp_seq ?_))
      exact ⟨⟨i + 1, by omega, by simp, by simp [h49], by simp [h0], by simp [h1], by simp [h2], by simp [h3], by simp [h15], by simp, by rw [hsucc]; simp⟩, by simp; omega⟩
    · have : i = kk := by omega
      subst this
      have hpl := packI_length arcs v root i i
      repeat' (first
        | (with_reducible refine awp_skip ?_)
        | (with_reducible refine then_any ?_)
        | (with_reducible refine then_ret ?_)
        | (with_reducible refine then_exit ?_)
        | (with_reducible refine inBlock_normal ?_)
        | (with_reducible refine inBlock_ret ?_)
        | (with_reducible refine inBlock_hit ?_)
        | (with_reducible refine inBlock_miss (by decide) ?_)
        | (with_reducible refine awp_ret ?_)
        | (with_reducible refine awp_exit ?_)
        | (with_reducible refine post_ret ?_)
        | (with_reducible refine post_normal ?_)
        | (with_reducible refine awp_block ?_)
        | (with_reducible refine awp_scope_ret ?_)
        | (with_reducible refine awp_label ?_)
        | ((fail_if_success (with_reducible refine at_reg 17 ?_)); with_reducible refine v_reg [] (fun K hK => ?_))
        | (with_reducible refine v_reg1 [] (fun K hK => ?_))
        | ((fail_if_success (with_reducible refine at_reg 17 ?_)); with_reducible refine v_draw mixed [] [] (by kernel_rfl) (fun K hK => ?_))
        | (with_reducible refine v_draw1 mixed [] [] (by kernel_rfl) (fun K hK => ?_))
        | (with_reducible refine ev_nil (hK _ _ ?_); clear hK K)
        | (with_reducible refine ed_nil (hK _ _ ?_); clear hK K)
        | ((first | with_reducible refine ev_cons (fun K' hK' => ?_) | with_reducible refine ed_cons (fun K' hK' => ?_) | (with_reducible refine ev_id ?_; refine ev_guard rfl (fun K' hK' => ?_)) | (with_reducible refine ed_id ?_; refine ed_guard rfl (fun K' hK' => ?_))); simp [h50, h49]; repeat' (first | (with_reducible refine hK' _ _ ?_; clear hK' K') | (with_reducible refine And.intro ?_ ?_) | (with_reducible intro hg) | (clear hK' K'; omega)))
        | (with_reducible refine w_cond (fun A B hA hB => ?_); simp [h50, h49]; repeat' (first | (with_reducible refine hA ?_; clear hA hB A B) | (with_reducible refine hB ?_; clear hA hB A B) | (with_reducible refine And.intro ?_ ?_) | (with_reducible intro hc)))
        | ((fail_if_success (with_reducible refine at_reg 17 ?_)); with_reducible refine awp_seq ?_))
      refine awp_freeze 16 (r := O) (off := 0) (len := i) (top := i) (by simp [h16]) (by rw [upd_ne _ _ _ hOG, upd_same]) ?_
      have hcut : cut 1 ((packI arcs v root i i).2.map ints) 0 i = rows (packI arcs v root i i).2 := by
        have := cut_map ints (packI arcs v root i i).2
        rw [hpl] at this
        rw [this, rows, hpl]
      rw [hcut]
      repeat' (first
        | (with_reducible refine awp_skip ?_)
        | (with_reducible refine then_any ?_)
        | (with_reducible refine then_ret ?_)
        | (with_reducible refine then_exit ?_)
        | (with_reducible refine inBlock_normal ?_)
        | (with_reducible refine inBlock_ret ?_)
        | (with_reducible refine inBlock_hit ?_)
        | (with_reducible refine inBlock_miss (by decide) ?_)
        | (with_reducible refine awp_ret ?_)
        | (with_reducible refine awp_exit ?_)
        | (with_reducible refine post_ret ?_)
        | (with_reducible refine post_normal ?_)
        | (with_reducible refine awp_block ?_)
        | (with_reducible refine awp_scope_ret ?_)
        | (with_reducible refine awp_label ?_)
        | (with_reducible refine v_reg [] (fun K hK => ?_))
        | (with_reducible refine v_reg1 [] (fun K hK => ?_))
        | (with_reducible refine v_draw mixed [] [] (by kernel_rfl) (fun K hK => ?_))
        | (with_reducible refine v_draw1 mixed [] [] (by kernel_rfl) (fun K hK => ?_))
        | (with_reducible refine ev_nil (hK _ _ ?_); clear hK K)
        | (with_reducible refine ed_nil (hK _ _ ?_); clear hK K)
        | ((first | with_reducible refine ev_cons (fun K' hK' => ?_) | with_reducible refine ed_cons (fun K' hK' => ?_) | (with_reducible refine ev_id ?_; refine ev_guard rfl (fun K' hK' => ?_)) | (with_reducible refine ed_id ?_; refine ed_guard rfl (fun K' hK' => ?_))); simp; repeat' (first | (with_reducible refine hK' _ _ ?_; clear hK' K') | (with_reducible refine And.intro ?_ ?_) | (with_reducible intro hg) | (clear hK' K'; omega)))
        | (with_reducible refine w_cond (fun A B hA hB => ?_); simp; repeat' (first | (with_reducible refine hA ?_; clear hA hB A B) | (with_reducible refine hB ?_; clear hA hB A B) | (with_reducible refine And.intro ?_ ?_) | (with_reducible intro hc)))
        | (with_reducible refine awp_seq ?_))
      refine ⟨by simp [packT, hK, hb], ?_⟩
      exact (((Sub.refl h).upd hO _).upd hG _).upd hO _
end Go.Am
namespace Go.Am
set_option linter.unusedVariables false
set_option linter.unusedSimpArgs false
def setsC (n : Nat) (root : Int) : List (List Int) := ((List.range (2 ^ n)).map fun b => (upto n).filter fun j => b.testBit j.toNat).filter fun s => !decide (root ∈ s)
def enoughC (arcs : List (Int × Int)) (n : Nat) (gone : Int → Bool) (root : Int) (k : Nat) : Bool := (setsC n root).all fun s => s.isEmpty || decide (k ≤ (entA arcs gone s).length)
theorem mem_setsC {n : Nat} {root : Int} (T : Int → Bool) (hT : T root = false) : (upto n).filter T ∈ setsC n root := by
  obtain ⟨b, hb, hs⟩ := subL_of (n := n) (s := (upto n).filter T) ((up_upto n).filter _) fun x hx => mem_upto.1 (List.mem_filter.1 hx).1
  refine List.mem_filter.2 ⟨List.mem_map.2 ⟨b, List.mem_range.2 hb, hs⟩, ?_⟩
  have : root ∉ (upto n).filter T := fun h => by have := (List.mem_filter.1 h).2; rw [hT] at this; cases this
  rw [Bool.not_eq_true', decide_eq_false_iff_not]
  exact this
theorem NetA.enoughC {n : Nat} {arcs : List (Int × Int)} {root : Int} (N : NetA n arcs root) (gone : Int → Bool) (k : Nat) : enoughB arcs n gone root k = Am.enoughC arcs n gone root k := by
  have h : EnoughP arcs n gone root k ↔ Am.enoughC arcs n gone root k = true := by
    rw [Am.enoughC, List.all_eq_true]
    constructor
    · intro h s hs
      rw [Bool.or_eq_true, decide_eq_true_eq]
      cases s with
      | nil => left; rfl
      | cons x s =>
        right
        rw [entA_len]
        obtain ⟨hs1, hs2⟩ := List.mem_filter.1 hs
        obtain ⟨b, _, hb⟩ := List.mem_map.1 hs1
        refine h _ ⟨by simpa using hs2, x, ?_⟩
        have : x ∈ (upto n).filter fun j => b.testBit j.toNat := by rw [hb]; simp
        obtain ⟨a, c⟩ := mem_upto.1 (List.mem_filter.1 this).1
        exact ⟨a, c, by simp⟩
    · intro h T ⟨hT, u, u0, un, hu⟩
      have h1 := h _ (mem_setsC (n := n) T hT)
      rw [Bool.or_eq_true, decide_eq_true_eq] at h1
      rw [N.ent_range]
      rcases h1 with h1 | h1
      · have : u ∈ (upto n).filter T := List.mem_filter.2 ⟨mem_upto.2 ⟨u0, un⟩, hu⟩
        rw [List.isEmpty_iff] at h1
        rw [h1] at this; cases this
      · exact h1
  cases e : Am.enoughC arcs n gone root k
  · exact enoughB_false.2 fun hh => by rw [h.1 hh] at e; cases e
  · exact enoughB_true.2 (h.2 e)
section
variable (arcs : List (Int × Int)) (n : Nat) (root : Int) (others : Nat)
def okGC (s : GSt) (i : Int) : Bool := !s.gone i && s.has (tlA arcs i) && !s.has (hdA arcs i) && enoughC arcs n (setF s.gone i true) root others
def stepGC (s : GSt) : GSt := match (upto arcs.length).find? (okGC arcs n root others s) with
  | some i => takeG arcs s i
  | none => s
def iterGC (gone : Int → Bool) : Nat → GSt
  | 0 => startG root gone
  | k + 1 => stepGC arcs n root others (iterGC gone k)
def finGC (gone : Int → Bool) : GSt := iterGC arcs n root others gone (n - 1)
def growLC (gone : Int → Bool) : List Int := (upto arcs.length).filter fun i => decide (i ∈ (finGC arcs n root others gone).out)
end
def packIC (arcs : List (Int × Int)) (n : Nat) (root : Int) (k : Nat) : Nat → (Int → Bool) × List (List Int)
  | 0 => (no0, [])
  | i + 1 => ((finGC arcs n root (k - 1 - i) (packIC arcs n root k i).1).gone, (packIC arcs n root k i).2 ++ [growLC arcs n root (k - 1 - i) (packIC arcs n root k i).1])
section
variable {arcs : List (Int × Int)} {n : Nat} {root v : Int}
theorem NetA.okG_eq (N : NetA n arcs root) (others : Nat) (s : GSt) : okG arcs n root others s = okGC arcs n root others s := by
  funext i; rw [okG, okGC, N.enoughC]
theorem NetA.finG_eq (N : NetA n arcs root) (others : Nat) (gone : Int → Bool) : finG arcs n root others gone = finGC arcs n root others gone := by
  have : ∀ k, iterG arcs n root others gone k = iterGC arcs n root others gone k := by
    intro k
    induction k with
    | zero => rfl
    | succ k ih => rw [iterG, iterGC, ih, stepG, stepGC, N.okG_eq]; rfl
  exact this _
theorem NetA.packI_eq (N : NetA n arcs root) (k i : Nat) : packI arcs n root k i = packIC arcs n root k i := by
  induction i with
  | zero => rfl
  | succ i ih => rw [packI, packIC, ih, growL, growLC, N.finG_eq]
def flowC (arcs : List (Int × Int)) (n : Nat) (root v : Int) (units : Nat) (s : List Int) : Bool :=
  decide (s = (upto n).filter fun x => decide (x ∈ s)) && decide (v ∈ s) && !decide (root ∈ s) && decide ((entA arcs no0 s).length = units) &&
    (setsC n root).all fun t => !decide (v ∈ t) || (decide (units ≤ (entA arcs no0 t).length) && (!decide ((entA arcs no0 t).length = units) || t.all fun x => decide (x ∈ s)))
theorem NetA.flowC (N : NetA n arcs root) {units : Nat} {s : List Int} (hv : 0 ≤ v ∧ v < n) (h : Am.flowC arcs n root v units s = true) : flowA arcs n no0 root v = (units, s) := by
  simp only [Am.flowC, Bool.and_eq_true, decide_eq_true_eq, Bool.not_eq_true', decide_eq_false_iff_not, List.all_eq_true] at h
  obtain ⟨⟨⟨⟨h1, h2⟩, h3⟩, h4⟩, h5⟩ := h
  have key : ∀ T : Int → Bool, T root = false → T v = true → units ≤ entP arcs no0 T ∧ (entP arcs no0 T = units → ∀ u : Int, 0 ≤ u → u < n → T u = true → u ∈ s) := by
    intro T a b
    have h6 := h5 _ (mem_setsC (n := n) T a)
    have hvm : v ∈ (upto n).filter T := List.mem_filter.2 ⟨mem_upto.2 hv, b⟩
    simp only [hvm, decide_true, Bool.not_true, Bool.false_or, Bool.and_eq_true, decide_eq_true_eq, Bool.or_eq_true, Bool.not_eq_true', decide_eq_false_iff_not, List.all_eq_true] at h6
    rw [← N.ent_range] at h6
    refine ⟨h6.1, fun e u u0 un hu => ?_⟩
    rcases h6.2 with h7 | h7
    · exact absurd e h7
    · exact h7 u (List.mem_filter.2 ⟨mem_upto.2 ⟨u0, un⟩, hu⟩)
  refine FlowAns.eq ⟨by rw [h1]; exact (up_upto n).filter _, fun x hx => ?_, h2, h3, by rw [← entA_len]; exact h4, fun T a b => (key T a b).1, fun T a b => (key T a b).2⟩
  rw [h1] at hx
  exact mem_upto.1 (List.mem_filter.1 hx).1
end
end Go.Am
namespace Go.Am
open Go Go.Proofs
set_option linter.unusedVariables false
set_option linter.unusedSimpArgs false
variable {w0 : World}
attribute [local irreducible] AWP ACalls
attribute [local congr] acalls_congr
theorem lists13_ret {a b : List (List Int)} (ha : okLen a) (hb : okLen b) (hia : ∀ p ∈ a, okLen p) (hib : ∀ p ∈ b, okLen p) : Ret Try.prog w0 18 [rows a, rows b] (B (decide (a = b))) := by
  intro H
  refine w_enter Try.func18 rfl Try.ntmps18 (ts := [4]) rfl (by simp) (by kernel_rfl) ?_
  repeat' (first
    | (with_reducible refine awp_skip ?_)
    | (with_reducible refine then_any ?_)
    | (with_reducible refine then_ret ?_)
    | (with_reducible refine then_exit ?_)
    | (with_reducible refine inBlock_normal ?_)
    | (with_reducible refine inBlock_ret ?_)
    | (with_reducible refine inBlock_hit ?_)
    | (with_reducible refine inBlock_miss (by decide) ?_)
    | (with_reducible refine awp_ret ?_)
    | (with_reducible refine awp_exit ?_)
    | (with_reducible refine post_ret ?_)
    | (with_reducible refine post_normal ?_)
    | (with_reducible refine awp_block ?_)
    | (with_reducible refine awp_scope_ret ?_)
    | (with_reducible refine awp_label ?_)
    | (with_reducible refine v_reg [] (fun K hK => ?_))
    | (with_reducible refine v_reg1 [] (fun K hK => ?_))
    | (with_reducible refine v_draw mixed [] [] (by kernel_rfl) (fun K hK => ?_))
    | (with_reducible refine v_draw1 mixed [] [] (by kernel_rfl) (fun K hK => ?_))
    | (with_reducible refine ev_nil (hK _ _ ?_); clear hK K)
    | (with_reducible refine ed_nil (hK _ _ ?_); clear hK K)
    | ((first | with_reducible refine ev_cons (fun K' hK' => ?_) | with_reducible refine ed_cons (fun K' hK' => ?_) | (with_reducible refine ev_id ?_; refine ev_guard rfl (fun K' hK' => ?_)) | (with_reducible refine ed_id ?_; refine ed_guard rfl (fun K' hK' => ?_))); simp [rows]; repeat' (first | (with_reducible refine hK' _ _ ?_; clear hK' K') | (with_reducible refine And.intro ?_ ?_) | (with_reducible intro hg) | (clear hK' K'; omega)))
    | (with_reducible refine w_cond (fun A B hA hB => ?_); simp [rows]; repeat' (first | (with_reducible refine hA ?_; clear hA hB A B) | (with_reducible refine hB ?_; clear hA hB A B) | (with_reducible refine And.intro ?_ ?_) | (with_reducible intro hc)))
    | (with_reducible refine awp_seq ?_))
  · have : a ≠ b := fun e => by subst e; simp at hc
    simp [this]
  refine awp_loop (fun env h => ∃ (k : Nat), k ≤ a.length ∧ a.length = b.length ∧ env 5 = I k ∧ env 0 = rows a ∧ env 1 = rows b ∧ a.take k = b.take k ∧ h = H) (fun env _ => a.length - natA (env 5)) ?_ ?_
  · exact ⟨0, by omega, by omega, by simp, by simp [rows], by simp [rows], by simp, rfl⟩
  rintro env h ⟨n, hn, hab, h5, h0, h1, ht, rfl⟩
  have hnat : natA (env 5) = n := by simp [h5]
  rw [hnat]; clear hnat
  by_cases hlt : n < a.length
  · have hltb : n < b.length := by omega
    have hpa := hia a[n] (by simp)
    have hpb := hib b[n] (by simp)
    repeat' (first
      | (with_reducible refine awp_skip ?_)
      | (with_reducible refine then_any ?_)
      | (with_reducible refine then_ret ?_)
      | (with_reducible refine then_exit ?_)
      | (with_reducible refine inBlock_normal ?_)
      | (with_reducible refine inBlock_ret ?_)
      | (with_reducible refine inBlock_hit ?_)
      | (with_reducible refine inBlock_miss (by decide) ?_)
      | (with_reducible refine awp_ret ?_)
      | (with_reducible refine awp_exit ?_)
      | (with_reducible refine post_ret ?_)
      | (with_reducible refine post_normal ?_)
      | (with_reducible refine awp_block ?_)
      | (with_reducible refine awp_scope_ret ?_)
      | (with_reducible refine awp_label ?_)
      | (with_reducible refine v_reg [] (fun K hK => ?_))
      | (with_reducible refine v_reg1 [] (fun K hK => ?_))
      | (with_reducible refine v_draw mixed [] [] (by kernel_rfl) (fun K hK => ?_))
      | (with_reducible refine v_draw1 mixed [] [] (by kernel_rfl) (fun K hK => ?_))
      | (with_reducible refine ev_nil (hK _ _ ?_); clear hK K)
      | (with_reducible refine ed_nil (hK _ _ ?_); clear hK K)
      | ((first | with_reducible refine ev_cons (fun K' hK' => ?_) | with_reducible refine ed_cons (fun K' hK' => ?_) | (with_reducible refine ev_id ?_; refine ev_guard rfl (fun K' hK' => ?_)) | (with_reducible refine ed_id ?_; refine ed_guard rfl (fun K' hK' => ?_))); simp [h5, h0, h1, rows, ints, hlt, hltb]; repeat' (first | (with_reducible refine hK' _ _ ?_; clear hK' K') | (with_reducible refine And.intro ?_ ?_) | (with_reducible intro hg) | (clear hK' K'; omega)))
      | (with_reducible refine w_cond (fun A B hA hB => ?_); simp [h5, h0, h1, rows, ints, hlt, hltb]; repeat' (first | (with_reducible refine hA ?_; clear hA hB A B) | (with_reducible refine hB ?_; clear hA hB A B) | (with_reducible refine And.intro ?_ ?_) | (with_reducible intro hc)))
      | (with_reducible refine awp_seq ?_))
    · have : a ≠ b := fun e => by subst e; simp at hc
      simp [this]
    refine awp_loop (fun env h' => ∃ (k : Nat), k ≤ a[n].length ∧ a[n].length = b[n].length ∧ env 6 = I k ∧ env 5 = I n ∧ env 0 = rows a ∧ env 1 = rows b ∧ a[n].take k = b[n].take k ∧ h' = h) (fun env _ => a[n].length - natA (env 6)) ?_ ?_
    · exact ⟨0, by omega, by omega, by simp, by simp [h5], by simp [h0], by simp [h1], by simp, rfl⟩
    clear h5 h0 h1
    rintro env1 h1 ⟨k, hk, hl, h6, h5, h0, h1, htk, rfl⟩
    have hnat : natA (env1 6) = k := by simp [h6]
    rw [hnat]; clear hnat
    by_cases hltk : k < a[n].length
    · have hltkb : k < b[n].length := by omega
      repeat' (first
        | (with_reducible refine awp_skip ?_)
        | (with_reducible refine then_any ?_)
        | (with_reducible refine then_ret ?_)
        | (with_reducible refine then_exit ?_)
        | (with_reducible refine inBlock_normal ?_)
        | (with_reducible refine inBlock_ret ?_)
        | (with_reducible refine inBlock_hit ?_)
        | (with_reducible refine inBlock_miss (by decide) ?_)
        | (with_reducible refine awp_ret ?_)
        | (with_reducible refine awp_exit ?_)
        | (with_reducible refine post_ret ?_)
        | (with_reducible refine post_normal ?_)
        | (with_reducible refine awp_block ?_)
        | (with_reducible refine awp_scope_ret ?_)
        | (with_reducible refine awp_label ?_)
        | (with_reducible refine v_reg [] (fun K hK => ?_))
        | (with_reducible refine v_reg1 [] (fun K hK => ?_))
        | (with_reducible refine v_draw mixed [] [] (by kernel_rfl) (fun K hK => ?_))
        | (with_reducible refine v_draw1 mixed [] [] (by kernel_rfl) (fun K hK => ?_))
        | (with_reducible refine ev_nil (hK _ _ ?_); clear hK K)
        | (with_reducible refine ed_nil (hK _ _ ?_); clear hK K)
        | ((first | with_reducible refine ev_cons (fun K' hK' => ?_) | with_reducible refine ed_cons (fun K' hK' => ?_) | (with_reducible refine ev_id ?_; refine ev_guard rfl (fun K' hK' => ?_)) | (with_reducible refine ed_id ?_; refine ed_guard rfl (fun K' hK' => ?_))); simp [h5, h6, h0, h1, rows, ints, hlt, hltb, hltk, hltkb]; repeat' (first | (with_reducible refine hK' _ _ ?_; clear hK' K') | (with_reducible refine And.intro ?_ ?_) | (with_reducible intro hg) | (clear hK' K'; omega)))
        | (with_reducible refine w_cond (fun A B hA hB => ?_); simp [h5, h6, h0, h1, rows, ints, hlt, hltb, hltk, hltkb]; repeat' (first | (with_reducible refine hA ?_; clear hA hB A B) | (with_reducible refine hB ?_; clear hA hB A B) | (with_reducible refine And.intro ?_ ?_) | (with_reducible intro hc)))
        | (with_reducible refine awp_seq ?_))
      · have : a ≠ b := fun e => by subst e; simp at hc
        simp [this]
      · have hc' : a[n][k] = b[n][k] := by simpa using hc
        have ht' : a[n].take (k + 1) = b[n].take (k + 1) := by rw [List.take_succ_eq_append_getElem hltk, List.take_succ_eq_append_getElem hltkb, htk, hc']
        exact ⟨⟨k + 1, by omega, hl, by simp, by simp [h5], by simp [h0], by simp [h1], ht', rfl⟩, by simp; omega⟩
    · have : k = a[n].length := by omega
      repeat' (first
        | (with_reducible refine awp_skip ?_)
        | (with_reducible refine then_any ?_)
        | (with_reducible refine then_ret ?_)
        | (with_reducible refine then_exit ?_)
        | (with_reducible refine inBlock_normal ?_)
        | (with_reducible refine inBlock_ret ?_)
        | (with_reducible refine inBlock_hit ?_)
        | (with_reducible refine inBlock_miss (by decide) ?_)
        | (with_reducible refine awp_ret ?_)
        | (with_reducible refine awp_exit ?_)
        | (with_reducible refine post_ret ?_)
        | (with_reducible refine post_normal ?_)
        | (with_reducible refine awp_block ?_)
        | (with_reducible refine awp_scope_ret ?_)
        | (with_reducible refine awp_label ?_)
        | (with_reducible refine v_reg [] (fun K hK => ?_))
        | (with_reducible refine v_reg1 [] (fun K hK => ?_))
        | (with_reducible refine v_draw mixed [] [] (by kernel_rfl) (fun K hK => ?_))
        | (with_reducible refine v_draw1 mixed [] [] (by kernel_rfl) (fun K hK => ?_))
        | (with_reducible refine ev_nil (hK _ _ ?_); clear hK K)
        | (with_reducible refine ed_nil (hK _ _ ?_); clear hK K)
        | ((first | with_reducible refine ev_cons (fun K' hK' => ?_) | with_reducible refine ed_cons (fun K' hK' => ?_) | (with_reducible refine ev_id ?_; refine ev_guard rfl (fun K' hK' => ?_)) | (with_reducible refine ed_id ?_; refine ed_guard rfl (fun K' hK' => ?_))); simp [h5, h6, h0, h1, rows, ints, hlt, hltb, hltk]; repeat' (first | (with_reducible refine hK' _ _ ?_; clear hK' K') | (with_reducible refine And.intro ?_ ?_) | (with_reducible intro hg) | (clear hK' K'; omega)))
        | (with_reducible refine w_cond (fun A B hA hB => ?_); simp [h5, h6, h0, h1, rows, ints, hlt, hltb, hltk]; repeat' (first | (with_reducible refine hA ?_; clear hA hB A B) | (with_reducible refine hB ?_; clear hA hB A B) | (with_reducible refine And.intro ?_ ?_) | (with_reducible intro hc)))
        | (with_reducible refine awp_seq ?_))
      have he : a[n] = b[n] := by rw [List.take_of_length_le (by omega), List.take_of_length_le (by omega)] at htk; exact htk
      have ht' : a.take (n + 1) = b.take (n + 1) := by rw [List.take_succ_eq_append_getElem hlt, List.take_succ_eq_append_getElem hltb, ht, he]
      exact ⟨⟨n + 1, by omega, hab, by simp, by simp [h0], by simp [h1], ht', rfl⟩, by simp; omega⟩
  · have : n = a.length := by omega
    subst this
    repeat' (first
      | (with_reducible refine awp_skip ?_)
      | (with_reducible refine then_any ?_)
      | (with_reducible refine then_ret ?_)
      | (with_reducible refine then_exit ?_)
      | (with_reducible refine inBlock_normal ?_)
      | (with_reducible refine inBlock_ret ?_)
      | (with_reducible refine inBlock_hit ?_)
      | (with_reducible refine inBlock_miss (by decide) ?_)
      | (with_reducible refine awp_ret ?_)
      | (with_reducible refine awp_exit ?_)
      | (with_reducible refine post_ret ?_)
      | (with_reducible refine post_normal ?_)
      | (with_reducible refine awp_block ?_)
      | (with_reducible refine awp_scope_ret ?_)
      | (with_reducible refine awp_label ?_)
      | (with_reducible refine v_reg [] (fun K hK => ?_))
      | (with_reducible refine v_reg1 [] (fun K hK => ?_))
      | (with_reducible refine v_draw mixed [] [] (by kernel_rfl) (fun K hK => ?_))
      | (with_reducible refine v_draw1 mixed [] [] (by kernel_rfl) (fun K hK => ?_))
      | (with_reducible refine ev_nil (hK _ _ ?_); clear hK K)
      | (with_reducible refine ed_nil (hK _ _ ?_); clear hK K)
      | ((first | with_reducible refine ev_cons (fun K' hK' => ?_) | with_reducible refine ed_cons (fun K' hK' => ?_) | (with_reducible refine ev_id ?_; refine ev_guard rfl (fun K' hK' => ?_)) | (with_reducible refine ed_id ?_; refine ed_guard rfl (fun K' hK' => ?_))); simp [h5, h0, h1, rows]; repeat' (first | (with_reducible refine hK' _ _ ?_; clear hK' K') | (with_reducible refine And.intro ?_ ?_) | (with_reducible intro hg) | (clear hK' K'; omega)))
      | (with_reducible refine w_cond (fun A B hA hB => ?_); simp [h5, h0, h1, rows]; repeat' (first | (with_reducible refine hA ?_; clear hA hB A B) | (with_reducible refine hB ?_; clear hA hB A B) | (with_reducible refine And.intro ?_ ?_) | (with_reducible intro hc)))
      | (with_reducible refine awp_seq ?_))
    have : a = b := by rw [List.take_of_length_le (Nat.le_refl _), List.take_of_length_le (by omega)] at ht; exact ht
    simp [this]
theorem nA : NetA 2 [(0, 1), (0, 1)] 0 := (by obtain ⟨m, e, _, h⟩ := mayA_net (n := 2) (arcs := [(0, 1), (0, 1)]) (root := 0) (by decide); have : m = 2 := by omega
                                              subst this; exact h)
theorem nB : NetA 2 [(0, 1), (0, 1)] 1 := (by obtain ⟨m, e, _, h⟩ := mayA_net (n := 2) (arcs := [(0, 1), (0, 1)]) (root := 1) (by decide); have : m = 2 := by omega
                                              subst this; exact h)
theorem nC : NetA 3 [(0, 1), (1, 2)] 0 := (by obtain ⟨m, e, _, h⟩ := mayA_net (n := 3) (arcs := [(0, 1), (1, 2)]) (root := 0) (by decide); have : m = 3 := by omega
                                              subst this; exact h)
theorem nD : NetA 1 [] 0 := (by obtain ⟨m, e, _, h⟩ := mayA_net (n := 1) (arcs := []) (root := 0) (by decide); have : m = 1 := by omega
                                subst this; exact h)
theorem fl1 : flowA [(0, 1), (0, 1)] 2 no0 0 1 = (2, [1]) := nA.flowC (by omega) (by decide +kernel)
theorem fl2 : flowA [(0, 1), (0, 1)] 2 no0 1 0 = (0, [0]) := nB.flowC (by omega) (by decide +kernel)
theorem fl3 : flowA [(0, 1), (1, 2)] 3 no0 0 2 = (1, [1, 2]) := nC.flowC (by omega) (by decide +kernel)
theorem pk1 : packT 2 [(0, 1), (0, 1)] 0 2 = .tup [rows [[0], [1]], ints [], I 0] := by
  have hb : badV [(0, 1), (0, 1)] 2 0 2 = none := badV_none fun u a b c => by
    have : u = 1 := by omega
    subst this; rw [fl1]; decide
  have hp : (packI [(0, 1), (0, 1)] 2 0 2 2).2 = [[0], [1]] := by rw [nA.packI_eq]; decide +kernel
  have hK : mayK 2 [(0, 1), (0, 1)] 0 2 = true := by decide
  rw [packT, if_pos hK]
  show (match badV [(0, 1), (0, 1)] 2 0 2 with | some v => _ | none => _) = _
  rw [hb]
  show AV.tup [rows (packI [(0, 1), (0, 1)] 2 0 2 2).2, ints [], I 0] = _
  rw [hp]
theorem pk2 : packT 2 [(0, 1), (0, 1)] 0 3 = .tup [rows [], ints [1], I 200] := by
  have hb : badV [(0, 1), (0, 1)] 2 0 3 = some 1 := badV_some (v := 1) (by omega) (fun u a b c => by omega) (by decide) (by
    have := fl1
    show (flowA [(0, 1), (0, 1)] 2 no0 0 1).1 < 3
    rw [this]; decide)
  have hK : mayK 2 [(0, 1), (0, 1)] 0 3 = true := by decide
  rw [packT, if_pos hK]
  show (match badV [(0, 1), (0, 1)] 2 0 3 with | some v => _ | none => _) = _
  rw [hb]
  show AV.tup [rows [], ints (flowA [(0, 1), (0, 1)] 2 no0 0 1).2, I 200] = _
  rw [fl1]
theorem pk3 : packT 2 [(0, 1), (0, 1)] 1 1 = .tup [rows [], ints [0], I 200] := by
  have hb : badV [(0, 1), (0, 1)] 2 1 1 = some 0 := badV_some (v := 0) (by omega) (fun u a b c => by omega) (by decide) (by
    have := fl2
    show (flowA [(0, 1), (0, 1)] 2 no0 1 0).1 < 1
    rw [this]; decide)
  have hK : mayK 2 [(0, 1), (0, 1)] 1 1 = true := by decide
  rw [packT, if_pos hK]
  show (match badV [(0, 1), (0, 1)] 2 1 1 with | some v => _ | none => _) = _
  rw [hb]
  show AV.tup [rows [], ints (flowA [(0, 1), (0, 1)] 2 no0 1 0).2, I 200] = _
  rw [fl2]
theorem pk4 : packT 1 [] 0 2 = .tup [rows [[], []], ints [], I 0] := by
  have hb : badV [] 1 0 2 = none := badV_none fun u a b c => by omega
  have hp : (packI [] 1 0 2 2).2 = [[], []] := by rw [nD.packI_eq]; decide +kernel
  have hK : mayK 1 [] 0 2 = true := by decide
  rw [packT, if_pos hK]
  show (match badV [] 1 0 2 with | some v => AV.tup [rows [], ints (flowA [] 1 no0 0 v).2, I 200] | none => AV.tup [rows (packI [] 1 0 2 2).2, ints [], I 0]) = _
  rw [hb]
  show AV.tup [rows (packI [] 1 0 2 2).2, ints [], I 0] = _
  rw [hp]
theorem ft1 : flowT 3 [(0, 1), (1, 2)] 0 2 = .tup [I 1, ints [1, 2], I 0] := by
  have := flowT_ok (n := 3) (root := 0) (v := 2) (arcs := [(0, 1), (1, 2)]) (by decide) (by omega) (by omega) (by omega)
  rw [fl3] at this
  exact this
theorem ft2 : flowT 2 [(0, 1), (0, 1)] 0 0 = .tup [I 0, ints [], I 1] := flowT_root
theorem mk1 : mayK 2 [(0, 1), (0, 1)] 0 8 = true := by decide
theorem mk2 : mayK 2 [(0, 1), (0, 1)] 2 1 = false := by decide
theorem fixed20_ret : Ret Try.prog w0 13 [] (B true) := by
  intro H
  refine w_enter Try.func13 rfl Try.ntmps13 (ts := [0]) rfl (by simp) (by kernel_rfl) ?_
  repeat' (first
    | (with_reducible refine awp_skip ?_)
    | (with_reducible refine then_any ?_)
    | (with_reducible refine then_ret ?_)
    | (with_reducible refine then_exit ?_)
    | (with_reducible refine inBlock_normal ?_)
    | (with_reducible refine inBlock_ret ?_)
    | (with_reducible refine inBlock_hit ?_)
    | (with_reducible refine inBlock_miss (by decide) ?_)
    | (with_reducible refine awp_ret ?_)
    | (with_reducible refine awp_exit ?_)
    | (with_reducible refine post_ret ?_)
    | (with_reducible refine post_normal ?_)
    | (with_reducible refine awp_block ?_)
    | (with_reducible refine awp_scope_ret ?_)
    | (with_reducible refine awp_label ?_)
    | (with_reducible refine v_reg [] (fun K hK => ?_))
    | (with_reducible refine v_reg1 [] (fun K hK => ?_))
    | (with_reducible refine v_draw mixed [] [] (by kernel_rfl) (fun K hK => ?_))
    | (with_reducible refine v_draw1 mixed [] [] (by kernel_rfl) (fun K hK => ?_))
    | (with_reducible refine ev_nil (hK _ _ ?_); clear hK K)
    | (with_reducible refine ed_nil (hK _ _ ?_); clear hK K)
    | ((first | with_reducible refine ev_cons (fun K' hK' => ?_) | with_reducible refine ed_cons (fun K' hK' => ?_) | (with_reducible refine ev_id ?_; refine ev_guard rfl (fun K' hK' => ?_)) | (with_reducible refine ed_id ?_; refine ed_guard rfl (fun K' hK' => ?_))); simp [pk1, pk2, pk3, pk4, ft1, ft2, mk1, mk2]; repeat' (first | (with_reducible refine hK' _ _ ?_; clear hK' K') | ((with_reducible refine Ret.use_eq (pack_ret (n := 2) (root := 0) (k := 2) (arcs := [(0, 1), (0, 1)]) (by simp)) ?_ ?_; (· simp [pairs])); try simp [pk1, pk2, pk3, pk4, ft1, ft2, mk1, mk2]) | ((with_reducible refine Ret.use_eq (pack_ret (n := 2) (root := 0) (k := 3) (arcs := [(0, 1), (0, 1)]) (by simp)) ?_ ?_; (· simp [pairs])); try simp [pk1, pk2, pk3, pk4, ft1, ft2, mk1, mk2]) | ((with_reducible refine Ret.use_eq (pack_ret (n := 2) (root := 1) (k := 1) (arcs := [(0, 1), (0, 1)]) (by simp)) ?_ ?_; (· simp [pairs])); try simp [pk1, pk2, pk3, pk4, ft1, ft2, mk1, mk2]) | ((with_reducible refine Ret.use_eq (pack_ret (n := 1) (root := 0) (k := 2) (arcs := []) (by simp)) ?_ ?_; (· simp [pairs])); try simp [pk1, pk2, pk3, pk4, ft1, ft2, mk1, mk2]) | ((with_reducible refine Ret.use_eq (flow_ret (n := 3) (root := 0) (v := 2) (arcs := [(0, 1), (1, 2)]) (by simp)) ?_ ?_; (· simp [pairs])); try simp [pk1, pk2, pk3, pk4, ft1, ft2, mk1, mk2]) | ((with_reducible refine Ret.use_eq (flow_ret (n := 2) (root := 0) (v := 0) (arcs := [(0, 1), (0, 1)]) (by simp)) ?_ ?_; (· simp [pairs])); try simp [pk1, pk2, pk3, pk4, ft1, ft2, mk1, mk2]) | ((with_reducible refine Ret.use_eq (arcsMay_ret (n := 2) (root := 0) (k := 8) (arcs := [(0, 1), (0, 1)]) (by simp)) ?_ ?_; (· simp [pairs])); try simp [pk1, pk2, pk3, pk4, ft1, ft2, mk1, mk2]) | ((with_reducible refine Ret.use_eq (arcsMay_ret (n := 2) (root := 2) (k := 1) (arcs := [(0, 1), (0, 1)]) (by simp)) ?_ ?_; (· simp [pairs])); try simp [pk1, pk2, pk3, pk4, ft1, ft2, mk1, mk2]) | ((with_reducible refine Ret.use_eq (lists13_ret (a := [[0], [1]]) (b := [[0], [1]]) (by simp) (by simp) (by simp) (by simp)) ?_ ?_; (· simp [rows, ints])); try simp [pk1, pk2, pk3, pk4, ft1, ft2, mk1, mk2]) | ((with_reducible refine Ret.use_eq (same_ret (a := [1]) (b := [1]) (by simp) (by simp)) ?_ ?_; (· simp [ints])); try simp [pk1, pk2, pk3, pk4, ft1, ft2, mk1, mk2]) | ((with_reducible refine Ret.use_eq (same_ret (a := [0]) (b := [0]) (by simp) (by simp)) ?_ ?_; (· simp [ints])); try simp [pk1, pk2, pk3, pk4, ft1, ft2, mk1, mk2]) | ((with_reducible refine Ret.use_eq (same_ret (a := [1, 2]) (b := [1, 2]) (by simp) (by simp)) ?_ ?_; (· simp [ints])); try simp [pk1, pk2, pk3, pk4, ft1, ft2, mk1, mk2]) | (with_reducible refine And.intro ?_ ?_) | (with_reducible intro hg) | (clear hK' K'; omega)))
    | (with_reducible refine w_cond (fun A B hA hB => ?_); simp [pk1, pk2, pk3, pk4, ft1, ft2, mk1, mk2]; repeat' (first | (with_reducible refine hA ?_; clear hA hB A B) | (with_reducible refine hB ?_; clear hA hB A B) | (with_reducible refine And.intro ?_ ?_) | (with_reducible intro hc)))
    | (with_reducible refine awp_seq ?_))
  all_goals simp
end Go.Am
namespace Go.Am
open Go Go.Proofs
set_option linter.unusedVariables false
set_option linter.unusedSimpArgs false
variable {w0 : World}
attribute [local irreducible] AWP ACalls
attribute [local congr] acalls_congr
theorem entP_cons (a : Int × Int) (l : List (Int × Int)) (T : Int → Bool) : entP (a :: l) no0 T = entP l no0 T + if T a.2 && !T a.1 then 1 else 0 := by
  rw [entP_pairs, entP_pairs, List.countP_cons]
theorem flow_tail {a : Int × Int} {l : List (Int × Int)} {n : Nat} {root v : Int} {u u' : Nat} {s s' : List Int} (h : FlowAns (a :: l) n no0 root v u s) (h' : FlowAns l n no0 root v u' s') : u' ≤ u ∧ u ≤ u' + 1 := by
  have h1 := h'.least (fun x => decide (x ∈ s)) (by simp [h.nroot]) (by simp [h.has])
  have h2 := h.least (fun x => decide (x ∈ s')) (by simp [h'.nroot]) (by simp [h'.has])
  have e1 := entP_cons a l (fun x => decide (x ∈ s))
  have e2 := entP_cons a l (fun x => decide (x ∈ s'))
  rw [h.is] at e1
  rw [h'.is] at e2
  constructor
  · omega
  · split at e2 <;> omega
theorem mayA_tail {n root : Int} {a : Int × Int} {l : List (Int × Int)} (h : mayA n (a :: l) root = true) : mayA n l root = true := by
  simp only [mayA, Bool.and_eq_true, decide_eq_true_eq, List.all_cons, List.length_cons] at h ⊢
  obtain ⟨⟨⟨⟨⟨a1, a2⟩, a3⟩, a4⟩, a5⟩, _, a6⟩ := h
  exact ⟨⟨⟨⟨⟨a1, a2⟩, by omega⟩, a4⟩, a5⟩, a6⟩
theorem mayA_nil {n root : Int} {l : List (Int × Int)} (h : mayA n l root = true) : mayA n [] root = true := by
  simp only [mayA, Bool.and_eq_true, decide_eq_true_eq, List.all_nil, List.length_nil] at h ⊢
  obtain ⟨⟨⟨⟨⟨a1, a2⟩, a3⟩, a4⟩, a5⟩, a6⟩ := h
  exact ⟨⟨⟨⟨⟨a1, a2⟩, by omega⟩, a4⟩, a5⟩, trivial⟩
theorem flow_nil {n : Nat} {root v : Int} {u : Nat} {s : List Int} (hr : 0 ≤ root ∧ root < n) (hv : v ≠ root) (h : FlowAns [] n no0 root v u s) : u = 0 ∧ s.length + 1 = n := by
  have hu : u = 0 := by have := flow_le h; simpa using this
  refine ⟨hu, ?_⟩
  have hs : s = (upto n).filter fun x => decide (x ≠ root) := up_ext h.up ((up_upto n).filter _) fun x => by
    rw [List.mem_filter, mem_upto, decide_eq_true_eq]
    refine ⟨fun hx => ⟨h.rng x hx, fun e => h.nroot (by rw [← e]; exact hx)⟩, fun ⟨⟨a, b⟩, c⟩ => ?_⟩
    exact h.all (fun y => decide (y ≠ root)) (by simp) (by simp [hv]) (by rw [hu]; simp [entP, upto_zero]) x a b (by simp [c])
  have := countP_setF (f := fun x => decide (x ≠ root)) hr.1 hr.2 (by simp)
  rw [hs, ← List.countP_eq_length_filter, ← this]
  have hall : setF (fun x => decide (x ≠ root)) root true = fun _ => true := by
    funext x
    by_cases e : x = root
    · subst e; rw [setF_same]
    · rw [setF_ne _ _ e]; simp [e]
  rw [hall]
  simp
def inC (arcs : List (Int × Int)) (v : Int) (k : Nat) : Nat := (upto k).countP fun i => decide (hdA arcs i = v) && decide (tlA arcs i ≠ v)
def outC (arcs : List (Int × Int)) (root : Int) (k : Nat) : Nat := (upto k).countP fun i => decide (tlA arcs i = root) && decide (hdA arcs i ≠ root)
theorem inC_le {arcs : List (Int × Int)} {n : Nat} {root v : Int} {u : Nat} {s : List Int} (h : FlowAns arcs n no0 root v u s) (hv : v ≠ root) : u ≤ inC arcs v arcs.length ∧ u ≤ outC arcs root arcs.length := by
  constructor
  · have := h.least (fun x => decide (x = v)) (by simp [Ne.symm hv]) (by simp)
    refine Nat.le_trans this (Nat.le_of_eq ?_)
    rw [entP, inC]
    exact List.countP_congr fun i _ => by simp
  · have := h.least (fun x => decide (x ≠ root)) (by simp) (by simp [hv])
    refine Nat.le_trans this (Nat.le_of_eq ?_)
    rw [entP, outC]
    exact List.countP_congr fun i _ => by simp [and_comm]
set_option maxHeartbeats 8000000 in
set_option maxRecDepth 20000 in
theorem ends_ret {n root k v : Int} {arcs : List (Int × Int)} (ha : okLen arcs) : Ret Try.prog w0 8 [.agg [I n, pairs arcs, I root, I k], I v] (B true) := by
  intro H
  refine w_enter Try.func8 rfl Try.ntmps8 (ts := [4]) rfl (by simp) (by kernel_rfl) ?_
  by_cases hg1 : 12 < n
  · repeat' (first
      | (with_reducible refine awp_skip ?_)
      | (with_reducible refine then_any ?_)
      | (with_reducible refine then_ret ?_)
      | (with_reducible refine then_exit ?_)
      | (with_reducible refine inBlock_normal ?_)
      | (with_reducible refine inBlock_ret ?_)
      | (with_reducible refine inBlock_hit ?_)
      | (with_reducible refine inBlock_miss (by decide) ?_)
      | (with_reducible refine awp_ret ?_)
      | (with_reducible refine awp_exit ?_)
      | (with_reducible refine post_ret ?_)
      | (with_reducible refine post_normal ?_)
      | (with_reducible refine awp_block ?_)
      | (with_reducible refine awp_scope_ret ?_)
      | (with_reducible refine awp_label ?_)
      | (with_reducible refine v_reg [] (fun K hK => ?_))
      | (with_reducible refine v_reg1 [] (fun K hK => ?_))
      | (with_reducible refine v_draw mixed [] [] (by kernel_rfl) (fun K hK => ?_))
      | (with_reducible refine v_draw1 mixed [] [] (by kernel_rfl) (fun K hK => ?_))
      | (with_reducible refine ev_nil (hK _ _ ?_); clear hK K)
      | (with_reducible refine ed_nil (hK _ _ ?_); clear hK K)
      | ((first | with_reducible refine ev_cons (fun K' hK' => ?_) | with_reducible refine ed_cons (fun K' hK' => ?_) | (with_reducible refine ev_id ?_; refine ev_guard rfl (fun K' hK' => ?_)) | (with_reducible refine ed_id ?_; refine ed_guard rfl (fun K' hK' => ?_))); simp [pairs, hg1]; repeat' (first | (with_reducible refine hK' _ _ ?_; clear hK' K') | (with_reducible refine Ret.use fixed20_ret ?_; try simp [pairs, hg1]) | (with_reducible refine And.intro ?_ ?_) | (with_reducible intro hg) | (clear hK' K'; omega)))
      | (with_reducible refine w_cond (fun A B hA hB => ?_); simp [pairs, hg1]; repeat' (first | (with_reducible refine hA ?_; clear hA hB A B) | (with_reducible refine hB ?_; clear hA hB A B) | (with_reducible refine And.intro ?_ ?_) | (with_reducible intro hc)))
      | (with_reducible refine awp_seq ?_))
    exact ⟨by simp, sub_new (by assumption)⟩
  cases arcs with
  | nil =>
    repeat' (first
      | (with_reducible refine awp_skip ?_)
      | (with_reducible refine then_any ?_)
      | (with_reducible refine then_ret ?_)
      | (with_reducible refine then_exit ?_)
      | (with_reducible refine inBlock_normal ?_)
      | (with_reducible refine inBlock_ret ?_)
      | (with_reducible refine inBlock_hit ?_)
      | (with_reducible refine inBlock_miss (by decide) ?_)
      | (with_reducible refine awp_ret ?_)
      | (with_reducible refine awp_exit ?_)
      | (with_reducible refine post_ret ?_)
      | (with_reducible refine post_normal ?_)
      | (with_reducible refine awp_block ?_)
      | (with_reducible refine awp_scope_ret ?_)
      | (with_reducible refine awp_label ?_)
      | (with_reducible refine v_reg [] (fun K hK => ?_))
      | (with_reducible refine v_reg1 [] (fun K hK => ?_))
      | (with_reducible refine v_draw mixed [] [] (by kernel_rfl) (fun K hK => ?_))
      | (with_reducible refine v_draw1 mixed [] [] (by kernel_rfl) (fun K hK => ?_))
      | (with_reducible refine ev_nil (hK _ _ ?_); clear hK K)
      | (with_reducible refine ed_nil (hK _ _ ?_); clear hK K)
      | ((first | with_reducible refine ev_cons (fun K' hK' => ?_) | with_reducible refine ed_cons (fun K' hK' => ?_) | (with_reducible refine ev_id ?_; refine ev_guard rfl (fun K' hK' => ?_)) | (with_reducible refine ed_id ?_; refine ed_guard rfl (fun K' hK' => ?_))); simp [pairs, hg1]; repeat' (first | (with_reducible refine hK' _ _ ?_; clear hK' K') | (with_reducible refine Ret.use fixed20_ret ?_; try simp [pairs, hg1]) | (with_reducible refine And.intro ?_ ?_) | (with_reducible intro hg) | (clear hK' K'; omega)))
      | (with_reducible refine w_cond (fun A B hA hB => ?_); simp [pairs, hg1]; repeat' (first | (with_reducible refine hA ?_; clear hA hB A B) | (with_reducible refine hB ?_; clear hA hB A B) | (with_reducible refine And.intro ?_ ?_) | (with_reducible intro hc)))
      | (with_reducible refine awp_seq ?_))
    exact ⟨by simp, sub_new (by assumption)⟩
  | cons a l =>
  have hlen : (a :: l).length = l.length + 1 := rfl
  by_cases hg2 : 30 < l.length + 1
  · have hg2' : (30 : Int) < (l.length : Int) + 1 := by omega
    have hg3 : ¬ ((l.length : Int) + 1 < 1) := by omega
    repeat' (first
      | (with_reducible refine awp_skip ?_)
      | (with_reducible refine then_any ?_)
      | (with_reducible refine then_ret ?_)
      | (with_reducible refine then_exit ?_)
      | (with_reducible refine inBlock_normal ?_)
      | (with_reducible refine inBlock_ret ?_)
      | (with_reducible refine inBlock_hit ?_)
      | (with_reducible refine inBlock_miss (by decide) ?_)
      | (with_reducible refine awp_ret ?_)
      | (with_reducible refine awp_exit ?_)
      | (with_reducible refine post_ret ?_)
      | (with_reducible refine post_normal ?_)
      | (with_reducible refine awp_block ?_)
      | (with_reducible refine awp_scope_ret ?_)
      | (with_reducible refine awp_label ?_)
      | (with_reducible refine v_reg [] (fun K hK => ?_))
      | (with_reducible refine v_reg1 [] (fun K hK => ?_))
      | (with_reducible refine v_draw mixed [] [] (by kernel_rfl) (fun K hK => ?_))
      | (with_reducible refine v_draw1 mixed [] [] (by kernel_rfl) (fun K hK => ?_))
      | (with_reducible refine ev_nil (hK _ _ ?_); clear hK K)
      | (with_reducible refine ed_nil (hK _ _ ?_); clear hK K)
      | ((first | with_reducible refine ev_cons (fun K' hK' => ?_) | with_reducible refine ed_cons (fun K' hK' => ?_) | (with_reducible refine ev_id ?_; refine ev_guard rfl (fun K' hK' => ?_)) | (with_reducible refine ed_id ?_; refine ed_guard rfl (fun K' hK' => ?_))); simp [pairs, hg1, hg2', hg3]; repeat' (first | (with_reducible refine hK' _ _ ?_; clear hK' K') | (with_reducible refine Ret.use fixed20_ret ?_; try simp [pairs, hg1, hg2', hg3]) | (with_reducible refine And.intro ?_ ?_) | (with_reducible intro hg) | (clear hK' K'; omega)))
      | (with_reducible refine w_cond (fun A B hA hB => ?_); simp [pairs, hg1, hg2', hg3]; repeat' (first | (with_reducible refine hA ?_; clear hA hB A B) | (with_reducible refine hB ?_; clear hA hB A B) | (with_reducible refine And.intro ?_ ?_) | (with_reducible intro hc)))
      | (with_reducible refine awp_seq ?_))
    exact ⟨by simp, sub_new (by assumption)⟩
  have hg2' : ¬ (30 : Int) < (l.length : Int) + 1 := by omega
  have hg3 : ¬ ((l.length : Int) + 1 < 1) := by omega
  have hs : smLen (a :: l) := by simp only [smLen, hlen]; omega
  have hs2 : smLen l := by simp only [smLen]; omega
  have c0 := may20_ret (w0 := w0) (n := n) (root := root) (k := 1) hs
  rw [mayK_one] at c0
  have hpa : pairs (a :: l) = .sl (I a.1 :: I a.2 :: l.flatMap fun e => [I e.1, I e.2]) (l.length + 1) := rfl
  rw [hpa] at c0
  by_cases hok : mayF n (a :: l) root v = true
  rotate_left
  · cases hA : mayA n (a :: l) root with
    | false =>
      repeat' (first
        | (with_reducible refine awp_skip ?_)
        | (with_reducible refine then_any ?_)
        | (with_reducible refine then_ret ?_)
        | (with_reducible refine then_exit ?_)
        | (with_reducible refine inBlock_normal ?_)
        | (with_reducible refine inBlock_ret ?_)
        | (with_reducible refine inBlock_hit ?_)
        | (with_reducible refine inBlock_miss (by decide) ?_)
        | (with_reducible refine awp_ret ?_)
        | (with_reducible refine awp_exit ?_)
        | (with_reducible refine post_ret ?_)
        | (with_reducible refine post_normal ?_)
        | (with_reducible refine awp_block ?_)
        | (with_reducible refine awp_scope_ret ?_)
        | (with_reducible refine awp_label ?_)
        | (with_reducible refine v_reg [] (fun K hK => ?_))
        | (with_reducible refine v_reg1 [] (fun K hK => ?_))
        | (with_reducible refine v_draw mixed [] [] (by kernel_rfl) (fun K hK => ?_))
        | (with_reducible refine v_draw1 mixed [] [] (by kernel_rfl) (fun K hK => ?_))
        | (with_reducible refine ev_nil (hK _ _ ?_); clear hK K)
        | (with_reducible refine ed_nil (hK _ _ ?_); clear hK K)
        | ((first | with_reducible refine ev_cons (fun K' hK' => ?_) | with_reducible refine ed_cons (fun K' hK' => ?_) | (with_reducible refine ev_id ?_; refine ev_guard rfl (fun K' hK' => ?_)) | (with_reducible refine ed_id ?_; refine ed_guard rfl (fun K' hK' => ?_))); simp [pairs, hg1, hg2', hg3, hA]; repeat' (first | (with_reducible refine hK' _ _ ?_; clear hK' K') | (with_reducible refine Ret.use fixed20_ret ?_; try simp [pairs, hg1, hg2', hg3, hA]) | (with_reducible refine Ret.use c0 ?_; try simp [pairs, hg1, hg2', hg3, hA]) | (with_reducible refine And.intro ?_ ?_) | (with_reducible intro hg) | (clear hK' K'; omega)))
        | (with_reducible refine w_cond (fun A B hA hB => ?_); simp [pairs, hg1, hg2', hg3, hA]; repeat' (first | (with_reducible refine hA ?_; clear hA hB A B) | (with_reducible refine hB ?_; clear hA hB A B) | (with_reducible refine And.intro ?_ ?_) | (with_reducible intro hc)))
        | (with_reducible refine awp_seq ?_))
      exact ⟨by simp, sub_new (by assumption)⟩
    | true =>
      have hno : ¬ (0 ≤ v ∧ v < n ∧ v ≠ root) := fun h => hok (by simp [mayF, hA, h.1, h.2.1, h.2.2])
      by_cases e1 : v < 0
      · repeat' (first
          | (with_reducible refine awp_skip ?_)
          | (with_reducible refine then_any ?_)
          | (with_reducible refine then_ret ?_)
          | (with_reducible refine then_exit ?_)
          | (with_reducible refine inBlock_normal ?_)
          | (with_reducible refine inBlock_ret ?_)
          | (with_reducible refine inBlock_hit ?_)
          | (with_reducible refine inBlock_miss (by decide) ?_)
          | (with_reducible refine awp_ret ?_)
          | (with_reducible refine awp_exit ?_)
          | (with_reducible refine post_ret ?_)
          | (with_reducible refine post_normal ?_)
          | (with_reducible refine awp_block ?_)
          | (with_reducible refine awp_scope_ret ?_)
          | (with_reducible refine awp_label ?_)
          | (with_reducible refine v_reg [] (fun K hK => ?_))
          | (with_reducible refine v_reg1 [] (fun K hK => ?_))
          | (with_reducible refine v_draw mixed [] [] (by kernel_rfl) (fun K hK => ?_))
          | (with_reducible refine v_draw1 mixed [] [] (by kernel_rfl) (fun K hK => ?_))
          | (with_reducible refine ev_nil (hK _ _ ?_); clear hK K)
          | (with_reducible refine ed_nil (hK _ _ ?_); clear hK K)
          | ((first | with_reducible refine ev_cons (fun K' hK' => ?_) | with_reducible refine ed_cons (fun K' hK' => ?_) | (with_reducible refine ev_id ?_; refine ev_guard rfl (fun K' hK' => ?_)) | (with_reducible refine ed_id ?_; refine ed_guard rfl (fun K' hK' => ?_))); simp [pairs, hg1, hg2', hg3, hA, e1]; repeat' (first | (with_reducible refine hK' _ _ ?_; clear hK' K') | (with_reducible refine Ret.use fixed20_ret ?_; try simp [pairs, hg1, hg2', hg3, hA, e1]) | (with_reducible refine Ret.use c0 ?_; try simp [pairs, hg1, hg2', hg3, hA, e1]) | (with_reducible refine And.intro ?_ ?_) | (with_reducible intro hg) | (clear hK' K'; omega)))
          | (with_reducible refine w_cond (fun A B hA hB => ?_); simp [pairs, hg1, hg2', hg3, hA, e1]; repeat' (first | (with_reducible refine hA ?_; clear hA hB A B) | (with_reducible refine hB ?_; clear hA hB A B) | (with_reducible refine And.intro ?_ ?_) | (with_reducible intro hc)))
          | (with_reducible refine awp_seq ?_))
        exact ⟨by simp, sub_new (by assumption)⟩
      by_cases e2 : n ≤ v
      · repeat' (first
          | (with_reducible refine awp_skip ?_)
          | (with_reducible refine then_any ?_)
          | (with_reducible refine then_ret ?_)
          | (with_reducible refine then_exit ?_)
          | (with_reducible refine inBlock_normal ?_)
          | (with_reducible refine inBlock_ret ?_)
          | (with_reducible refine inBlock_hit ?_)
          | (with_reducible refine inBlock_miss (by decide) ?_)
          | (with_reducible refine awp_ret ?_)
          | (with_reducible refine awp_exit ?_)
          | (with_reducible refine post_ret ?_)
          | (with_reducible refine post_normal ?_)
          | (with_reducible refine awp_block ?_)
          | (with_reducible refine awp_scope_ret ?_)
          | (with_reducible refine awp_label ?_)
          | (with_reducible refine v_reg [] (fun K hK => ?_))
          | (with_reducible refine v_reg1 [] (fun K hK => ?_))
          | (with_reducible refine v_draw mixed [] [] (by kernel_rfl) (fun K hK => ?_))
          | (with_reducible refine v_draw1 mixed [] [] (by kernel_rfl) (fun K hK => ?_))
          | (with_reducible refine ev_nil (hK _ _ ?_); clear hK K)
          | (with_reducible refine ed_nil (hK _ _ ?_); clear hK K)
          | ((first | with_reducible refine ev_cons (fun K' hK' => ?_) | with_reducible refine ed_cons (fun K' hK' => ?_) | (with_reducible refine ev_id ?_; refine ev_guard rfl (fun K' hK' => ?_)) | (with_reducible refine ed_id ?_; refine ed_guard rfl (fun K' hK' => ?_))); simp [pairs, hg1, hg2', hg3, hA, e1, e2]; repeat' (first | (with_reducible refine hK' _ _ ?_; clear hK' K') | (with_reducible refine Ret.use fixed20_ret ?_; try simp [pairs, hg1, hg2', hg3, hA, e1, e2]) | (with_reducible refine Ret.use c0 ?_; try simp [pairs, hg1, hg2', hg3, hA, e1, e2]) | (with_reducible refine And.intro ?_ ?_) | (with_reducible intro hg) | (clear hK' K'; omega)))
          | (with_reducible refine w_cond (fun A B hA hB => ?_); simp [pairs, hg1, hg2', hg3, hA, e1, e2]; repeat' (first | (with_reducible refine hA ?_; clear hA hB A B) | (with_reducible refine hB ?_; clear hA hB A B) | (with_reducible refine And.intro ?_ ?_) | (with_reducible intro hc)))
          | (with_reducible refine awp_seq ?_))
        exact ⟨by simp, sub_new (by assumption)⟩
      have e3 : v = root := Classical.byContradiction fun e => hno ⟨by omega, by omega, e⟩
      subst e3
      repeat' (first
        | (with_reducible refine awp_skip ?_)
        | (with_reducible refine then_any ?_)
        | (with_reducible refine then_ret ?_)
        | (with_reducible refine then_exit ?_)
        | (with_reducible refine inBlock_normal ?_)
        | (with_reducible refine inBlock_ret ?_)
        | (with_reducible refine inBlock_hit ?_)
        | (with_reducible refine inBlock_miss (by decide) ?_)
        | (with_reducible refine awp_ret ?_)
        | (with_reducible refine awp_exit ?_)
        | (with_reducible refine post_ret ?_)
        | (with_reducible refine post_normal ?_)
        | (with_reducible refine awp_block ?_)
        | (with_reducible refine awp_scope_ret ?_)
        | (with_reducible refine awp_label ?_)
        | (with_reducible refine v_reg [] (fun K hK => ?_))
        | (with_reducible refine v_reg1 [] (fun K hK => ?_))
        | (with_reducible refine v_draw mixed [] [] (by kernel_rfl) (fun K hK => ?_))
        | (with_reducible refine v_draw1 mixed [] [] (by kernel_rfl) (fun K hK => ?_))
        | (with_reducible refine ev_nil (hK _ _ ?_); clear hK K)
        | (with_reducible refine ed_nil (hK _ _ ?_); clear hK K)
        | ((first | with_reducible refine ev_cons (fun K' hK' => ?_) | with_reducible refine ed_cons (fun K' hK' => ?_) | (with_reducible refine ev_id ?_; refine ev_guard rfl (fun K' hK' => ?_)) | (with_reducible refine ed_id ?_; refine ed_guard rfl (fun K' hK' => ?_))); simp [pairs, hg1, hg2', hg3, hA, e1, e2]; repeat' (first | (with_reducible refine hK' _ _ ?_; clear hK' K') | (with_reducible refine Ret.use fixed20_ret ?_; try simp [pairs, hg1, hg2', hg3, hA, e1, e2]) | (with_reducible refine Ret.use c0 ?_; try simp [pairs, hg1, hg2', hg3, hA, e1, e2]) | (with_reducible refine And.intro ?_ ?_) | (with_reducible intro hg) | (clear hK' K'; omega)))
        | (with_reducible refine w_cond (fun A B hA hB => ?_); simp [pairs, hg1, hg2', hg3, hA, e1, e2]; repeat' (first | (with_reducible refine hA ?_; clear hA hB A B) | (with_reducible refine hB ?_; clear hA hB A B) | (with_reducible refine And.intro ?_ ?_) | (with_reducible intro hc)))
        | (with_reducible refine awp_seq ?_))
      exact ⟨by simp, sub_new (by assumption)⟩
  have hok' := hok
  simp only [mayF, Bool.and_eq_true, decide_eq_true_eq] at hok'
  obtain ⟨⟨⟨hA, hv0⟩, hvn⟩, hvr⟩ := hok'
  have hA2 := mayA_tail hA
  have hA3 := mayA_nil hA
  obtain ⟨m, rfl, hm1, N⟩ := mayA_net hA
  obtain ⟨m2, em2, _, N2⟩ := mayA_net hA2
  obtain ⟨m3, em3, _, N3⟩ := mayA_net hA3
  have : m2 = m := by omega
  subst this
  have : m3 = m2 := by omega
  subst this
  have hnl := N.nle
  have e1 : ¬ v < 0 := by omega
  have e2 : ¬ (m3 : Int) ≤ v := by omega
  have hF := N.flow no0 ⟨hv0, hvn⟩ hvr
  have hF2 := N2.flow no0 ⟨hv0, hvn⟩ hvr
  have hF3 := N3.flow no0 ⟨hv0, hvn⟩ hvr
  have c1 := flow_ret (w0 := w0) (n := m3) (root := root) (v := v) hs
  have c2 := flow_ret (w0 := w0) (n := m3) (root := root) (v := v) hs2
  have c3 := flow_ret (w0 := w0) (n := m3) (root := root) (v := v) (arcs := []) (by simp)
  rw [flowT_ok hA hv0 hvn hvr] at c1
  rw [flowT_ok hA2 hv0 hvn hvr] at c2
  rw [flowT_ok hA3 hv0 hvn hvr] at c3
  generalize flowA (a :: l) m3 no0 root v = uc at hF c1
  generalize flowA l m3 no0 root v = uc2 at hF2 c2
  generalize flowA [] m3 no0 root v = uc3 at hF3 c3
  obtain ⟨u, c⟩ := uc
  obtain ⟨u2, d⟩ := uc2
  obtain ⟨u3, e⟩ := uc3
  simp only at hF c1 hF2 c2 hF3 c3
  obtain ⟨b1, b2⟩ := flow_tail hF hF2
  obtain ⟨b3, b4⟩ := flow_nil N.root hvr hF3
  obtain ⟨b5, b6⟩ := inC_le hF hvr
  rw [b3] at c3
  rw [hlen] at b5 b6
  repeat' (first
    | (with_reducible refine awp_skip ?_)
    | (with_reducible refine then_any ?_)
    | (with_reducible refine then_ret ?_)
    | (with_reducible refine then_exit ?_)
    | (with_reducible refine inBlock_normal ?_)
    | (with_reducible refine inBlock_ret ?_)
    | (with_reducible refine inBlock_hit ?_)
    | (with_reducible refine inBlock_miss (by decide) ?_)
    | (with_reducible refine awp_ret ?_)
    | (with_reducible refine awp_exit ?_)
    | (with_reducible refine post_ret ?_)
    | (with_reducible refine post_normal ?_)
    | (with_reducible refine awp_block ?_)
    | (with_reducible refine awp_scope_ret ?_)
    | (with_reducible refine awp_label ?_)
    | ((fail_if_success (with_reducible refine at_reg 3 ?_)); with_reducible refine v_reg [] (fun K hK => ?_))
    | (with_reducible refine v_reg1 [] (fun K hK => ?_))
    | ((fail_if_success (with_reducible refine at_reg 3 ?_)); with_reducible refine v_draw mixed [] [] (by kernel_rfl) (fun K hK => ?_))
    | (with_reducible refine v_draw1 mixed [] [] (by kernel_rfl) (fun K hK => ?_))
    | (with_reducible refine ev_nil (hK _ _ ?_); clear hK K)
    | (with_reducible refine ed_nil (hK _ _ ?_); clear hK K)
    | ((first | with_reducible refine ev_cons (fun K' hK' => ?_) | with_reducible refine ed_cons (fun K' hK' => ?_) | (with_reducible refine ev_id ?_; refine ev_guard rfl (fun K' hK' => ?_)) | (with_reducible refine ed_id ?_; refine ed_guard rfl (fun K' hK' => ?_))); simp [pairs, hg1, hg2', hg3, hA, e1, e2, hvr]; repeat' (first | (with_reducible refine hK' _ _ ?_; clear hK' K') | (with_reducible refine Ret.use fixed20_ret ?_; try simp [pairs, hg1, hg2', hg3, hA, e1, e2, hvr]) | (with_reducible refine Ret.use c0 ?_; try simp [pairs, hg1, hg2', hg3, hA, e1, e2, hvr]) | (with_reducible refine And.intro ?_ ?_) | (with_reducible intro hg) | (clear hK' K'; omega)))
    | (with_reducible refine w_cond (fun A B hA hB => ?_); simp [pairs, hg1, hg2', hg3, hA, e1, e2, hvr]; repeat' (first | (with_reducible refine hA ?_; clear hA hB A B) | (with_reducible refine hB ?_; clear hA hB A B) | (with_reducible refine And.intro ?_ ?_) | (with_reducible intro hc)))
    | ((fail_if_success (with_reducible refine at_reg 3 ?_)); with_reducible refine awp_seq ?_))
  rename_i r
  have hr : H r = none := by assumption
  have hbox : AV.sl (I a.1 :: I a.2 :: l.flatMap fun e => [I e.1, I e.2]) (l.length + 1) = pairs (a :: l) := rfl
  rw [hbox]
  obtain ⟨arcs, harcs⟩ : ∃ arcs, arcs = a :: l := ⟨_, rfl⟩
  have hal : arcs.length = l.length + 1 := by rw [harcs]; rfl
  rw [← harcs, ← hal] at b5 b6
  rw [← harcs]
  repeat' (first
    | (with_reducible refine awp_skip ?_)
    | (with_reducible refine then_any ?_)
    | (with_reducible refine then_ret ?_)
    | (with_reducible refine then_exit ?_)
    | (with_reducible refine inBlock_normal ?_)
    | (with_reducible refine inBlock_ret ?_)
    | (with_reducible refine inBlock_hit ?_)
    | (with_reducible refine inBlock_miss (by decide) ?_)
    | (with_reducible refine awp_ret ?_)
    | (with_reducible refine awp_exit ?_)
    | (with_reducible refine post_ret ?_)
    | (with_reducible refine post_normal ?_)
    | (with_reducible refine awp_block ?_)
    | (with_reducible refine awp_scope_ret ?_)
    | (with_reducible refine awp_label ?_)
    | (with_reducible refine v_reg [] (fun K hK => ?_))
    | (with_reducible refine v_reg1 [] (fun K hK => ?_))
    | (with_reducible refine v_draw mixed [] [] (by kernel_rfl) (fun K hK => ?_))
    | (with_reducible refine v_draw1 mixed [] [] (by kernel_rfl) (fun K hK => ?_))
    | (with_reducible refine ev_nil (hK _ _ ?_); clear hK K)
    | (with_reducible refine ed_nil (hK _ _ ?_); clear hK K)
    | ((first | with_reducible refine ev_cons (fun K' hK' => ?_) | with_reducible refine ed_cons (fun K' hK' => ?_) | (with_reducible refine ev_id ?_; refine ev_guard rfl (fun K' hK' => ?_)) | (with_reducible refine ed_id ?_; refine ed_guard rfl (fun K' hK' => ?_))); simp; repeat' (first | (with_reducible refine hK' _ _ ?_; clear hK' K') | (with_reducible refine And.intro ?_ ?_) | (with_reducible intro hg) | (clear hK' K'; omega)))
    | (with_reducible refine w_cond (fun A B hA hB => ?_); simp; repeat' (first | (with_reducible refine hA ?_; clear hA hB A B) | (with_reducible refine hB ?_; clear hA hB A B) | (with_reducible refine And.intro ?_ ?_) | (with_reducible intro hc)))
    | (with_reducible refine awp_seq ?_))
  refine awp_loop (fun env h => ∃ i : Nat, i ≤ arcs.length ∧ env 7 = I i ∧ env 5 = I (inC arcs v i) ∧ env 6 = I (outC arcs root i) ∧ env 1 = I v ∧ env 2 = .ptr r 0 0 ∧ h = upd H r (some (.box [I m3, pairs arcs, I root, I k]))) (fun env _ => arcs.length - natA (env 7)) ?_ ?_
  · exact ⟨0, by omega, by simp, by simp [inC, upto_zero], by simp [outC, upto_zero], by simp, by simp, rfl⟩
  rintro env h ⟨i, hi, h7, h5, h6, h1, h2, rfl⟩
  have hnat : natA (env 7) = i := by simp [h7]
  rw [hnat]; clear hnat
  have hi1 : inC arcs v i ≤ i := by
    have := List.countP_le_length (p := fun i => decide (hdA arcs i = v) && decide (tlA arcs i ≠ v)) (l := upto i)
    rwa [upto_length] at this
  have hi2 : outC arcs root i ≤ i := by
    have := List.countP_le_length (p := fun i => decide (tlA arcs i = root) && decide (hdA arcs i ≠ root)) (l := upto i)
    rwa [upto_length] at this
  by_cases hil : i < arcs.length
  · have hp := pairs_at hil
    rw [tlA_get hil, hdA_get hil] at hp
    have s1 : inC arcs v (i + 1) = inC arcs v i + if hdA arcs i = v ∧ tlA arcs i ≠ v then 1 else 0 := by
      rw [inC, upto_succ, List.countP_append]; simp [inC, List.countP_cons]
    have s2 : outC arcs root (i + 1) = outC arcs root i + if tlA arcs i = root ∧ hdA arcs i ≠ root then 1 else 0 := by
      rw [outC, upto_succ, List.countP_append]; simp [outC, List.countP_cons]
    generalize inC arcs v i = ci at *
    generalize outC arcs root i = co at *
    repeat' (first
      | (with_reducible refine awp_skip ?_)
      | (with_reducible refine then_any ?_)
      | (with_reducible refine then_ret ?_)
      | (with_reducible refine then_exit ?_)
      | (with_reducible refine inBlock_normal ?_)
      | (with_reducible refine inBlock_ret ?_)
      | (with_reducible refine inBlock_hit ?_)
      | (with_reducible refine inBlock_miss (by decide) ?_)
      | (with_reducible refine awp_ret ?_)
      | (with_reducible refine awp_exit ?_)
      | (with_reducible refine post_ret ?_)
      | (with_reducible refine post_normal ?_)
      | (with_reducible refine awp_block ?_)
      | (with_reducible refine awp_scope_ret ?_)
      | (with_reducible refine awp_label ?_)
      | (with_reducible refine v_reg [] (fun K hK => ?_))
      | (with_reducible refine v_reg1 [] (fun K hK => ?_))
      | (with_reducible refine v_draw mixed [] [] (by kernel_rfl) (fun K hK => ?_))
      | (with_reducible refine v_draw1 mixed [] [] (by kernel_rfl) (fun K hK => ?_))
      | (with_reducible refine ev_nil (hK _ _ ?_); clear hK K)
      | (with_reducible refine ed_nil (hK _ _ ?_); clear hK K)
      | ((first | with_reducible refine ev_cons (fun K' hK' => ?_) | with_reducible refine ed_cons (fun K' hK' => ?_) | (with_reducible refine ev_id ?_; refine ev_guard rfl (fun K' hK' => ?_)) | (with_reducible refine ed_id ?_; refine ed_guard rfl (fun K' hK' => ?_))); simp [h7, h5, h6, h1, h2, hil, pairs_len, sum2, hp.1, hp.2.1, hp.2.2]; repeat' (first | (with_reducible refine hK' _ _ ?_; clear hK' K') | (with_reducible refine And.intro ?_ ?_) | (with_reducible intro hg) | (clear hK' K'; omega)))
      | (with_reducible refine w_cond (fun A B hA hB => ?_); simp [h7, h5, h6, h1, h2, hil, pairs_len, sum2, hp.1, hp.2.1, hp.2.2]; repeat' (first | (with_reducible refine hA ?_; clear hA hB A B) | (with_reducible refine hB ?_; clear hA hB A B) | (with_reducible refine And.intro ?_ ?_) | (with_reducible intro hc)))
      | (with_reducible refine awp_seq ?_))
    all_goals exact ⟨⟨i + 1, by omega, by simp, (by rw [s1]; first | (rw [if_pos ⟨by assumption, by assumption⟩]; simp) | (rw [if_neg (fun h => absurd h.1 (by assumption))]; simp [h5]) | (rw [if_neg (fun h => h.2 (by assumption))]; simp [h5])), (by rw [s2]; first | (rw [if_pos ⟨by assumption, by assumption⟩]; simp) | (rw [if_neg (fun h => absurd h.1 (by assumption))]; simp [h6]) | (rw [if_neg (fun h => h.2 (by assumption))]; simp [h6])), by simp [h1], by simp [h2], rfl⟩, by simp; omega⟩
  · have : i = arcs.length := by omega
    subst this
    subst harcs
    have hb5 : u ≤ inC (a :: l) v (l.length + 1) := b5
    have hb6 : u ≤ outC (a :: l) root (l.length + 1) := b6
    have q1 : (u2 ≤ u) = True := by simp [b1]
    have q2 : ((u : Int) ≤ (u2 : Int) + 1) = True := by simp; omega
    have q3 : ((e.length : Int) = (m3 : Int) - 1) = True := by simp; omega
    have hpn : pairs [] = .sl [] 0 := rfl
    rw [hpn] at c3
    repeat' (first
      | (with_reducible refine awp_skip ?_)
      | (with_reducible refine then_any ?_)
      | (with_reducible refine then_ret ?_)
      | (with_reducible refine then_exit ?_)
      | (with_reducible refine inBlock_normal ?_)
      | (with_reducible refine inBlock_ret ?_)
      | (with_reducible refine inBlock_hit ?_)
      | (with_reducible refine inBlock_miss (by decide) ?_)
      | (with_reducible refine awp_ret ?_)
      | (with_reducible refine awp_exit ?_)
      | (with_reducible refine post_ret ?_)
      | (with_reducible refine post_normal ?_)
      | (with_reducible refine awp_block ?_)
      | (with_reducible refine awp_scope_ret ?_)
      | (with_reducible refine awp_label ?_)
      | (with_reducible refine v_reg [] (fun K hK => ?_))
      | (with_reducible refine v_reg1 [] (fun K hK => ?_))
      | (with_reducible refine v_draw mixed [] [] (by kernel_rfl) (fun K hK => ?_))
      | (with_reducible refine v_draw1 mixed [] [] (by kernel_rfl) (fun K hK => ?_))
      | (with_reducible refine ev_nil (hK _ _ ?_); clear hK K)
      | (with_reducible refine ed_nil (hK _ _ ?_); clear hK K)
      | ((first | with_reducible refine ev_cons (fun K' hK' => ?_) | with_reducible refine ed_cons (fun K' hK' => ?_) | (with_reducible refine ev_id ?_; refine ev_guard rfl (fun K' hK' => ?_)) | (with_reducible refine ed_id ?_; refine ed_guard rfl (fun K' hK' => ?_))); simp [h7, h5, h6, h1, h2, q1, q2, q3]; repeat' (first | (with_reducible refine hK' _ _ ?_; clear hK' K') | (with_reducible refine Ret.use c1 ?_; try simp [h7, h5, h6, h1, h2, q1, q2, q3]) | (with_reducible refine Ret.use c2 ?_; try simp [h7, h5, h6, h1, h2, q1, q2, q3]) | (with_reducible refine Ret.use c3 ?_; try simp [h7, h5, h6, h1, h2, q1, q2, q3]) | (with_reducible refine And.intro ?_ ?_) | (with_reducible intro hg) | (clear hK' K'; omega)))
      | (with_reducible refine w_cond (fun A B hA hB => ?_); simp [h7, h5, h6, h1, h2, q1, q2, q3]; repeat' (first | (with_reducible refine hA ?_; clear hA hB A B) | (with_reducible refine hB ?_; clear hA hB A B) | (with_reducible refine And.intro ?_ ?_) | (with_reducible intro hc)))
      | (with_reducible refine awp_seq ?_))
    all_goals first
      | (exfalso; omega)
      | (rw [sum2]; omega)
      | exact ⟨by simp, sub_new hr⟩
end Go.Am
