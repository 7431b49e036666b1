/- Contracts: an arborescence is grown (arcs). -/
import Derived.Test.YtkgcmgbndapjcaaM19
import Derived.Test.YtkgcmgbndapjcaaW29
import Derived.Test.YtkgcmgbndapjcaaA8
namespace Go.Am
open Go Go.Proofs
set_option linter.unusedVariables false
set_option linter.unusedSimpArgs false
variable {w0 : World}
attribute [local irreducible] AWP ACalls
attribute [local congr] acalls_congr

/-- What grows: has, out, gone. -/
def gh (H : Heap) (G C O m n : Nat) (gone has : Int → Bool) (out : List Int) : Heap :=
  upd (upd (upd H C (some (.arr 1 4 (labB n has) n))) O (some (.arr 1 3 (out.map I) out.length))) G (some (.arr 1 4 (labB m gone) m))
structure Dg (G C O : Nat) : Prop where
  cg : C ≠ G
  og : O ≠ G
  co : C ≠ O
section
variable {H : Heap} {G C O m n r : Nat} {gone has : Int → Bool} {out : List Int} {x : Option Blk}
theorem gh_G : gh H G C O m n gone has out G = some (.arr 1 4 (labB m gone) m) := by simp [gh]
theorem gh_C (d : Dg G C O) : gh H G C O m n gone has out C = some (.arr 1 4 (labB n has) n) := by simp [gh, d.cg, d.co]
theorem gh_O (d : Dg G C O) : gh H G C O m n gone has out O = some (.arr 1 3 (out.map I) out.length) := by simp [gh, d.og]
theorem gh_setG {w : Int} {y : Bool} (h0 : 0 ≤ w) : upd (gh H G C O m n gone has out) G (some (.arr 1 4 ((labB m gone).set w.toNat (B y)) m)) = gh H G C O m n (setF gone w y) has out := by
  unfold gh; rw [upd_upd, labB_set h0]
theorem gh_setC (d : Dg G C O) {w : Int} {y : Bool} (h0 : 0 ≤ w) : upd (gh H G C O m n gone has out) C (some (.arr 1 4 ((labB n has).set w.toNat (B y)) n)) = gh H G C O m n gone (setF has w y) out := by
  unfold gh; rw [upd_comm _ _ _ (Ne.symm d.cg), upd_comm _ _ _ (Ne.symm d.co), upd_upd, labB_set h0]
theorem gh_app (d : Dg G C O) {i : Int} : upd (gh H G C O m n gone has out) O (some (.arr 1 3 (out.map I ++ [I i]) (out.length + 1))) = gh H G C O m n gone has (out ++ [i]) := by
  unfold gh; rw [upd_comm _ _ _ (Ne.symm d.og), upd_upd]; simp
theorem gh_asO (d : Dg G C O) : gh H G C O m n gone has out = upd (upd (upd H C (some (.arr 1 4 (labB n has) n))) G (some (.arr 1 4 (labB m gone) m))) O (some (.arr 1 3 (out.map I) out.length)) := by
  unfold gh; rw [upd_comm _ _ _ d.og]
theorem gh_none (h : gh H G C O m n gone has out r = none) : r ≠ G ∧ r ≠ C ∧ r ≠ O ∧ H r = none := by
  unfold gh at h
  by_cases e1 : r = G
  · subst e1; simp [upd_same] at h
  rw [upd_ne _ _ _ e1] at h
  by_cases e2 : r = O
  · subst e2; simp [upd_same] at h
  rw [upd_ne _ _ _ e2] at h
  by_cases e3 : r = C
  · subst e3; simp [upd_same] at h
  rw [upd_ne _ _ _ e3] at h
  exact ⟨e1, e3, e2, h⟩
theorem gh_upd (h1 : r ≠ G) (h2 : r ≠ C) (h3 : r ≠ O) : upd (gh H G C O m n gone has out) r x = gh (upd H r x) G C O m n gone has out := by
  unfold gh; rw [upd_comm _ _ _ (Ne.symm h1), upd_comm _ _ _ (Ne.symm h3), upd_comm _ _ _ (Ne.symm h2)]
theorem gh_r (h1 : r ≠ G) (h2 : r ≠ C) (h3 : r ≠ O) : gh (upd H r x) G C O m n gone has out r = x := by simp [gh, h1, h2, h3]
theorem gh_sub (h : H r = none) (h1 : r ≠ G) (h2 : r ≠ C) (h3 : r ≠ O) : Sub (gh H G C O m n gone has out) (gh (upd H r x) G C O m n gone has out) := by
  rw [← gh_upd h1 h2 h3]
  refine sub_new ?_
  simp [gh, h1, h2, h3, h]
end

theorem sortI_set {l : List Int} {m : Nat} (hn : l.Nodup) (hr : ∀ i ∈ l, 0 ≤ i ∧ i < m) : sortI l = (upto m).filter fun i => decide (i ∈ l) := by
  have h1 : (sortI l).Pairwise (· ≤ ·) := by
    have := List.pairwise_mergeSort (le := fun x y : Int => decide (x ≤ y)) (fun a b c h1 h2 => by simp at *; omega) (fun a b => by simp; omega) l
    simpa [sortI] using this
  have hp : (sortI l).Perm l := List.mergeSort_perm _ _
  have h2 : (sortI l).Pairwise (· ≠ ·) := hp.nodup_iff.2 hn
  refine up_ext ((h1.and h2).imp fun h => by omega) ((up_upto _).filter _) fun x => ?_
  rw [hp.mem_iff, List.mem_filter, mem_upto]
  exact ⟨fun h => ⟨hr x h, by simpa using h⟩, fun h => by simpa using h.2⟩

set_option maxHeartbeats 4000000 in
theorem grow_use {H : Heap} {G n others : Nat} {arcs : List (Int × Int)} {gone : Int → Bool} {root : Int} (N : NetA n arcs root) (ho : others ≤ 1000) {K : AV → Heap → Prop} (hGn : H G = none)
    (k : K (ints (growL arcs n root others gone)) (upd H G (some (.arr 1 4 (labB arcs.length (finG arcs n root others gone).gone) arcs.length)))) :
    ACalls Try.prog w0 37 [I n, pairs arcs, .ref G 0 arcs.length arcs.length, I root, I others] (upd H G (some (.arr 1 4 (labB arcs.length gone) arcs.length))) K := by
  refine (?_ : ACalls Try.prog w0 37 [I n, pairs arcs, .ref G 0 arcs.length arcs.length, I root, I others] (upd H G (some (.arr 1 4 (labB arcs.length gone) arcs.length)))
    (fun v h => v = ints (growL arcs n root others gone) ∧ Sub (upd H G (some (.arr 1 4 (labB arcs.length (finG arcs n root others gone).gone) arcs.length))) h)).drop ?_
  rotate_left
  · rintro v H' ⟨rfl, s⟩
    exact ⟨_, s, k⟩
  clear k K
  have hn := N.nle
  have hm := N.mle
  have hrt := N.root
  have hrn : root.toNat < n := by omega
  refine w_enter Try.func37 rfl Try.ntmps37 (ts := [10]) rfl (by simp) (by kernel_rfl) ?_
  have hset0 := labB_set (n := n) (s := fun _ => false) (w := root) (x := true) hrt.1
  have hl0 := labB_length n (fun _ => false)
  repeat' (first
    | (with_reducible refine awp_skip ?_)
    | (with_reducible refine then_any ?_)
    | (with_reducible refine then_ret ?_)
    | (with_reducible refine then_exit ?_)
    | (with_reducible refine inBlock_normal ?_)
    | (with_reducible refine inBlock_ret ?_)
    | (with_reducible refine inBlock_hit ?_)
    | (with_reducible refine inBlock_miss (by decide) ?_)
    | (with_reducible refine awp_ret ?_)
    | (with_reducible refine awp_exit ?_)
    | (with_reducible refine post_ret ?_)
    | (with_reducible refine post_normal ?_)
    | (with_reducible refine awp_block ?_)
    | (with_reducible refine awp_scope_ret ?_)
    | (with_reducible refine awp_label ?_)
    | ((fail_if_success (with_reducible refine at_reg 4 ?_)); with_reducible refine v_reg [12] (fun K hK => ?_))
    | (with_reducible refine v_reg1 [12] (fun K hK => ?_))
    | ((fail_if_success (with_reducible refine at_reg 4 ?_)); with_reducible refine v_draw mixed [12] [] (by kernel_rfl) (fun K hK => ?_))
    | (with_reducible refine v_draw1 mixed [12] [] (by kernel_rfl) (fun K hK => ?_))
    | (with_reducible refine ev_nil (hK _ _ ?_); clear hK K)
    | (with_reducible refine ed_nil (hK _ _ ?_); clear hK K)
    | ((first | with_reducible refine ev_cons (fun K' hK' => ?_) | with_reducible refine ed_cons (fun K' hK' => ?_) | (with_reducible refine ev_id ?_; refine ev_guard rfl (fun K' hK' => ?_)) | (with_reducible refine ed_id ?_; refine ed_guard rfl (fun K' hK' => ?_))); simp [pairs, labB_rep, hrn, hrt.1, hrt.2, hset0, hl0]; repeat' (first | (with_reducible refine hK' _ _ ?_; clear hK' K') | (with_reducible refine And.intro ?_ ?_) | (with_reducible intro hg) | (clear hK' K'; omega)))
    | (with_reducible refine w_cond (fun A B hA hB => ?_); simp [pairs, labB_rep, hrn, hrt.1, hrt.2, hset0, hl0]; repeat' (first | (with_reducible refine hA ?_; clear hA hB A B) | (with_reducible refine hB ?_; clear hA hB A B) | (with_reducible refine And.intro ?_ ?_) | (with_reducible intro hc)))
    | ((fail_if_success (with_reducible refine at_reg 4 ?_)); with_reducible refine awp_seq ?_))
  rename_i C hC0 O
  obtain ⟨hCG, hC⟩ : C ≠ G ∧ H C = none := by
    have h1 : C ≠ G := by rintro rfl; simp at hC0
    exact ⟨h1, by rw [if_neg h1] at hC0; exact hC0⟩
  obtain ⟨hOC, hOG, hO⟩ : O ≠ C ∧ O ≠ G ∧ H O = none := by
    have h1 : O ≠ C := by rintro rfl; simp at hg
    rw [if_neg h1] at hg
    have h2 : O ≠ G := by rintro rfl; simp at hg
    exact ⟨h1, h2, by rw [if_neg h2] at hg; exact hg⟩
  clear hg hC0 hset0 hl0
  have d : Dg G C O := ⟨hCG, hOG, Ne.symm hOC⟩
  have hst : (upd (upd (upd H G (some (.arr 1 4 (labB arcs.length gone) arcs.length))) C (some (.arr 1 4 (labB n (setF (fun _ => false) root true)) n))) O (some (.arr 1 3 [] 0))) =
      gh H G C O arcs.length n (startG root gone).gone (startG root gone).has (startG root gone).out := by
    unfold gh
    rw [upd_comm H _ _ (Ne.symm hCG), upd_comm _ _ _ (Ne.symm hOG)]
    rfl
  generalize hiter : iterG arcs n root others gone = it at *
  have hfinG : finG arcs n root others gone = it (n - 1) := by rw [finG, hiter]
  have hinv : ∀ j, GInv arcs n root gone (it j) := fun j => by rw [← hiter]; exact .iter N gone j
  have hstop : ∀ j k, stepG arcs n root others (it j) = it j → j ≤ k → it k = it j := fun j k h1 h2 => by rw [← hiter] at *; exact iterG_stop h1 k h2
  have hnext : ∀ j, it (j + 1) = stepG arcs n root others (it j) := fun j => by rw [← hiter]; rfl
  have hz : it 0 = startG root gone := by rw [← hiter]; rfl
  rw [hst, ← hz]
  refine awp_loop_prep (fun env h => ∃ j : Nat, (it j).out.length = j ∧ env 0 = I n ∧ env 1 = pairs arcs ∧ env 2 = .ref G 0 arcs.length arcs.length ∧ env 3 = I root ∧ env 4 = I others ∧ env 11 = .ref C 0 n n ∧ env 12 = .ref O 0 (it j).out.length (it j).out.length ∧
      h = gh H G C O arcs.length n (it j).gone (it j).has (it j).out)
    (fun env h => ∃ j : Nat, (it j).out.length = j ∧ env 0 = I n ∧ env 1 = pairs arcs ∧ env 2 = .ref G 0 arcs.length arcs.length ∧ env 3 = I root ∧ env 4 = I others ∧ env 11 = .ref C 0 n n ∧ env 12 = .ref O 0 (it j).out.length (it j).out.length ∧
      Sub (gh H G C O arcs.length n (it j).gone (it j).has (it j).out) h) (fun env _ => n - lenA (env 12)) ?_ ?_ ?_
  · refine ⟨0, by rw [hz]; rfl, by simp, by simp [pairs], by simp, by simp, by simp, by simp, by rw [hz]; simp [startG], .refl _⟩
  · rintro env h ⟨j, a1, a2, a3, a4, a5, a6, a7, a8, s⟩ Q' q
    exact AWP.sub s (q env _ ⟨j, a1, a2, a3, a4, a5, a6, a7, a8, rfl⟩ rfl)
  rintro env h ⟨j, hj, h0, h1, h2, h3, h4, h11, h12, rfl⟩
  have hnat : lenA (env 12) = j := by simp [h12, lenA, hj]
  rw [hnat]; clear hnat
  have hI := hinv j
  have hjn := hI.len_lt
  by_cases hlt : j + 1 < n
  · have hlt' : (j : Int) < (n : Int) - 1 := by omega
    have hsI := hnext j
    generalize hs : it j = s at *
    repeat' (first
      | (with_reducible refine awp_skip ?_)
      | (with_reducible refine then_any ?_)
      | (with_reducible refine then_ret ?_)
      | (with_reducible refine then_exit ?_)
      | (with_reducible refine inBlock_normal ?_)
      | (with_reducible refine inBlock_ret ?_)
      | (with_reducible refine inBlock_hit ?_)
      | (with_reducible refine inBlock_miss (by decide) ?_)
      | (with_reducible refine awp_ret ?_)
      | (with_reducible refine awp_exit ?_)
      | (with_reducible refine post_ret ?_)
      | (with_reducible refine post_normal ?_)
      | (with_reducible refine awp_block ?_)
      | (with_reducible refine awp_scope_ret ?_)
      | (with_reducible refine awp_label ?_)
      | (with_reducible refine v_reg [] (fun K hK => ?_))
      | (with_reducible refine v_reg1 [] (fun K hK => ?_))
      | (with_reducible refine v_draw mixed [] [] (by kernel_rfl) (fun K hK => ?_))
      | (with_reducible refine v_draw1 mixed [] [] (by kernel_rfl) (fun K hK => ?_))
      | (with_reducible refine ev_nil (hK _ _ ?_); clear hK K)
      | (with_reducible refine ed_nil (hK _ _ ?_); clear hK K)
      | ((first | with_reducible refine ev_cons (fun K' hK' => ?_) | with_reducible refine ed_cons (fun K' hK' => ?_) | (with_reducible refine ev_id ?_; refine ev_guard rfl (fun K' hK' => ?_)) | (with_reducible refine ed_id ?_; refine ed_guard rfl (fun K' hK' => ?_))); simp [h0, h1, h2, h3, h4, h11, h12, hj, hlt', pairs]; repeat' (first | (with_reducible refine hK' _ _ ?_; clear hK' K') | (with_reducible refine And.intro ?_ ?_) | (with_reducible intro hg) | (clear hK' K'; omega)))
      | (with_reducible refine w_cond (fun A B hA hB => ?_); simp [h0, h1, h2, h3, h4, h11, h12, hj, hlt', pairs]; repeat' (first | (with_reducible refine hA ?_; clear hA hB A B) | (with_reducible refine hB ?_; clear hA hB A B) | (with_reducible refine And.intro ?_ ?_) | (with_reducible intro hc)))
      | (with_reducible refine awp_seq ?_))
    refine awp_loop_prep (fun env h => ∃ i : Nat, i ≤ arcs.length ∧ (∀ q : Int, 0 ≤ q → q < i → okG arcs n root others s q = false) ∧ env 27 = I i ∧ env 26 = I arcs.length ∧ env 25 = pairs arcs ∧
        env 0 = I n ∧ env 1 = pairs arcs ∧ env 2 = .ref G 0 arcs.length arcs.length ∧ env 3 = I root ∧ env 4 = I others ∧ env 11 = .ref C 0 n n ∧ env 12 = .ref O 0 s.out.length s.out.length ∧ h = gh H G C O arcs.length n s.gone s.has s.out)
      (fun env h => ∃ i : Nat, i ≤ arcs.length ∧ (∀ q : Int, 0 ≤ q → q < i → okG arcs n root others s q = false) ∧ env 27 = I i ∧ env 26 = I arcs.length ∧ env 25 = pairs arcs ∧
        env 0 = I n ∧ env 1 = pairs arcs ∧ env 2 = .ref G 0 arcs.length arcs.length ∧ env 3 = I root ∧ env 4 = I others ∧ env 11 = .ref C 0 n n ∧ env 12 = .ref O 0 s.out.length s.out.length ∧ Sub (gh H G C O arcs.length n s.gone s.has s.out) h) (fun env _ => arcs.length - natA (env 27)) ?_ ?_ ?_
    · exact ⟨0, by omega, fun q a b => by omega, by simp, by simp, by simp [pairs], by simp [h0], by simp [h1, pairs], by simp [h2], by simp [h3], by simp [h4], by simp [h11], by simp [h12, hj], .refl _⟩
    · clear h0 h1 h2 h3 h4 h11 h12
      rintro env h ⟨i, a1, a2, a3, a4, a5, a6, a7, a8, a9, a10, a11, a12, s⟩ Q' q
      exact AWP.sub s (q env _ ⟨i, a1, a2, a3, a4, a5, a6, a7, a8, a9, a10, a11, a12, rfl⟩ rfl)
    clear h0 h1 h2 h3 h4 h11 h12
    rintro env h ⟨i, hi, hno, h27, h26, h25, h0, h1, h2, h3, h4, h11, h12, rfl⟩
    have hnat : natA (env 27) = i := by simp [h27]
    rw [hnat]; clear hnat
    by_cases hil : i < arcs.length
    · have hp := pairs_get hil
      rw [tlA_get hil, hdA_get hil] at hp
      repeat' (first
        | (with_reducible refine awp_skip ?_)
        | (with_reducible refine then_any ?_)
        | (with_reducible refine then_ret ?_)
        | (with_reducible refine then_exit ?_)
        | (with_reducible refine inBlock_normal ?_)
        | (with_reducible refine inBlock_ret ?_)
        | (with_reducible refine inBlock_hit ?_)
        | (with_reducible refine inBlock_miss (by decide) ?_)
        | (with_reducible refine awp_ret ?_)
        | (with_reducible refine awp_exit ?_)
        | (with_reducible refine post_ret ?_)
        | (with_reducible refine post_normal ?_)
        | (with_reducible refine awp_block ?_)
        | (with_reducible refine awp_scope_ret ?_)
        | (with_reducible refine awp_label ?_)
        | ((fail_if_success (with_reducible refine at_reg 8 ?_)); with_reducible refine v_reg [] (fun K hK => ?_))
        | (with_reducible refine v_reg1 [] (fun K hK => ?_))
        | ((fail_if_success (with_reducible refine at_reg 8 ?_)); with_reducible refine v_draw mixed [] [] (by kernel_rfl) (fun K hK => ?_))
        | (with_reducible refine v_draw1 mixed [] [] (by kernel_rfl) (fun K hK => ?_))
        | (with_reducible refine ev_nil (hK _ _ ?_); clear hK K)
        | (with_reducible refine ed_nil (hK _ _ ?_); clear hK K)
        | ((first | with_reducible refine ev_cons (fun K' hK' => ?_) | with_reducible refine ed_cons (fun K' hK' => ?_) | (with_reducible refine ev_id ?_; refine ev_guard rfl (fun K' hK' => ?_)) | (with_reducible refine ed_id ?_; refine ed_guard rfl (fun K' hK' => ?_))); simp [h27, h26, h25, hil, pairs, pairs_len, sum2, hp.1, hp.2.1, hp.2.2]; repeat' (first | (with_reducible refine hK' _ _ ?_; clear hK' K') | (with_reducible refine And.intro ?_ ?_) | (with_reducible intro hg) | (clear hK' K'; omega)))
        | (with_reducible refine w_cond (fun A B hA hB => ?_); simp [h27, h26, h25, hil, pairs, pairs_len, sum2, hp.1, hp.2.1, hp.2.2]; repeat' (first | (with_reducible refine hA ?_; clear hA hB A B) | (with_reducible refine hB ?_; clear hA hB A B) | (with_reducible refine And.intro ?_ ?_) | (with_reducible intro hc)))
        | ((fail_if_success (with_reducible refine at_reg 8 ?_)); with_reducible refine awp_seq ?_))
      rename_i r
      obtain ⟨r1, r2, r3, r0⟩ := gh_none hg
      rw [gh_upd r1 r2 r3]
      have hsub := gh_sub (m := arcs.length) (n := n) (gone := s.gone) (has := s.has) (out := s.out) (x := some (.box [I (tlA arcs i), I (hdA arcs i)])) r0 r1 r2 r3
      clear hg
      obtain ⟨⟨t0, tn⟩, ⟨q0, qn⟩⟩ := N.ends i (by omega) (by omega)
      obtain ⟨tl, htl⟩ : ∃ x, x = tlA arcs i := ⟨_, rfl⟩
      obtain ⟨hd, hhd⟩ : ∃ x, x = hdA arcs i := ⟨_, rfl⟩
      rw [← htl] at t0 tn hsub
      rw [← hhd] at q0 qn hsub
      rw [← htl, ← hhd]
      have ttn : tl.toNat < n := by omega
      have hhn : hd.toNat < n := by omega
      have cat1 : ∀ (g : Int → Bool) h, (labB n g)[tl.toNat]'h = B (g tl) := fun g h => labB_at t0 h
      have cat2 : ∀ (g : Int → Bool) h, (labB n g)[hd.toNat]'h = B (g hd) := fun g h => labB_at q0 h
      have cln1 : ∀ g : Int → Bool, tl.toNat < (labB n g).length := fun g => by rw [labB_length]; exact ttn
      have cln2 : ∀ g : Int → Bool, hd.toNat < (labB n g).length := fun g => by rw [labB_length]; exact hhn
      have gat : ∀ (g : Int → Bool) h, (labB arcs.length g)[i]'h = B (g i) := fun g h => by
        have := labB_at (n := arcs.length) (s := g) (x := (i : Int)) (by omega) (by simpa using h)
        simpa using this
      have gln : ∀ g : Int → Bool, i < (labB arcs.length g).length := fun g => by rw [labB_length]; exact hil
      generalize hH' : upd H r (some (.box [I tl, I hd])) = H' at *
      have eR : ∀ {g has out}, gh H' G C O arcs.length n g has out r = some (.box [I tl, I hd]) := by
        intro g has out; rw [← hH']; exact gh_r r1 r2 r3
      have hskip : ∀ e : okG arcs n root others s i = false, ∀ q : Int, 0 ≤ q → q < (i + 1 : Nat) → okG arcs n root others s q = false := fun e q a b => by
        by_cases e' : q = i
        · rw [e']; exact e
        · exact hno q a (by omega)
      cases hg1 : s.gone i with
      | true =>
        have hf : okG arcs n root others s i = false := by simp [okG, hg1]
        repeat' (first
          | (with_reducible refine awp_skip ?_)
          | (with_reducible refine then_any ?_)
          | (with_reducible refine then_ret ?_)
          | (with_reducible refine then_exit ?_)
          | (with_reducible refine inBlock_normal ?_)
          | (with_reducible refine inBlock_ret ?_)
          | (with_reducible refine inBlock_hit ?_)
          | (with_reducible refine inBlock_miss (by decide) ?_)
          | (with_reducible refine awp_ret ?_)
          | (with_reducible refine awp_exit ?_)
          | (with_reducible refine post_ret ?_)
          | (with_reducible refine post_normal ?_)
          | (with_reducible refine awp_block ?_)
          | (with_reducible refine awp_scope_ret ?_)
          | (with_reducible refine awp_label ?_)
          | (with_reducible refine v_reg [] (fun K hK => ?_))
          | (with_reducible refine v_reg1 [] (fun K hK => ?_))
          | (with_reducible refine v_draw mixed [] [] (by kernel_rfl) (fun K hK => ?_))
          | (with_reducible refine v_draw1 mixed [] [] (by kernel_rfl) (fun K hK => ?_))
          | (with_reducible refine ev_nil (hK _ _ ?_); clear hK K)
          | (with_reducible refine ed_nil (hK _ _ ?_); clear hK K)
          | ((first | with_reducible refine ev_cons (fun K' hK' => ?_) | with_reducible refine ed_cons (fun K' hK' => ?_) | (with_reducible refine ev_id ?_; refine ev_guard rfl (fun K' hK' => ?_)) | (with_reducible refine ed_id ?_; refine ed_guard rfl (fun K' hK' => ?_))); simp [h27, h26, h25, h0, h1, h2, h3, h4, h11, h12, hil, eR, gh_G, gh_C d, cat1, cat2, cln1, cln2, gat, gln, labB_length, ttn, hhn, t0, q0, hg1]; repeat' (first | (with_reducible refine hK' _ _ ?_; clear hK' K') | (with_reducible refine And.intro ?_ ?_) | (with_reducible intro hg) | (clear hK' K'; omega)))
          | (with_reducible refine w_cond (fun A B hA hB => ?_); simp [h27, h26, h25, h0, h1, h2, h3, h4, h11, h12, hil, eR, gh_G, gh_C d, cat1, cat2, cln1, cln2, gat, gln, labB_length, ttn, hhn, t0, q0, hg1]; repeat' (first | (with_reducible refine hA ?_; clear hA hB A B) | (with_reducible refine hB ?_; clear hA hB A B) | (with_reducible refine And.intro ?_ ?_) | (with_reducible intro hc)))
          | (with_reducible refine awp_seq ?_))
        exact ⟨⟨i + 1, by omega, hskip hf, by simp, by simp [h26], by simp [h25], by simp [h0], by simp [h1], by simp [h2], by simp [h3], by simp [h4], by simp [h11], by simp [h12], hsub⟩, by simp; omega⟩
      | false =>
      cases hg2 : s.has tl with
      | false =>
        have hf : okG arcs n root others s i = false := by simp [okG, ← htl, hg2]
        repeat' (first
          | (with_reducible refine awp_skip ?_)
          | (with_reducible refine then_any ?_)
          | (with_reducible refine then_ret ?_)
          | (with_reducible refine then_exit ?_)
          | (with_reducible refine inBlock_normal ?_)
          | (with_reducible refine inBlock_ret ?_)
          | (with_reducible refine inBlock_hit ?_)
          | (with_reducible refine inBlock_miss (by decide) ?_)
          | (with_reducible refine awp_ret ?_)
          | (with_reducible refine awp_exit ?_)
          | (with_reducible refine post_ret ?_)
          | (with_reducible refine post_normal ?_)
          | (with_reducible refine awp_block ?_)
          | (with_reducible refine awp_scope_ret ?_)
          | (with_reducible refine awp_label ?_)
          | (with_reducible refine v_reg [] (fun K hK => ?_))
          | (with_reducible refine v_reg1 [] (fun K hK => ?_))
          | (with_reducible refine v_draw mixed [] [] (by kernel_rfl) (fun K hK => ?_))
          | (with_reducible refine v_draw1 mixed [] [] (by kernel_rfl) (fun K hK => ?_))
          | (with_reducible refine ev_nil (hK _ _ ?_); clear hK K)
          | (with_reducible refine ed_nil (hK _ _ ?_); clear hK K)
          | ((first | with_reducible refine ev_cons (fun K' hK' => ?_) | with_reducible refine ed_cons (fun K' hK' => ?_) | (with_reducible refine ev_id ?_; refine ev_guard rfl (fun K' hK' => ?_)) | (with_reducible refine ed_id ?_; refine ed_guard rfl (fun K' hK' => ?_))); simp [h27, h26, h25, h0, h1, h2, h3, h4, h11, h12, hil, eR, gh_G, gh_C d, cat1, cat2, cln1, cln2, gat, gln, labB_length, ttn, hhn, t0, q0, hg1, hg2]; repeat' (first | (with_reducible refine hK' _ _ ?_; clear hK' K') | (with_reducible refine And.intro ?_ ?_) | (with_reducible intro hg) | (clear hK' K'; omega)))
          | (with_reducible refine w_cond (fun A B hA hB => ?_); simp [h27, h26, h25, h0, h1, h2, h3, h4, h11, h12, hil, eR, gh_G, gh_C d, cat1, cat2, cln1, cln2, gat, gln, labB_length, ttn, hhn, t0, q0, hg1, hg2]; repeat' (first | (with_reducible refine hA ?_; clear hA hB A B) | (with_reducible refine hB ?_; clear hA hB A B) | (with_reducible refine And.intro ?_ ?_) | (with_reducible intro hc)))
          | (with_reducible refine awp_seq ?_))
        exact ⟨⟨i + 1, by omega, hskip hf, by simp, by simp [h26], by simp [h25], by simp [h0], by simp [h1], by simp [h2], by simp [h3], by simp [h4], by simp [h11], by simp [h12], hsub⟩, by simp; omega⟩
      | true =>
      cases hg3 : s.has hd with
      | true =>
        have hf : okG arcs n root others s i = false := by simp [okG, ← hhd, hg3]
        repeat' (first
          | (with_reducible refine awp_skip ?_)
          | (with_reducible refine then_any ?_)
          | (with_reducible refine then_ret ?_)
          | (with_reducible refine then_exit ?_)
          | (with_reducible refine inBlock_normal ?_)
          | (with_reducible refine inBlock_ret ?_)
          | (with_reducible refine inBlock_hit ?_)
          | (with_reducible refine inBlock_miss (by decide) ?_)
          | (with_reducible refine awp_ret ?_)
          | (with_reducible refine awp_exit ?_)
          | (with_reducible refine post_ret ?_)
          | (with_reducible refine post_normal ?_)
          | (with_reducible refine awp_block ?_)
          | (with_reducible refine awp_scope_ret ?_)
          | (with_reducible refine awp_label ?_)
          | (with_reducible refine v_reg [] (fun K hK => ?_))
          | (with_reducible refine v_reg1 [] (fun K hK => ?_))
          | (with_reducible refine v_draw mixed [] [] (by kernel_rfl) (fun K hK => ?_))
          | (with_reducible refine v_draw1 mixed [] [] (by kernel_rfl) (fun K hK => ?_))
          | (with_reducible refine ev_nil (hK _ _ ?_); clear hK K)
          | (with_reducible refine ed_nil (hK _ _ ?_); clear hK K)
          | ((first | with_reducible refine ev_cons (fun K' hK' => ?_) | with_reducible refine ed_cons (fun K' hK' => ?_) | (with_reducible refine ev_id ?_; refine ev_guard rfl (fun K' hK' => ?_)) | (with_reducible refine ed_id ?_; refine ed_guard rfl (fun K' hK' => ?_))); simp [h27, h26, h25, h0, h1, h2, h3, h4, h11, h12, hil, eR, gh_G, gh_C d, cat1, cat2, cln1, cln2, gat, gln, labB_length, ttn, hhn, t0, q0, hg1, hg2, hg3]; repeat' (first | (with_reducible refine hK' _ _ ?_; clear hK' K') | (with_reducible refine And.intro ?_ ?_) | (with_reducible intro hg) | (clear hK' K'; omega)))
          | (with_reducible refine w_cond (fun A B hA hB => ?_); simp [h27, h26, h25, h0, h1, h2, h3, h4, h11, h12, hil, eR, gh_G, gh_C d, cat1, cat2, cln1, cln2, gat, gln, labB_length, ttn, hhn, t0, q0, hg1, hg2, hg3]; repeat' (first | (with_reducible refine hA ?_; clear hA hB A B) | (with_reducible refine hB ?_; clear hA hB A B) | (with_reducible refine And.intro ?_ ?_) | (with_reducible intro hc)))
          | (with_reducible refine awp_seq ?_))
        exact ⟨⟨i + 1, by omega, hskip hf, by simp, by simp [h26], by simp [h25], by simp [h0], by simp [h1], by simp [h2], by simp [h3], by simp [h4], by simp [h11], by simp [h12], hsub⟩, by simp; omega⟩
      | false =>
      have hsetG : ∀ g y, upd (gh H' G C O arcs.length n g s.has s.out) G (some (.arr 1 4 ((labB arcs.length g).set i (B y)) arcs.length)) = gh H' G C O arcs.length n (setF g i y) s.has s.out := fun g y => by
        have := gh_setG (H := H') (G := G) (C := C) (O := O) (m := arcs.length) (n := n) (gone := g) (has := s.has) (out := s.out) (w := (i : Int)) (y := y) (by omega)
        rwa [show ((i : Int)).toNat = i by omega] at this
      have hen := enough_at (w0 := w0) (H := gh H' G C O arcs.length n (setF s.gone i true) s.has s.out) (G := G) (k := others) N gh_G ho
      cases he : enoughB arcs n (setF s.gone i true) root others with
      | false =>
        have hf : okG arcs n root others s i = false := by simp [okG, he]
        rw [he] at hen
        have hback : setF (setF s.gone i true) i false = s.gone := by
          funext x
          by_cases e : x = i
          · rw [e, setF_same, hg1]
          · rw [setF_ne _ _ e, setF_ne _ _ e]
        repeat' (first
          | (with_reducible refine awp_skip ?_)
          | (with_reducible refine then_any ?_)
          | (with_reducible refine then_ret ?_)
          | (with_reducible refine then_exit ?_)
          | (with_reducible refine inBlock_normal ?_)
          | (with_reducible refine inBlock_ret ?_)
          | (with_reducible refine inBlock_hit ?_)
          | (with_reducible refine inBlock_miss (by decide) ?_)
          | (with_reducible refine awp_ret ?_)
          | (with_reducible refine awp_exit ?_)
          | (with_reducible refine post_ret ?_)
          | (with_reducible refine post_normal ?_)
          | (with_reducible refine awp_block ?_)
          | (with_reducible refine awp_scope_ret ?_)
          | (with_reducible refine awp_label ?_)
          | (with_reducible refine v_reg [] (fun K hK => ?_))
          | (with_reducible refine v_reg1 [] (fun K hK => ?_))
          | (with_reducible refine v_draw mixed [] [] (by kernel_rfl) (fun K hK => ?_))
          | (with_reducible refine v_draw1 mixed [] [] (by kernel_rfl) (fun K hK => ?_))
          | (with_reducible refine ev_nil (hK _ _ ?_); clear hK K)
          | (with_reducible refine ed_nil (hK _ _ ?_); clear hK K)
          | ((first | with_reducible refine ev_cons (fun K' hK' => ?_) | with_reducible refine ed_cons (fun K' hK' => ?_) | (with_reducible refine ev_id ?_; refine ev_guard rfl (fun K' hK' => ?_)) | (with_reducible refine ed_id ?_; refine ed_guard rfl (fun K' hK' => ?_))); simp [h27, h26, h25, h0, h1, h2, h3, h4, h11, h12, hil, eR, gh_G, gh_C d, cat1, cat2, cln1, cln2, gat, gln, labB_length, ttn, hhn, t0, q0, hg1, hg2, hg3, hsetG, hback]; repeat' (first | (with_reducible refine hK' _ _ ?_; clear hK' K') | ((with_reducible refine hen.use ?_); try simp [h27, h26, h25, h0, h1, h2, h3, h4, h11, h12, hil, eR, gh_G, gh_C d, cat1, cat2, cln1, cln2, gat, gln, labB_length, ttn, hhn, t0, q0, hg1, hg2, hg3, hsetG, hback]) | (with_reducible refine And.intro ?_ ?_) | (with_reducible intro hg) | (clear hK' K'; omega)))
          | (with_reducible refine w_cond (fun A B hA hB => ?_); simp [h27, h26, h25, h0, h1, h2, h3, h4, h11, h12, hil, eR, gh_G, gh_C d, cat1, cat2, cln1, cln2, gat, gln, labB_length, ttn, hhn, t0, q0, hg1, hg2, hg3, hsetG, hback]; repeat' (first | (with_reducible refine hA ?_; clear hA hB A B) | (with_reducible refine hB ?_; clear hA hB A B) | (with_reducible refine And.intro ?_ ?_) | (with_reducible intro hc)))
          | (with_reducible refine awp_seq ?_))
        exact ⟨⟨i + 1, by omega, hskip hf, by simp, by simp [h26], by simp [h25], by simp [h0], by simp [h1], by simp [h2], by simp [h3], by simp [h4], by simp [h11], by simp [h12], hsub⟩, by simp; omega⟩
      | true =>
        have hf : okG arcs n root others s i = true := by simp [okG, ← htl, ← hhd, hg1, hg2, hg3, he]
        rw [he] at hen
        have hst2 := stepG_some hil hno hf
        rw [hst2] at hsI
        have hsetC := gh_setC (H := H') (m := arcs.length) (n := n) (gone := setF s.gone i true) (has := s.has) (out := s.out) d (w := hd) (y := true) q0
        have happ := gh_app (H := H') (m := arcs.length) (n := n) (gone := setF s.gone i true) (has := setF s.has hd true) (out := s.out) d (i := (i : Int))
        have hout : s.out.length ≤ 64 := by omega
        repeat' (first
          | (with_reducible refine awp_skip ?_)
          | (with_reducible refine then_any ?_)
          | (with_reducible refine then_ret ?_)
          | (with_reducible refine then_exit ?_)
          | (with_reducible refine inBlock_normal ?_)
          | (with_reducible refine inBlock_ret ?_)
          | (with_reducible refine inBlock_hit ?_)
          | (with_reducible refine inBlock_miss (by decide) ?_)
          | (with_reducible refine awp_ret ?_)
          | (with_reducible refine awp_exit ?_)
          | (with_reducible refine post_ret ?_)
          | (with_reducible refine post_normal ?_)
          | (with_reducible refine awp_block ?_)
          | (with_reducible refine awp_scope_ret ?_)
          | (with_reducible refine awp_label ?_)
          | (with_reducible refine v_reg [] (fun K hK => ?_))
          | (with_reducible refine v_reg1 [] (fun K hK => ?_))
          | (with_reducible refine v_draw mixed [] [] (by kernel_rfl) (fun K hK => ?_))
          | (with_reducible refine v_draw1 mixed [] [] (by kernel_rfl) (fun K hK => ?_))
          | (with_reducible refine ev_nil (hK _ _ ?_); clear hK K)
          | (with_reducible refine ed_nil (hK _ _ ?_); clear hK K)
          | ((first | with_reducible refine ev_cons (fun K' hK' => ?_) | with_reducible refine ed_cons (fun K' hK' => ?_) | (with_reducible refine ev_id ?_; refine ev_guard rfl (fun K' hK' => ?_)) | (with_reducible refine ed_id ?_; refine ed_guard rfl (fun K' hK' => ?_))); simp [h27, h26, h25, h0, h1, h2, h3, h4, h11, h12, hil, eR, gh_G, gh_C d, gh_O d, cat1, cat2, cln1, cln2, gat, gln, labB_length, ttn, hhn, t0, q0, hg1, hg2, hg3, hsetG, hsetC, happ]; repeat' (first | (with_reducible refine hK' _ _ ?_; clear hK' K') | ((with_reducible refine hen.use ?_); try simp [h27, h26, h25, h0, h1, h2, h3, h4, h11, h12, hil, eR, gh_G, gh_C d, gh_O d, cat1, cat2, cln1, cln2, gat, gln, labB_length, ttn, hhn, t0, q0, hg1, hg2, hg3, hsetG, hsetC, happ]) | (with_reducible refine And.intro ?_ ?_) | (with_reducible intro hg) | (clear hK' K'; omega)))
          | (with_reducible refine w_cond (fun A B hA hB => ?_); simp [h27, h26, h25, h0, h1, h2, h3, h4, h11, h12, hil, eR, gh_G, gh_C d, gh_O d, cat1, cat2, cln1, cln2, gat, gln, labB_length, ttn, hhn, t0, q0, hg1, hg2, hg3, hsetG, hsetC, happ]; repeat' (first | (with_reducible refine hA ?_; clear hA hB A B) | (with_reducible refine hB ?_; clear hA hB A B) | (with_reducible refine And.intro ?_ ?_) | (with_reducible intro hc)))
          | (with_reducible refine awp_seq ?_))
        have hij : it (j + 1) = takeG arcs s i := hsI
        have hsub2 := gh_sub (m := arcs.length) (n := n) (gone := setF s.gone i true) (has := setF s.has hd true) (out := s.out ++ [(i : Int)]) (x := some (.box [I tl, I hd])) r0 r1 r2 r3
        rw [hH'] at hsub2
        refine ⟨⟨j + 1, by rw [hij]; simp [takeG, hj], by simp [h0], by simp [h1], by simp [h2], by simp [h3], by simp [h4], by simp [h11], by rw [hij]; simp [takeG], by rw [hij]; simp only [takeG]; rw [← hhd]; exact hsub2⟩, by simp [lenA]; omega⟩
    · have : i = arcs.length := by omega
      subst this
      have hst2 := stepG_none hno
      have hfin : finG arcs n root others gone = s := by rw [hfinG, ← hs]; exact hstop j (n - 1) (by rw [hs]; exact hst2) (by omega)
      repeat' (first
        | (with_reducible refine awp_skip ?_)
        | (with_reducible refine then_any ?_)
        | (with_reducible refine then_ret ?_)
        | (with_reducible refine then_exit ?_)
        | (with_reducible refine inBlock_normal ?_)
        | (with_reducible refine inBlock_ret ?_)
        | (with_reducible refine inBlock_hit ?_)
        | (with_reducible refine inBlock_miss (by decide) ?_)
        | (with_reducible refine awp_ret ?_)
        | (with_reducible refine awp_exit ?_)
        | (with_reducible refine post_ret ?_)
        | (with_reducible refine post_normal ?_)
        | (with_reducible refine awp_block ?_)
        | (with_reducible refine awp_scope_ret ?_)
        | (with_reducible refine awp_label ?_)
        | ((fail_if_success (with_reducible refine at_reg 15 ?_)); with_reducible refine v_reg [] (fun K hK => ?_))
        | (with_reducible refine v_reg1 [] (fun K hK => ?_))
        | ((fail_if_success (with_reducible refine at_reg 15 ?_)); with_reducible refine v_draw mixed [] [] (by kernel_rfl) (fun K hK => ?_))
        | (with_reducible refine v_draw1 mixed [] [] (by kernel_rfl) (fun K hK => ?_))
        | (with_reducible refine ev_nil (hK _ _ ?_); clear hK K)
        | (with_reducible refine ed_nil (hK _ _ ?_); clear hK K)
        | ((first | with_reducible refine ev_cons (fun K' hK' => ?_) | with_reducible refine ed_cons (fun K' hK' => ?_) | (with_reducible refine ev_id ?_; refine ev_guard rfl (fun K' hK' => ?_)) | (with_reducible refine ed_id ?_; refine ed_guard rfl (fun K' hK' => ?_))); simp [h27, h26, h25]; repeat' (first | (with_reducible refine hK' _ _ ?_; clear hK' K') | (with_reducible refine And.intro ?_ ?_) | (with_reducible intro hg) | (clear hK' K'; omega)))
        | (with_reducible refine w_cond (fun A B hA hB => ?_); simp [h27, h26, h25]; repeat' (first | (with_reducible refine hA ?_; clear hA hB A B) | (with_reducible refine hB ?_; clear hA hB A B) | (with_reducible refine And.intro ?_ ?_) | (with_reducible intro hc)))
        | ((fail_if_success (with_reducible refine at_reg 15 ?_)); with_reducible refine awp_seq ?_))
      rw [gh_asO d]
      have hsrt := sortI_set hI.nodup hI.rng
      have hgl : growL arcs n root others gone = sortI s.out := by rw [hsrt, growL, hfin]
      have hsb : Sub (upd H G (some (.arr 1 4 (labB arcs.length (finG arcs n root others gone).gone) arcs.length))) (upd (upd (upd H C (some (.arr 1 4 (labB n s.has) n))) G (some (.arr 1 4 (labB arcs.length s.gone) arcs.length))) O none) := by
        rw [hfin, upd_comm H _ _ hCG]
        refine ((Sub.refl _).upd ?_ _).upd ?_ _
        · rw [upd_ne _ _ _ hCG]; exact hC
        · rw [upd_ne _ _ _ hOG]; exact hO
      by_cases hpos : 0 < s.out.length
      · repeat' (first
          | (with_reducible refine awp_skip ?_)
          | (with_reducible refine then_any ?_)
          | (with_reducible refine then_ret ?_)
          | (with_reducible refine then_exit ?_)
          | (with_reducible refine inBlock_normal ?_)
          | (with_reducible refine inBlock_ret ?_)
          | (with_reducible refine inBlock_hit ?_)
          | (with_reducible refine inBlock_miss (by decide) ?_)
          | (with_reducible refine awp_ret ?_)
          | (with_reducible refine awp_exit ?_)
          | (with_reducible refine post_ret ?_)
          | (with_reducible refine post_normal ?_)
          | (with_reducible refine awp_block ?_)
          | (with_reducible refine awp_scope_ret ?_)
          | (with_reducible refine awp_label ?_)
          | ((fail_if_success (with_reducible refine at_reg 16 ?_)); with_reducible refine v_reg [] (fun K hK => ?_))
          | (with_reducible refine v_reg1 [] (fun K hK => ?_))
          | ((fail_if_success (with_reducible refine at_reg 16 ?_)); with_reducible refine v_draw mixed [] [] (by kernel_rfl) (fun K hK => ?_))
          | (with_reducible refine v_draw1 mixed [] [] (by kernel_rfl) (fun K hK => ?_))
          | (with_reducible refine ev_nil (hK _ _ ?_); clear hK K)
          | (with_reducible refine ed_nil (hK _ _ ?_); clear hK K)
          | ((first | with_reducible refine ev_cons (fun K' hK' => ?_) | with_reducible refine ed_cons (fun K' hK' => ?_) | (with_reducible refine ev_id ?_; refine ev_guard rfl (fun K' hK' => ?_)) | (with_reducible refine ed_id ?_; refine ed_guard rfl (fun K' hK' => ?_))); simp [h12]; repeat' (first | (with_reducible refine hK' _ _ ?_; clear hK' K') | ((with_reducible refine sort_use (c := s.out) rfl (Nat.le_refl _) hpos (by omega) (fun c hc1 hc2 => ?_)); try simp [h12]) | (with_reducible refine And.intro ?_ ?_) | (with_reducible intro hg) | (clear hK' K'; omega)))
          | (with_reducible refine w_cond (fun A B hA hB => ?_); simp [h12]; repeat' (first | (with_reducible refine hA ?_; clear hA hB A B) | (with_reducible refine hB ?_; clear hA hB A B) | (with_reducible refine And.intro ?_ ?_) | (with_reducible intro hc)))
          | ((fail_if_success (with_reducible refine at_reg 16 ?_)); with_reducible refine awp_seq ?_))
        have hcs : c = sortI s.out := by rwa [List.take_of_length_le (by omega), List.take_length] at hc2
        refine awp_freeze 12 (r := O) (off := 0) (len := s.out.length) (top := s.out.length) (by simp [h12]) (upd_same _ _ _) ?_
        rw [← hc1, cut_map]
        repeat' (first
          | (with_reducible refine awp_skip ?_)
          | (with_reducible refine then_any ?_)
          | (with_reducible refine then_ret ?_)
          | (with_reducible refine then_exit ?_)
          | (with_reducible refine inBlock_normal ?_)
          | (with_reducible refine inBlock_ret ?_)
          | (with_reducible refine inBlock_hit ?_)
          | (with_reducible refine inBlock_miss (by decide) ?_)
          | (with_reducible refine awp_ret ?_)
          | (with_reducible refine awp_exit ?_)
          | (with_reducible refine post_ret ?_)
          | (with_reducible refine post_normal ?_)
          | (with_reducible refine awp_block ?_)
          | (with_reducible refine awp_scope_ret ?_)
          | (with_reducible refine awp_label ?_)
          | (with_reducible refine v_reg [] (fun K hK => ?_))
          | (with_reducible refine v_reg1 [] (fun K hK => ?_))
          | (with_reducible refine v_draw mixed [] [] (by kernel_rfl) (fun K hK => ?_))
          | (with_reducible refine v_draw1 mixed [] [] (by kernel_rfl) (fun K hK => ?_))
          | (with_reducible refine ev_nil (hK _ _ ?_); clear hK K)
          | (with_reducible refine ed_nil (hK _ _ ?_); clear hK K)
          | ((first | with_reducible refine ev_cons (fun K' hK' => ?_) | with_reducible refine ed_cons (fun K' hK' => ?_) | (with_reducible refine ev_id ?_; refine ev_guard rfl (fun K' hK' => ?_)) | (with_reducible refine ed_id ?_; refine ed_guard rfl (fun K' hK' => ?_))); simp; repeat' (first | (with_reducible refine hK' _ _ ?_; clear hK' K') | (with_reducible refine And.intro ?_ ?_) | (with_reducible intro hg) | (clear hK' K'; omega)))
          | (with_reducible refine w_cond (fun A B hA hB => ?_); simp; repeat' (first | (with_reducible refine hA ?_; clear hA hB A B) | (with_reducible refine hB ?_; clear hA hB A B) | (with_reducible refine And.intro ?_ ?_) | (with_reducible intro hc)))
          | (with_reducible refine awp_seq ?_))
        refine ⟨?_, hsb⟩
        rw [hgl, ← hcs]; simp [ints]
      · have hz0 : s.out.length = 0 := by omega
        have hnil : s.out = [] := List.length_eq_zero_iff.1 hz0
        rw [hz0] at h12
        repeat' (first
          | (with_reducible refine awp_skip ?_)
          | (with_reducible refine then_any ?_)
          | (with_reducible refine then_ret ?_)
          | (with_reducible refine then_exit ?_)
          | (with_reducible refine inBlock_normal ?_)
          | (with_reducible refine inBlock_ret ?_)
          | (with_reducible refine inBlock_hit ?_)
          | (with_reducible refine inBlock_miss (by decide) ?_)
          | (with_reducible refine awp_ret ?_)
          | (with_reducible refine awp_exit ?_)
          | (with_reducible refine post_ret ?_)
          | (with_reducible refine post_normal ?_)
          | (with_reducible refine awp_block ?_)
          | (with_reducible refine awp_scope_ret ?_)
          | (with_reducible refine awp_label ?_)
          | ((fail_if_success (with_reducible refine at_reg 16 ?_)); with_reducible refine v_reg [] (fun K hK => ?_))
          | (with_reducible refine v_reg1 [] (fun K hK => ?_))
          | ((fail_if_success (with_reducible refine at_reg 16 ?_)); with_reducible refine v_draw mixed [] [] (by kernel_rfl) (fun K hK => ?_))
          | (with_reducible refine v_draw1 mixed [] [] (by kernel_rfl) (fun K hK => ?_))
          | (with_reducible refine ev_nil (hK _ _ ?_); clear hK K)
          | (with_reducible refine ed_nil (hK _ _ ?_); clear hK K)
          | ((first | with_reducible refine ev_cons (fun K' hK' => ?_) | with_reducible refine ed_cons (fun K' hK' => ?_) | (with_reducible refine ev_id ?_; refine ev_guard rfl (fun K' hK' => ?_)) | (with_reducible refine ed_id ?_; refine ed_guard rfl (fun K' hK' => ?_))); simp [h12]; repeat' (first | (with_reducible refine hK' _ _ ?_; clear hK' K') | (with_reducible refine Ret.use sort_none ?_; try simp [h12]) | (with_reducible refine And.intro ?_ ?_) | (with_reducible intro hg) | (clear hK' K'; omega)))
          | (with_reducible refine w_cond (fun A B hA hB => ?_); simp [h12]; repeat' (first | (with_reducible refine hA ?_; clear hA hB A B) | (with_reducible refine hB ?_; clear hA hB A B) | (with_reducible refine And.intro ?_ ?_) | (with_reducible intro hc)))
          | ((fail_if_success (with_reducible refine at_reg 16 ?_)); with_reducible refine awp_seq ?_))
        refine awp_freeze 12 (r := O) (off := 0) (len := 0) (top := 0) (by simp [h12]) (by rw [upd_same, hz0]) ?_
        repeat' (first
          | (with_reducible refine awp_skip ?_)
          | (with_reducible refine then_any ?_)
          | (with_reducible refine then_ret ?_)
          | (with_reducible refine then_exit ?_)
          | (with_reducible refine inBlock_normal ?_)
          | (with_reducible refine inBlock_ret ?_)
          | (with_reducible refine inBlock_hit ?_)
          | (with_reducible refine inBlock_miss (by decide) ?_)
          | (with_reducible refine awp_ret ?_)
          | (with_reducible refine awp_exit ?_)
          | (with_reducible refine post_ret ?_)
          | (with_reducible refine post_normal ?_)
          | (with_reducible refine awp_block ?_)
          | (with_reducible refine awp_scope_ret ?_)
          | (with_reducible refine awp_label ?_)
          | (with_reducible refine v_reg [] (fun K hK => ?_))
          | (with_reducible refine v_reg1 [] (fun K hK => ?_))
          | (with_reducible refine v_draw mixed [] [] (by kernel_rfl) (fun K hK => ?_))
          | (with_reducible refine v_draw1 mixed [] [] (by kernel_rfl) (fun K hK => ?_))
          | (with_reducible refine ev_nil (hK _ _ ?_); clear hK K)
          | (with_reducible refine ed_nil (hK _ _ ?_); clear hK K)
          | ((first | with_reducible refine ev_cons (fun K' hK' => ?_) | with_reducible refine ed_cons (fun K' hK' => ?_) | (with_reducible refine ev_id ?_; refine ev_guard rfl (fun K' hK' => ?_)) | (with_reducible refine ed_id ?_; refine ed_guard rfl (fun K' hK' => ?_))); simp; repeat' (first | (with_reducible refine hK' _ _ ?_; clear hK' K') | (with_reducible refine And.intro ?_ ?_) | (with_reducible intro hg) | (clear hK' K'; omega)))
          | (with_reducible refine w_cond (fun A B hA hB => ?_); simp; repeat' (first | (with_reducible refine hA ?_; clear hA hB A B) | (with_reducible refine hB ?_; clear hA hB A B) | (with_reducible refine And.intro ?_ ?_) | (with_reducible intro hc)))
          | (with_reducible refine awp_seq ?_))
        refine ⟨?_, hsb⟩
        rw [hgl, hnil]
        simp [cut, sortI]
  · have hjl : j = n - 1 := by omega
    have hlt' : ¬ (j : Int) < (n : Int) - 1 := by omega
    have hfin : finG arcs n root others gone = it j := by rw [hfinG, ← hjl]
    generalize hs : it j = s at *
    repeat' (first
      | (with_reducible refine awp_skip ?_)
      | (with_reducible refine then_any ?_)
      | (with_reducible refine then_ret ?_)
      | (with_reducible refine then_exit ?_)
      | (with_reducible refine inBlock_normal ?_)
      | (with_reducible refine inBlock_ret ?_)
      | (with_reducible refine inBlock_hit ?_)
      | (with_reducible refine inBlock_miss (by decide) ?_)
      | (with_reducible refine awp_ret ?_)
      | (with_reducible refine awp_exit ?_)
      | (with_reducible refine post_ret ?_)
      | (with_reducible refine post_normal ?_)
      | (with_reducible refine awp_block ?_)
      | (with_reducible refine awp_scope_ret ?_)
      | (with_reducible refine awp_label ?_)
      | ((fail_if_success (with_reducible refine at_reg 15 ?_)); with_reducible refine v_reg [] (fun K hK => ?_))
      | (with_reducible refine v_reg1 [] (fun K hK => ?_))
      | ((fail_if_success (with_reducible refine at_reg 15 ?_)); with_reducible refine v_draw mixed [] [] (by kernel_rfl) (fun K hK => ?_))
      | (with_reducible refine v_draw1 mixed [] [] (by kernel_rfl) (fun K hK => ?_))
      | (with_reducible refine ev_nil (hK _ _ ?_); clear hK K)
      | (with_reducible refine ed_nil (hK _ _ ?_); clear hK K)
      | ((first | with_reducible refine ev_cons (fun K' hK' => ?_) | with_reducible refine ed_cons (fun K' hK' => ?_) | (with_reducible refine ev_id ?_; refine ev_guard rfl (fun K' hK' => ?_)) | (with_reducible refine ed_id ?_; refine ed_guard rfl (fun K' hK' => ?_))); simp [h0, h12, hj, hlt']; repeat' (first | (with_reducible refine hK' _ _ ?_; clear hK' K') | (with_reducible refine And.intro ?_ ?_) | (with_reducible intro hg) | (clear hK' K'; omega)))
      | (with_reducible refine w_cond (fun A B hA hB => ?_); simp [h0, h12, hj, hlt']; repeat' (first | (with_reducible refine hA ?_; clear hA hB A B) | (with_reducible refine hB ?_; clear hA hB A B) | (with_reducible refine And.intro ?_ ?_) | (with_reducible intro hc)))
      | ((fail_if_success (with_reducible refine at_reg 15 ?_)); with_reducible refine awp_seq ?_))
    rw [gh_asO d]
    have hsrt := sortI_set hI.nodup hI.rng
    have hgl : growL arcs n root others gone = sortI s.out := by rw [hsrt, growL, hfin]
    have hsb : Sub (upd H G (some (.arr 1 4 (labB arcs.length (finG arcs n root others gone).gone) arcs.length))) (upd (upd (upd H C (some (.arr 1 4 (labB n s.has) n))) G (some (.arr 1 4 (labB arcs.length s.gone) arcs.length))) O none) := by
      rw [hfin, upd_comm H _ _ hCG]
      refine ((Sub.refl _).upd ?_ _).upd ?_ _
      · rw [upd_ne _ _ _ hCG]; exact hC
      · rw [upd_ne _ _ _ hOG]; exact hO
    by_cases hpos : 0 < s.out.length
    · repeat' (first
        | (with_reducible refine awp_skip ?_)
        | (with_reducible refine then_any ?_)
        | (with_reducible refine then_ret ?_)
        | (with_reducible refine then_exit ?_)
        | (with_reducible refine inBlock_normal ?_)
        | (with_reducible refine inBlock_ret ?_)
        | (with_reducible refine inBlock_hit ?_)
        | (with_reducible refine inBlock_miss (by decide) ?_)
        | (with_reducible refine awp_ret ?_)
        | (with_reducible refine awp_exit ?_)
        | (with_reducible refine post_ret ?_)
        | (with_reducible refine post_normal ?_)
        | (with_reducible refine awp_block ?_)
        | (with_reducible refine awp_scope_ret ?_)
        | (with_reducible refine awp_label ?_)
        | ((fail_if_success (with_reducible refine at_reg 16 ?_)); with_reducible refine v_reg [] (fun K hK => ?_))
        | (with_reducible refine v_reg1 [] (fun K hK => ?_))
        | ((fail_if_success (with_reducible refine at_reg 16 ?_)); with_reducible refine v_draw mixed [] [] (by kernel_rfl) (fun K hK => ?_))
        | (with_reducible refine v_draw1 mixed [] [] (by kernel_rfl) (fun K hK => ?_))
        | (with_reducible refine ev_nil (hK _ _ ?_); clear hK K)
        | (with_reducible refine ed_nil (hK _ _ ?_); clear hK K)
        | ((first | with_reducible refine ev_cons (fun K' hK' => ?_) | with_reducible refine ed_cons (fun K' hK' => ?_) | (with_reducible refine ev_id ?_; refine ev_guard rfl (fun K' hK' => ?_)) | (with_reducible refine ed_id ?_; refine ed_guard rfl (fun K' hK' => ?_))); simp [h12]; repeat' (first | (with_reducible refine hK' _ _ ?_; clear hK' K') | ((with_reducible refine sort_use (c := s.out) rfl (Nat.le_refl _) hpos (by omega) (fun c hc1 hc2 => ?_)); try simp [h12]) | (with_reducible refine And.intro ?_ ?_) | (with_reducible intro hg) | (clear hK' K'; omega)))
        | (with_reducible refine w_cond (fun A B hA hB => ?_); simp [h12]; repeat' (first | (with_reducible refine hA ?_; clear hA hB A B) | (with_reducible refine hB ?_; clear hA hB A B) | (with_reducible refine And.intro ?_ ?_) | (with_reducible intro hc)))
        | ((fail_if_success (with_reducible refine at_reg 16 ?_)); with_reducible refine awp_seq ?_))
      have hcs : c = sortI s.out := by rwa [List.take_of_length_le (by omega), List.take_length] at hc2
      refine awp_freeze 12 (r := O) (off := 0) (len := s.out.length) (top := s.out.length) (by simp [h12]) (upd_same _ _ _) ?_
      rw [← hc1, cut_map]
      repeat' (first
        | (with_reducible refine awp_skip ?_)
        | (with_reducible refine then_any ?_)
        | (with_reducible refine then_ret ?_)
        | (with_reducible refine then_exit ?_)
        | (with_reducible refine inBlock_normal ?_)
        | (with_reducible refine inBlock_ret ?_)
        | (with_reducible refine inBlock_hit ?_)
        | (with_reducible refine inBlock_miss (by decide) ?_)
        | (with_reducible refine awp_ret ?_)
        | (with_reducible refine awp_exit ?_)
        | (with_reducible refine post_ret ?_)
        | (with_reducible refine post_normal ?_)
        | (with_reducible refine awp_block ?_)
        | (with_reducible refine awp_scope_ret ?_)
        | (with_reducible refine awp_label ?_)
        | (with_reducible refine v_reg [] (fun K hK => ?_))
        | (with_reducible refine v_reg1 [] (fun K hK => ?_))
        | (with_reducible refine v_draw mixed [] [] (by kernel_rfl) (fun K hK => ?_))
        | (with_reducible refine v_draw1 mixed [] [] (by kernel_rfl) (fun K hK => ?_))
        | (with_reducible refine ev_nil (hK _ _ ?_); clear hK K)
        | (with_reducible refine ed_nil (hK _ _ ?_); clear hK K)
        | ((first | with_reducible refine ev_cons (fun K' hK' => ?_) | with_reducible refine ed_cons (fun K' hK' => ?_) | (with_reducible refine ev_id ?_; refine ev_guard rfl (fun K' hK' => ?_)) | (with_reducible refine ed_id ?_; refine ed_guard rfl (fun K' hK' => ?_))); simp; repeat' (first | (with_reducible refine hK' _ _ ?_; clear hK' K') | (with_reducible refine And.intro ?_ ?_) | (with_reducible intro hg) | (clear hK' K'; omega)))
        | (with_reducible refine w_cond (fun A B hA hB => ?_); simp; repeat' (first | (with_reducible refine hA ?_; clear hA hB A B) | (with_reducible refine hB ?_; clear hA hB A B) | (with_reducible refine And.intro ?_ ?_) | (with_reducible intro hc)))
        | (with_reducible refine awp_seq ?_))
      refine ⟨?_, hsb⟩
      rw [hgl, ← hcs]; simp [ints]
    · have hz0 : s.out.length = 0 := by omega
      have hnil : s.out = [] := List.length_eq_zero_iff.1 hz0
      rw [hz0] at h12
      repeat' (first
        | (with_reducible refine awp_skip ?_)
        | (with_reducible refine then_any ?_)
        | (with_reducible refine then_ret ?_)
        | (with_reducible refine then_exit ?_)
        | (with_reducible refine inBlock_normal ?_)
        | (with_reducible refine inBlock_ret ?_)
        | (with_reducible refine inBlock_hit ?_)
        | (with_reducible refine inBlock_miss (by decide) ?_)
        | (with_reducible refine awp_ret ?_)
        | (with_reducible refine awp_exit ?_)
        | (with_reducible refine post_ret ?_)
        | (with_reducible refine post_normal ?_)
        | (with_reducible refine awp_block ?_)
        | (with_reducible refine awp_scope_ret ?_)
        | (with_reducible refine awp_label ?_)
        | ((fail_if_success (with_reducible refine at_reg 16 ?_)); with_reducible refine v_reg [] (fun K hK => ?_))
        | (with_reducible refine v_reg1 [] (fun K hK => ?_))
        | ((fail_if_success (with_reducible refine at_reg 16 ?_)); with_reducible refine v_draw mixed [] [] (by kernel_rfl) (fun K hK => ?_))
        | (with_reducible refine v_draw1 mixed [] [] (by kernel_rfl) (fun K hK => ?_))
        | (with_reducible refine ev_nil (hK _ _ ?_); clear hK K)
        | (with_reducible refine ed_nil (hK _ _ ?_); clear hK K)
        | ((first | with_reducible refine ev_cons (fun K' hK' => ?_) | with_reducible refine ed_cons (fun K' hK' => ?_) | (with_reducible refine ev_id ?_; refine ev_guard rfl (fun K' hK' => ?_)) | (with_reducible refine ed_id ?_; refine ed_guard rfl (fun K' hK' => ?_))); simp [h12]; repeat' (first | (with_reducible refine hK' _ _ ?_; clear hK' K') | (with_reducible refine Ret.use sort_none ?_; try simp [h12]) | (with_reducible refine And.intro ?_ ?_) | (with_reducible intro hg) | (clear hK' K'; omega)))
        | (with_reducible refine w_cond (fun A B hA hB => ?_); simp [h12]; repeat' (first | (with_reducible refine hA ?_; clear hA hB A B) | (with_reducible refine hB ?_; clear hA hB A B) | (with_reducible refine And.intro ?_ ?_) | (with_reducible intro hc)))
        | ((fail_if_success (with_reducible refine at_reg 16 ?_)); with_reducible refine awp_seq ?_))
      refine awp_freeze 12 (r := O) (off := 0) (len := 0) (top := 0) (by simp [h12]) (by rw [upd_same, hz0]) ?_
      repeat' (first
        | (with_reducible refine awp_skip ?_)
        | (with_reducible refine then_any ?_)
        | (with_reducible refine then_ret ?_)
        | (with_reducible refine then_exit ?_)
        | (with_reducible refine inBlock_normal ?_)
        | (with_reducible refine inBlock_ret ?_)
        | (with_reducible refine inBlock_hit ?_)
        | (with_reducible refine inBlock_miss (by decide) ?_)
        | (with_reducible refine awp_ret ?_)
        | (with_reducible refine awp_exit ?_)
        | (with_reducible refine post_ret ?_)
        | (with_reducible refine post_normal ?_)
        | (with_reducible refine awp_block ?_)
        | (with_reducible refine awp_scope_ret ?_)
        | (with_reducible refine awp_label ?_)
        | (with_reducible refine v_reg [] (fun K hK => ?_))
        | (with_reducible refine v_reg1 [] (fun K hK => ?_))
        | (with_reducible refine v_draw mixed [] [] (by kernel_rfl) (fun K hK => ?_))
        | (with_reducible refine v_draw1 mixed [] [] (by kernel_rfl) (fun K hK => ?_))
        | (with_reducible refine ev_nil (hK _ _ ?_); clear hK K)
        | (with_reducible refine ed_nil (hK _ _ ?_); clear hK K)
        | ((first | with_reducible refine ev_cons (fun K' hK' => ?_) | with_reducible refine ed_cons (fun K' hK' => ?_) | (with_reducible refine ev_id ?_; refine ev_guard rfl (fun K' hK' => ?_)) | (with_reducible refine ed_id ?_; refine ed_guard rfl (fun K' hK' => ?_))); simp; repeat' (first | (with_reducible refine hK' _ _ ?_; clear hK' K') | (with_reducible refine And.intro ?_ ?_) | (with_reducible intro hg) | (clear hK' K'; omega)))
        | (with_reducible refine w_cond (fun A B hA hB => ?_); simp; repeat' (first | (with_reducible refine hA ?_; clear hA hB A B) | (with_reducible refine hB ?_; clear hA hB A B) | (with_reducible refine And.intro ?_ ?_) | (with_reducible intro hc)))
        | (with_reducible refine awp_seq ?_))
      refine ⟨?_, hsb⟩
      rw [hgl, hnil]
      simp [cut, sortI]
end Go.Am
