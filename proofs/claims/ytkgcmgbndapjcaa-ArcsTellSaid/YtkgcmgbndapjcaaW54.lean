/- Contracts: whether enough units come to all vertices (arcs). -/
import Derived.Test.YtkgcmgbndapjcaaW53
import Derived.Test.YtkgcmgbndapjcaaM16
namespace Go.Am
open Go Go.Proofs
set_option linter.unusedVariables false
set_option linter.unusedSimpArgs false
variable {w0 : World}
attribute [local irreducible] AWP ACalls
attribute [local congr] acalls_congr

section
variable {arcs : List (Int × Int)} {n : Nat} {gone full : Int → Bool} {root v : Int} {units : Nat} {by' : Int → Int} {come : Int → Bool}
theorem entA_len (T : List Int) : (entA arcs gone T).length = entP arcs gone (fun u => decide (u ∈ T)) := by
  rw [entA, entP, List.countP_eq_length_filter]
theorem NetA.ent_range (N : NetA n arcs root) (T : Int → Bool) : entP arcs gone T = (entA arcs gone ((upto n).filter T)).length := by
  rw [entA_len, entP, entP]
  refine List.countP_congr fun i hi => ?_
  obtain ⟨h0, h1⟩ := mem_upto.1 hi
  obtain ⟨ht, hh⟩ := N.ends i h0 h1
  have e : ∀ u : Int, (0 ≤ u ∧ u < n) → decide (u ∈ (upto n).filter T) = T u := fun u hu => by
    have : u ∈ upto n := mem_upto.2 hu
    cases e : T u <;> simp [List.mem_filter, this, e]
  rw [e _ hh, e _ ht]

/-- As many arcs, not gone, enter each set that has v, and not the root. -/
def EnoughAt (arcs : List (Int × Int)) (gone : Int → Bool) (root : Int) (k : Nat) (v : Int) : Prop := ∀ T : Int → Bool, T root = false → T v = true → k ≤ entP arcs gone T
def EnoughP (arcs : List (Int × Int)) (n : Nat) (gone : Int → Bool) (root : Int) (k : Nat) : Prop := ∀ T : Int → Bool, VSet n root T → k ≤ entP arcs gone T
theorem enough_iff {k : Nat} : EnoughP arcs n gone root k ↔ ∀ v : Int, 0 ≤ v → v < n → v ≠ root → EnoughAt arcs gone root k v := by
  constructor
  · intro h v h0 h1 hr T hT hv
    exact h T ⟨hT, v, h0, h1, hv⟩
  · intro h T ⟨hT, v, h0, h1, hv⟩
    exact h v h0 h1 (fun e => by rw [e, hT] at hv; cases hv) T hT hv

theorem NetA.units_le (N : NetA n arcs root) (hf : FlowS arcs gone full root v units) (hv : 0 ≤ v ∧ v < n) : EnoughAt arcs gone root units v := by
  intro T hT hvT
  rw [N.ent_range]
  exact hf.le ((nodup_upto n).filter _) (fun h => by have := (List.mem_filter.1 h).2; rw [hT] at this; cases this) (List.mem_filter.2 ⟨mem_upto.2 hv, hvT⟩)
theorem NetA.units_tight (N : NetA n arcs root) (hf : FlowS arcs gone full root v units) (hw : WkA arcs n gone full root by' come) (hv : 0 ≤ v ∧ v < n) (hc : come v = false) :
    units = entP arcs gone (fun u => decide (u ∈ notC n come)) := by
  rw [← entA_len]
  exact hf.tight hw N.ends hv hc
theorem NetA.most_enough (N : NetA n arcs root) (hf : FlowS arcs gone full root v units) (hw : WkA arcs n gone full root by' come) (hv : 0 ≤ v ∧ v < n) {k : Nat} (hc : come v = false ∨ units = k) (hk : units ≤ k) :
    EnoughAt arcs gone root k v ↔ k ≤ units := by
  constructor
  · intro h
    rcases hc with hc | hc
    · rw [N.units_tight hf hw hv hc]
      refine h _ ?_ ?_
      · have : root ∉ notC n come := fun hx => by have := (mem_notC.1 hx).2; rw [hw.src] at this; cases this
        simp [this]
      · simp [mem_notC.2 ⟨hv, hc⟩]
    · omega
  · intro h
    have : k = units := by omega
    subst this
    exact N.units_le hf hv
end

open Classical in
/-- What 'enough' answers. -/
noncomputable def enoughB (arcs : List (Int × Int)) (n : Nat) (gone : Int → Bool) (root : Int) (k : Nat) : Bool := decide (EnoughP arcs n gone root k)
theorem enoughB_true {arcs : List (Int × Int)} {n : Nat} {gone : Int → Bool} {root : Int} {k : Nat} : enoughB arcs n gone root k = true ↔ EnoughP arcs n gone root k := by simp [enoughB]
theorem enoughB_false {arcs : List (Int × Int)} {n : Nat} {gone : Int → Bool} {root : Int} {k : Nat} : enoughB arcs n gone root k = false ↔ ¬ EnoughP arcs n gone root k := by simp [enoughB]

theorem enough_at {H : Heap} {G n k : Nat} {arcs : List (Int × Int)} {gone : Int → Bool} {root : Int} (N : NetA n arcs root) (hG : H G = some (.arr 1 4 (labB arcs.length gone) arcs.length)) (hk : k ≤ 1000) :
    RetAt Try.prog w0 54 [I n, pairs arcs, .ref G 0 arcs.length arcs.length, I root, I k] (B (enoughB arcs n gone root k)) H := by
  refine .of ?_
  have hn := N.nle
  refine w_enter Try.func54 rfl Try.ntmps54 (ts := [10]) rfl (by simp) (by kernel_rfl) ?_
  repeat' (first
    | (with_reducible refine awp_skip ?_)
    | (with_reducible refine then_any ?_)
    | (with_reducible refine then_ret ?_)
    | (with_reducible refine then_exit ?_)
    | (with_reducible refine inBlock_normal ?_)
    | (with_reducible refine inBlock_ret ?_)
    | (with_reducible refine inBlock_hit ?_)
    | (with_reducible refine inBlock_miss (by decide) ?_)
    | (with_reducible refine awp_ret ?_)
    | (with_reducible refine awp_exit ?_)
    | (with_reducible refine post_ret ?_)
    | (with_reducible refine post_normal ?_)
    | (with_reducible refine awp_block ?_)
    | (with_reducible refine v_reg [] (fun K hK => ?_))
    | (with_reducible refine v_reg1 [] (fun K hK => ?_))
    | (with_reducible refine v_draw mixed [] [] (by kernel_rfl) (fun K hK => ?_))
    | (with_reducible refine v_draw1 mixed [] [] (by kernel_rfl) (fun K hK => ?_))
    | (with_reducible refine ev_nil (hK _ _ ?_); clear hK K)
    | (with_reducible refine ed_nil (hK _ _ ?_); clear hK K)
    | ((first | with_reducible refine ev_cons (fun K' hK' => ?_) | with_reducible refine ed_cons (fun K' hK' => ?_) | (with_reducible refine ev_id ?_; refine ev_guard rfl (fun K' hK' => ?_)) | (with_reducible refine ed_id ?_; refine ed_guard rfl (fun K' hK' => ?_))); simp; repeat' (first | (with_reducible refine hK' _ _ ?_; clear hK' K') | (with_reducible refine And.intro ?_ ?_) | (with_reducible intro hg) | (clear hK' K'; omega)))
    | (with_reducible refine w_cond (fun A B hA hB => ?_); simp; repeat' (first | (with_reducible refine hA ?_; clear hA hB A B) | (with_reducible refine hB ?_; clear hA hB A B) | (with_reducible refine And.intro ?_ ?_) | (with_reducible intro hc)))
    | (with_reducible refine awp_seq ?_))
  refine awp_loop (fun env h => ∃ v : Nat, v ≤ n ∧ (∀ u : Int, 0 ≤ u → u < v → u ≠ root → EnoughAt arcs gone root k u) ∧ env 15 = I v ∧ env 14 = I n ∧ env 0 = I n ∧ env 1 = pairs arcs ∧ env 2 = .ref G 0 arcs.length arcs.length ∧ env 3 = I root ∧ env 4 = I k ∧ h = H) (fun env _ => n - natA (env 15)) ?_ ?_
  · exact ⟨0, by omega, fun u a b => by omega, by simp, by simp, by simp, by simp, by simp, by simp, by simp, rfl⟩
  rintro env h ⟨v, hv, hE, h15, h14, h0, h1, h2, h3, h4, rfl⟩
  have hnat : natA (env 15) = v := by simp [h15]
  rw [hnat]; clear hnat
  by_cases hlt : v < n
  · by_cases hr : (v : Int) = root
    · subst hr
      repeat' (first
        | (with_reducible refine awp_skip ?_)
        | (with_reducible refine then_any ?_)
        | (with_reducible refine then_ret ?_)
        | (with_reducible refine then_exit ?_)
        | (with_reducible refine inBlock_normal ?_)
        | (with_reducible refine inBlock_ret ?_)
        | (with_reducible refine inBlock_hit ?_)
        | (with_reducible refine inBlock_miss (by decide) ?_)
        | (with_reducible refine awp_ret ?_)
        | (with_reducible refine awp_exit ?_)
        | (with_reducible refine post_ret ?_)
        | (with_reducible refine post_normal ?_)
        | (with_reducible refine awp_block ?_)
        | (with_reducible refine v_reg [] (fun K hK => ?_))
        | (with_reducible refine v_reg1 [] (fun K hK => ?_))
        | (with_reducible refine v_draw mixed [] [] (by kernel_rfl) (fun K hK => ?_))
        | (with_reducible refine v_draw1 mixed [] [] (by kernel_rfl) (fun K hK => ?_))
        | (with_reducible refine ev_nil (hK _ _ ?_); clear hK K)
        | (with_reducible refine ed_nil (hK _ _ ?_); clear hK K)
        | ((first | with_reducible refine ev_cons (fun K' hK' => ?_) | with_reducible refine ed_cons (fun K' hK' => ?_) | (with_reducible refine ev_id ?_; refine ev_guard rfl (fun K' hK' => ?_)) | (with_reducible refine ed_id ?_; refine ed_guard rfl (fun K' hK' => ?_))); simp [h15, h14, h0, h1, h2, h3, h4, hlt]; repeat' (first | (with_reducible refine hK' _ _ ?_; clear hK' K') | (with_reducible refine And.intro ?_ ?_) | (with_reducible intro hg) | (clear hK' K'; omega)))
        | (with_reducible refine w_cond (fun A B hA hB => ?_); simp [h15, h14, h0, h1, h2, h3, h4, hlt]; repeat' (first | (with_reducible refine hA ?_; clear hA hB A B) | (with_reducible refine hB ?_; clear hA hB A B) | (with_reducible refine And.intro ?_ ?_) | (with_reducible intro hc)))
        | (with_reducible refine awp_seq ?_))
      exact ⟨⟨v + 1, by omega, fun u a b c => hE u a (by omega) c, by simp, by simp [h14], by simp [h0], by simp [h1], by simp [h2], by simp [h3], by simp [h4], rfl⟩, by simp; omega⟩
    · have hmost := fun K k' => most_use (w0 := w0) (K := K) (v := (v : Int)) (enough := k) N hG ⟨by omega, by omega⟩ hr hk k'
      repeat' (first
        | (with_reducible refine awp_skip ?_)
        | (with_reducible refine then_any ?_)
        | (with_reducible refine then_ret ?_)
        | (with_reducible refine then_exit ?_)
        | (with_reducible refine inBlock_normal ?_)
        | (with_reducible refine inBlock_ret ?_)
        | (with_reducible refine inBlock_hit ?_)
        | (with_reducible refine inBlock_miss (by decide) ?_)
        | (with_reducible refine awp_ret ?_)
        | (with_reducible refine awp_exit ?_)
        | (with_reducible refine post_ret ?_)
        | (with_reducible refine post_normal ?_)
        | (with_reducible refine awp_block ?_)
        | (with_reducible refine v_reg [] (fun K hK => ?_))
        | (with_reducible refine v_reg1 [] (fun K hK => ?_))
        | (with_reducible refine v_draw mixed [] [] (by kernel_rfl) (fun K hK => ?_))
        | (with_reducible refine v_draw1 mixed [] [] (by kernel_rfl) (fun K hK => ?_))
        | (with_reducible refine ev_nil (hK _ _ ?_); clear hK K)
        | (with_reducible refine ed_nil (hK _ _ ?_); clear hK K)
        | ((first | with_reducible refine ev_cons (fun K' hK' => ?_) | with_reducible refine ed_cons (fun K' hK' => ?_) | (with_reducible refine ev_id ?_; refine ev_guard rfl (fun K' hK' => ?_)) | (with_reducible refine ed_id ?_; refine ed_guard rfl (fun K' hK' => ?_))); simp [h15, h14, h0, h1, h2, h3, h4, hlt, hr]; repeat' (first | (with_reducible refine hK' _ _ ?_; clear hK' K') | ((with_reducible refine hmost _ (fun units full by' come a b c d => ?_)); try simp [h15, h14, h0, h1, h2, h3, h4, hlt, hr]) | (with_reducible refine And.intro ?_ ?_) | (with_reducible intro hg) | (clear hK' K'; omega)))
        | (with_reducible refine w_cond (fun A B hA hB => ?_); simp [h15, h14, h0, h1, h2, h3, h4, hlt, hr]; repeat' (first | (with_reducible refine hA ?_; clear hA hB A B) | (with_reducible refine hB ?_; clear hA hB A B) | (with_reducible refine And.intro ?_ ?_) | (with_reducible intro hc)))
        | (with_reducible refine awp_seq ?_))
      · have hall : enoughB arcs n gone root k = false := enoughB_false.2 fun he => by
          have := (N.most_enough a b ⟨by omega, by omega⟩ c d).1 (enough_iff.1 he v (by omega) (by omega) hr)
          omega
        simp [hall]
      · have hE2 := (N.most_enough a b ⟨by omega, by omega⟩ c d).2 hc
        exact ⟨⟨v + 1, by omega, fun u u0 u1 u2 => by by_cases e : u = v; (· rw [e]; exact hE2); (· exact hE u u0 (by omega) u2), by simp, by simp [h14], by simp [h0], by simp [h1], by simp [h2], by simp [h3], by simp [h4], rfl⟩, by simp; omega⟩
  · have : v = n := by omega
    subst this
    have hall : enoughB arcs v gone root k = true := enoughB_true.2 (enough_iff.2 fun u a b c => hE u a (by omega) c)
    repeat' (first
      | (with_reducible refine awp_skip ?_)
      | (with_reducible refine then_any ?_)
      | (with_reducible refine then_ret ?_)
      | (with_reducible refine then_exit ?_)
      | (with_reducible refine inBlock_normal ?_)
      | (with_reducible refine inBlock_ret ?_)
      | (with_reducible refine inBlock_hit ?_)
      | (with_reducible refine inBlock_miss (by decide) ?_)
      | (with_reducible refine awp_ret ?_)
      | (with_reducible refine awp_exit ?_)
      | (with_reducible refine post_ret ?_)
      | (with_reducible refine post_normal ?_)
      | (with_reducible refine awp_block ?_)
      | (with_reducible refine v_reg [] (fun K hK => ?_))
      | (with_reducible refine v_reg1 [] (fun K hK => ?_))
      | (with_reducible refine v_draw mixed [] [] (by kernel_rfl) (fun K hK => ?_))
      | (with_reducible refine v_draw1 mixed [] [] (by kernel_rfl) (fun K hK => ?_))
      | (with_reducible refine ev_nil (hK _ _ ?_); clear hK K)
      | (with_reducible refine ed_nil (hK _ _ ?_); clear hK K)
      | ((first | with_reducible refine ev_cons (fun K' hK' => ?_) | with_reducible refine ed_cons (fun K' hK' => ?_) | (with_reducible refine ev_id ?_; refine ev_guard rfl (fun K' hK' => ?_)) | (with_reducible refine ed_id ?_; refine ed_guard rfl (fun K' hK' => ?_))); simp [h15, h14, h0]; repeat' (first | (with_reducible refine hK' _ _ ?_; clear hK' K') | (with_reducible refine And.intro ?_ ?_) | (with_reducible intro hg) | (clear hK' K'; omega)))
      | (with_reducible refine w_cond (fun A B hA hB => ?_); simp [h15, h14, h0]; repeat' (first | (with_reducible refine hA ?_; clear hA hB A B) | (with_reducible refine hB ?_; clear hA hB A B) | (with_reducible refine And.intro ?_ ?_) | (with_reducible intro hc)))
      | (with_reducible refine awp_seq ?_))
    simp [hall]
end Go.Am
