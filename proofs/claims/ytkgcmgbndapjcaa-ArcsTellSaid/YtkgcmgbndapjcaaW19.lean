/- Contracts: turned; Path. -/
import Derived.Test.YtkgcmgbndapjcaaW18
namespace Go.Am
open Go Go.Proofs
set_option linter.unusedVariables false
set_option linter.unusedSimpArgs false
variable {w0 : World}
attribute [local irreducible] AWP ACalls
attribute [local congr] acalls_congr

theorem rows_make {e : TypeId} {H : Heap} {O n : Nat} (hO : H O = none) : Rows e H (upd H O (some (.arr 1 e (List.replicate n (.sc (.slice none 0 0))) n))) O (List.replicate n []) (List.replicate n (.sc (.slice none 0 0))) := by
  refine ⟨by simp, by simp [upd_same], fun i p h => ?_, fun i j r a b a' b' h => ?_, sub_new hO, hO⟩
  · rw [List.getElem?_replicate] at h
    split at h
    · cases h
      rename_i hi
      exact .inl ⟨rfl, by rw [List.getElem?_replicate, if_pos hi]⟩
    · cases h
  · rw [List.getElem?_replicate] at h
    split at h <;> cases h

/-- The rows while point i's arcs are turned, ws of them. -/
def turnM (adj : List (List Int)) (i : Nat) (ws : List Int) : List (List Int) := (upto adj.length).map fun u => ((upto i).filter fun v => decide (u ∈ out adj v)) ++ if u ∈ ws then [(i : Int)] else []
theorem turnM_length (adj : List (List Int)) (i : Nat) (ws : List Int) : (turnM adj i ws).length = adj.length := by simp [turnM]
theorem turnM_get {adj : List (List Int)} {i : Nat} {ws : List Int} {u : Int} (h : 0 ≤ u ∧ u < adj.length) : (turnM adj i ws)[u.toNat]? = some (((upto i).filter fun v => decide (u ∈ out adj v)) ++ if u ∈ ws then [(i : Int)] else []) := by
  have hu : (upto adj.length)[u.toNat]? = some u := by
    rw [List.getElem?_eq_getElem (by simp; omega), upto_get]; congr 1; omega
  simp only [turnM, List.getElem?_map, hu, Option.map_some]
theorem turnM_zero (adj : List (List Int)) : turnM adj 0 [] = List.replicate adj.length [] := by
  simp only [turnM, upto_zero, List.filter_nil, List.not_mem_nil, if_false, List.append_nil, List.map_const', upto_length]
theorem turnM_next (adj : List (List Int)) (i : Nat) : turnM adj i (out adj i) = turnM adj (i + 1) [] := by
  simp only [turnM, upto_succ, List.filter_append, List.filter_cons, List.filter_nil, List.not_mem_nil, if_false, List.append_nil]
  apply List.map_congr_left
  intro u _
  by_cases h : u ∈ out adj i <;> simp [h]
theorem turnM_all (adj : List (List Int)) : turnM adj adj.length [] = turnL adj := by
  simp [turnM, turnL]
theorem turnM_push {adj : List (List Int)} {i : Nat} {ws : List Int} {u : Int} (h : 0 ≤ u ∧ u < adj.length) (hu : u ∉ ws) :
    (turnM adj i ws).set u.toNat (((upto i).filter fun v => decide (u ∈ out adj v)) ++ [(i : Int)]) = turnM adj i (ws ++ [u]) := by
  refine List.ext_getElem? fun j => ?_
  rw [List.getElem?_set, turnM_length]
  by_cases hj : j < adj.length
  · have e1 := turnM_get (adj := adj) (i := i) (ws := ws) (u := (j : Int)) (by omega)
    have e2 := turnM_get (adj := adj) (i := i) (ws := ws ++ [u]) (u := (j : Int)) (by omega)
    rw [Int.toNat_natCast] at e1 e2
    rw [e1, e2]
    by_cases e : u.toNat = j
    · have e' : (j : Int) = u := by omega
      rw [if_pos e, if_pos (by omega), e']
      simp
    · have e' : ¬ (j : Int) = u := by omega
      rw [if_neg e]
      simp only [List.mem_append, List.mem_singleton, e', or_false]
  · have e1 : (turnM adj i ws)[j]? = none := List.getElem?_eq_none (by rw [turnM_length]; omega)
    have e2 : (turnM adj i (ws ++ [u]))[j]? = none := List.getElem?_eq_none (by rw [turnM_length]; omega)
    rw [e1, e2]
    by_cases e : u.toNat = j
    · rw [if_pos e, if_neg (by omega)]
    · rw [if_neg e]

/-- A predicate of numbers: its contract at a heap. -/
abbrev PredI (w0 : World) (f : FuncId) (caps : List AV) (l : List Int) (p : Int → Bool) (H : Heap) : Prop := ∀ x ∈ l, RetAt Try.prog w0 f (I x :: caps) (B (p x)) H

theorem indexInts_at {l : List Int} {f : FuncId} {caps : List AV} {p : Int → Bool} {H : Heap} (hl : okLen l) (hp : PredI w0 f caps l p H) :
    RetAt Try.prog w0 84 [ints l, .clo f [] caps] (I (idxI p l)) H := by
  refine .of ?_
  refine w_enter Try.func84 rfl Try.ntmps84 (ts := [4]) rfl (by simp) (by kernel_rfl) ?_
  repeat' (first
    | (with_reducible refine awp_skip ?_)
    | (with_reducible refine then_any ?_)
    | (with_reducible refine then_ret ?_)
    | (with_reducible refine then_exit ?_)
    | (with_reducible refine inBlock_normal ?_)
    | (with_reducible refine inBlock_ret ?_)
    | (with_reducible refine inBlock_hit ?_)
    | (with_reducible refine inBlock_miss (by decide) ?_)
    | (with_reducible refine awp_ret ?_)
    | (with_reducible refine awp_exit ?_)
    | (with_reducible refine post_ret ?_)
    | (with_reducible refine post_normal ?_)
    | (with_reducible refine awp_block ?_)
    | (with_reducible refine v_reg [] (fun K hK => ?_))
    | (with_reducible refine v_reg1 [] (fun K hK => ?_))
    | (with_reducible refine v_draw mixed [] [] (by kernel_rfl) (fun K hK => ?_))
    | (with_reducible refine v_draw1 mixed [] [] (by kernel_rfl) (fun K hK => ?_))
    | (with_reducible refine ev_nil (hK _ _ ?_); clear hK K)
    | (with_reducible refine ed_nil (hK _ _ ?_); clear hK K)
    | ((first | with_reducible refine ev_cons (fun K' hK' => ?_) | with_reducible refine ed_cons (fun K' hK' => ?_) | (with_reducible refine ev_id ?_; refine ev_guard rfl (fun K' hK' => ?_)) | (with_reducible refine ed_id ?_; refine ed_guard rfl (fun K' hK' => ?_))); simp [ints]; repeat' (first | (with_reducible refine hK' _ _ ?_; clear hK' K') | (with_reducible refine And.intro ?_ ?_) | (with_reducible intro hg) | (clear hK' K'; omega)))
    | (with_reducible refine w_cond (fun A B hA hB => ?_); simp [ints]; repeat' (first | (with_reducible refine hA ?_; clear hA hB A B) | (with_reducible refine hB ?_; clear hA hB A B) | (with_reducible refine And.intro ?_ ?_) | (with_reducible intro hc)))
    | (with_reducible refine awp_seq ?_))
  refine awp_loop (fun env h => ∃ k : Nat, k ≤ l.length ∧ env 8 = I k ∧ env 7 = I l.length ∧ env 0 = ints l ∧ env 1 = .clo f [] caps ∧ (∀ x ∈ l.take k, p x = false) ∧ h = H) (fun env _ => l.length - natA (env 8)) ?_ ?_
  · exact ⟨0, by omega, by simp, by simp, by simp [ints], by simp, by simp, rfl⟩
  rintro env h ⟨k, hk, h8, h7, h0, h1, ht, rfl⟩
  have hnat : natA (env 8) = k := by simp [h8]
  rw [hnat]; clear hnat
  by_cases hlt : k < l.length
  · have hpk := hp l[k] (List.getElem_mem _)
    cases hb : p l[k] with
    | true =>
      have := idxI_take hlt ht hb
      repeat' (first
        | (with_reducible refine awp_skip ?_)
        | (with_reducible refine then_any ?_)
        | (with_reducible refine then_ret ?_)
        | (with_reducible refine then_exit ?_)
        | (with_reducible refine inBlock_normal ?_)
        | (with_reducible refine inBlock_ret ?_)
        | (with_reducible refine inBlock_hit ?_)
        | (with_reducible refine inBlock_miss (by decide) ?_)
        | (with_reducible refine awp_ret ?_)
        | (with_reducible refine awp_exit ?_)
        | (with_reducible refine post_ret ?_)
        | (with_reducible refine post_normal ?_)
        | (with_reducible refine awp_block ?_)
        | (with_reducible refine v_reg [] (fun K hK => ?_))
        | (with_reducible refine v_reg1 [] (fun K hK => ?_))
        | (with_reducible refine v_draw mixed [] [] (by kernel_rfl) (fun K hK => ?_))
        | (with_reducible refine v_draw1 mixed [] [] (by kernel_rfl) (fun K hK => ?_))
        | (with_reducible refine ev_nil (hK _ _ ?_); clear hK K)
        | (with_reducible refine ed_nil (hK _ _ ?_); clear hK K)
        | ((first | with_reducible refine ev_cons (fun K' hK' => ?_) | with_reducible refine ed_cons (fun K' hK' => ?_) | (with_reducible refine ev_id ?_; refine ev_guard rfl (fun K' hK' => ?_)) | (with_reducible refine ed_id ?_; refine ed_guard rfl (fun K' hK' => ?_))); simp [h8, h7, h0, h1, ints, hlt]; repeat' (first | (with_reducible refine hK' _ _ ?_; clear hK' K') | ((with_reducible refine RetAt.use hpk ?_; simp only [hb]); try simp [h8, h7, h0, h1, ints, hlt]) | (with_reducible refine And.intro ?_ ?_) | (with_reducible intro hg) | (clear hK' K'; omega)))
        | (with_reducible refine w_cond (fun A B hA hB => ?_); simp [h8, h7, h0, h1, ints, hlt]; repeat' (first | (with_reducible refine hA ?_; clear hA hB A B) | (with_reducible refine hB ?_; clear hA hB A B) | (with_reducible refine And.intro ?_ ?_) | (with_reducible intro hc)))
        | (with_reducible refine awp_seq ?_))
      simp [this]
    | false =>
      repeat' (first
        | (with_reducible refine awp_skip ?_)
        | (with_reducible refine then_any ?_)
        | (with_reducible refine then_ret ?_)
        | (with_reducible refine then_exit ?_)
        | (with_reducible refine inBlock_normal ?_)
        | (with_reducible refine inBlock_ret ?_)
        | (with_reducible refine inBlock_hit ?_)
        | (with_reducible refine inBlock_miss (by decide) ?_)
        | (with_reducible refine awp_ret ?_)
        | (with_reducible refine awp_exit ?_)
        | (with_reducible refine post_ret ?_)
        | (with_reducible refine post_normal ?_)
        | (with_reducible refine awp_block ?_)
        | (with_reducible refine v_reg [] (fun K hK => ?_))
        | (with_reducible refine v_reg1 [] (fun K hK => ?_))
        | (with_reducible refine v_draw mixed [] [] (by kernel_rfl) (fun K hK => ?_))
        | (with_reducible refine v_draw1 mixed [] [] (by kernel_rfl) (fun K hK => ?_))
        | (with_reducible refine ev_nil (hK _ _ ?_); clear hK K)
        | (with_reducible refine ed_nil (hK _ _ ?_); clear hK K)
        | ((first | with_reducible refine ev_cons (fun K' hK' => ?_) | with_reducible refine ed_cons (fun K' hK' => ?_) | (with_reducible refine ev_id ?_; refine ev_guard rfl (fun K' hK' => ?_)) | (with_reducible refine ed_id ?_; refine ed_guard rfl (fun K' hK' => ?_))); simp [h8, h7, h0, h1, ints, hlt]; repeat' (first | (with_reducible refine hK' _ _ ?_; clear hK' K') | ((with_reducible refine RetAt.use hpk ?_; simp only [hb]); try simp [h8, h7, h0, h1, ints, hlt]) | (with_reducible refine And.intro ?_ ?_) | (with_reducible intro hg) | (clear hK' K'; omega)))
        | (with_reducible refine w_cond (fun A B hA hB => ?_); simp [h8, h7, h0, h1, ints, hlt]; repeat' (first | (with_reducible refine hA ?_; clear hA hB A B) | (with_reducible refine hB ?_; clear hA hB A B) | (with_reducible refine And.intro ?_ ?_) | (with_reducible intro hc)))
        | (with_reducible refine awp_seq ?_))
      refine ⟨⟨k + 1, by omega, by simp, by simp [h7], by simp [h0], by simp [h1], fun x hx => ?_, rfl⟩, by simp; omega⟩
      rw [List.take_succ_eq_append_getElem hlt, List.mem_append, List.mem_singleton] at hx
      rcases hx with hx | rfl
      · exact ht x hx
      · exact hb
  · have : k = l.length := by omega
    subst this
    rw [List.take_length] at ht
    have := idxI_none ht
    repeat' (first
      | (with_reducible refine awp_skip ?_)
      | (with_reducible refine then_any ?_)
      | (with_reducible refine then_ret ?_)
      | (with_reducible refine then_exit ?_)
      | (with_reducible refine inBlock_normal ?_)
      | (with_reducible refine inBlock_ret ?_)
      | (with_reducible refine inBlock_hit ?_)
      | (with_reducible refine inBlock_miss (by decide) ?_)
      | (with_reducible refine awp_ret ?_)
      | (with_reducible refine awp_exit ?_)
      | (with_reducible refine post_ret ?_)
      | (with_reducible refine post_normal ?_)
      | (with_reducible refine awp_block ?_)
      | (with_reducible refine v_reg [] (fun K hK => ?_))
      | (with_reducible refine v_reg1 [] (fun K hK => ?_))
      | (with_reducible refine v_draw mixed [] [] (by kernel_rfl) (fun K hK => ?_))
      | (with_reducible refine v_draw1 mixed [] [] (by kernel_rfl) (fun K hK => ?_))
      | (with_reducible refine ev_nil (hK _ _ ?_); clear hK K)
      | (with_reducible refine ed_nil (hK _ _ ?_); clear hK K)
      | ((first | with_reducible refine ev_cons (fun K' hK' => ?_) | with_reducible refine ed_cons (fun K' hK' => ?_) | (with_reducible refine ev_id ?_; refine ev_guard rfl (fun K' hK' => ?_)) | (with_reducible refine ed_id ?_; refine ed_guard rfl (fun K' hK' => ?_))); simp [h8, h7, h0, h1, ints]; repeat' (first | (with_reducible refine hK' _ _ ?_; clear hK' K') | (with_reducible refine And.intro ?_ ?_) | (with_reducible intro hg) | (clear hK' K'; omega)))
      | (with_reducible refine w_cond (fun A B hA hB => ?_); simp [h8, h7, h0, h1, ints]; repeat' (first | (with_reducible refine hA ?_; clear hA hB A B) | (with_reducible refine hB ?_; clear hA hB A B) | (with_reducible refine And.intro ?_ ?_) | (with_reducible intro hc)))
      | (with_reducible refine awp_seq ?_))
    simp [this]

theorem idx_next {d : Int → Int} {l : List Int} {k : Int} (h : ∃ u ∈ l, d u = k) : ∃ (i : Nat) (hi : i < l.length), idxI (fun u => decide (d u = k)) l = i ∧ l[i] = nextL d l k := by
  unfold idxI nextL
  cases hf : l.findIdx? fun u => decide (d u = k) with
  | none =>
    rw [List.findIdx?_eq_none_iff] at hf
    obtain ⟨u, hu, e⟩ := h
    have := hf u hu
    simp [e] at this
  | some i =>
    have hf' := hf
    rw [List.findIdx?_eq_some_iff_getElem] at hf'
    obtain ⟨hi, hp, hb⟩ := hf'
    refine ⟨i, hi, rfl, ?_⟩
    have : l.find? (fun u => decide (d u = k)) = some l[i] := by
      rw [List.find?_eq_some_iff_getElem]
      exact ⟨hp, i, hi, rfl, fun j hj => by simpa using hb j hj⟩
    rw [this]; rfl

/-- The blocks of the walk along a way. -/
def ph (H : Heap) (b s r : Nat) (left : AV) (v : Int) (o : List Int) : Heap := upd (upd (upd H b (some (.box [left]))) r (some (.arr 1 3 (o.map I) o.length))) s (some (.box [I v]))

section
variable {H : Heap} {b s r : Nat} {left : AV} {v : Int} {o : List Int}
theorem ph_b (h1 : b ≠ r) (h2 : b ≠ s) : ph H b s r left v o b = some (.box [left]) := by simp [ph, h1, h2]
theorem ph_r (h : r ≠ s) : ph H b s r left v o r = some (.arr 1 3 (o.map I) o.length) := by simp [ph, h]
theorem ph_s : ph H b s r left v o s = some (.box [I v]) := by simp [ph]
theorem ph_set {x : Int} : upd (ph H b s r left v o) s (some (.box [I x])) = ph H b s r left x o := by simp [ph]
theorem ph_none {q : Nat} (h : ph H b s r left v o q = none) : q ≠ b ∧ q ≠ s ∧ q ≠ r ∧ H q = none := by
  unfold ph at h
  by_cases e1 : q = s
  · subst e1; simp [upd_same] at h
  · rw [upd_ne _ _ _ e1] at h
    by_cases e2 : q = r
    · subst e2; simp [upd_same] at h
    · rw [upd_ne _ _ _ e2] at h
      by_cases e3 : q = b
      · subst e3; simp [upd_same] at h
      · rw [upd_ne _ _ _ e3] at h; exact ⟨e3, e1, e2, h⟩
theorem ph_step {q : Nat} {o' : List Int} {x : Int} (hs : H s = none) (hq : q ≠ b ∧ q ≠ s ∧ q ≠ r) (hbr : b ≠ r) (hbs : b ≠ s) (hrs : r ≠ s) :
    Sub (ph H b q r left x o') (upd (upd (ph H b s r left v o) q (some (.box [I x]))) r (some (.arr 1 3 (o'.map I) o'.length))) := by
  intro z k hz
  unfold ph at hz ⊢
  by_cases e1 : z = r
  · subst e1
    rw [upd_ne _ _ _ (fun e => hq.2.2 e.symm), upd_same] at hz
    rw [upd_same]; exact hz
  · rw [upd_ne _ _ _ e1]
    by_cases e2 : z = q
    · subst e2; rw [upd_same] at hz ⊢; exact hz
    · rw [upd_ne _ _ _ e2, upd_ne _ _ _ e1] at hz
      rw [upd_ne _ _ _ e2]
      have e3 : z ≠ s := by
        rintro rfl
        rw [upd_ne _ _ _ (fun e => hbs e.symm), hs] at hz
        cases hz
      rw [upd_ne _ _ _ e3, upd_ne _ _ _ e1]; exact hz
theorem ph_sub (hb : H b = none) (hr : H r = none) (hs : H s = none) : Sub H (ph H b s r left v o) := (((Sub.refl H).upd hb _).upd hr _).upd hs _
end

end Go.Am
