/- Contracts: turned; Path. -/
import Derived.Test.YtbcgjjkchmgeoaaW18
namespace Go.Am
open Go Go.Proofs
set_option linter.unusedVariables false
set_option linter.unusedSimpArgs false
variable {w0 : World}
attribute [local irreducible] AWP ACalls
attribute [local congr] acalls_congr

theorem rows_make {e : TypeId} {H : Heap} {O n : Nat} (hO : H O = none) : Rows e H (upd H O (some (.arr 1 e (List.replicate n (.sc (.slice none 0 0))) n))) O (List.replicate n []) (List.replicate n (.sc (.slice none 0 0))) := by
  refine ⟨by simp, by simp [upd_same], fun i p h => ?_, fun i j r a b a' b' h => ?_, sub_new hO, hO⟩
  · rw [List.getElem?_replicate] at h
    split at h
    · cases h
      rename_i hi
      exact .inl ⟨rfl, by rw [List.getElem?_replicate, if_pos hi]⟩
    · cases h
  · rw [List.getElem?_replicate] at h
    split at h <;> cases h

/-- The rows while point i's arcs are turned, ws of them. -/
def turnM (adj : List (List Int)) (i : Nat) (ws : List Int) : List (List Int) := (upto adj.length).map fun u => ((upto i).filter fun v => decide (u ∈ out adj v)) ++ if u ∈ ws then [(i : Int)] else []
theorem turnM_length (adj : List (List Int)) (i : Nat) (ws : List Int) : (turnM adj i ws).length = adj.length := by simp [turnM]
theorem turnM_get {adj : List (List Int)} {i : Nat} {ws : List Int} {u : Int} (h : 0 ≤ u ∧ u < adj.length) : (turnM adj i ws)[u.toNat]? = some (((upto i).filter fun v => decide (u ∈ out adj v)) ++ if u ∈ ws then [(i : Int)] else []) := by
  have hu : (upto adj.length)[u.toNat]? = some u := by
    rw [List.getElem?_eq_getElem (by simp; omega), upto_get]; congr 1; omega
  simp only [turnM, List.getElem?_map, hu, Option.map_some]
theorem turnM_zero (adj : List (List Int)) : turnM adj 0 [] = List.replicate adj.length [] := by
  simp only [turnM, upto_zero, List.filter_nil, List.not_mem_nil, if_false, List.append_nil, List.map_const', upto_length]
theorem turnM_next (adj : List (List Int)) (i : Nat) : turnM adj i (out adj i) = turnM adj (i + 1) [] := by
  simp only [turnM, upto_succ, List.filter_append, List.filter_cons, List.filter_nil, List.not_mem_nil, if_false, List.append_nil]
  apply List.map_congr_left
  intro u _
  by_cases h : u ∈ out adj i <;> simp [h]
theorem turnM_all (adj : List (List Int)) : turnM adj adj.length [] = turnL adj := by
  simp [turnM, turnL]
theorem turnM_push {adj : List (List Int)} {i : Nat} {ws : List Int} {u : Int} (h : 0 ≤ u ∧ u < adj.length) (hu : u ∉ ws) :
    (turnM adj i ws).set u.toNat (((upto i).filter fun v => decide (u ∈ out adj v)) ++ [(i : Int)]) = turnM adj i (ws ++ [u]) := by
  refine List.ext_getElem? fun j => ?_
  rw [List.getElem?_set, turnM_length]
  by_cases hj : j < adj.length
  · have e1 := turnM_get (adj := adj) (i := i) (ws := ws) (u := (j : Int)) (by omega)
    have e2 := turnM_get (adj := adj) (i := i) (ws := ws ++ [u]) (u := (j : Int)) (by omega)
    rw [Int.toNat_natCast] at e1 e2
    rw [e1, e2]
    by_cases e : u.toNat = j
    · have e' : (j : Int) = u := by omega
      rw [if_pos e, if_pos (by omega), e']
      simp
    · have e' : ¬ (j : Int) = u := by omega
      rw [if_neg e]
      simp only [List.mem_append, List.mem_singleton, e', or_false]
  · have e1 : (turnM adj i ws)[j]? = none := List.getElem?_eq_none (by rw [turnM_length]; omega)
    have e2 : (turnM adj i (ws ++ [u]))[j]? = none := List.getElem?_eq_none (by rw [turnM_length]; omega)
    rw [e1, e2]
    by_cases e : u.toNat = j
    · rw [if_pos e, if_neg (by omega)]
    · rw [if_neg e]

theorem turned_ret {adj : List (List Int)} (hG : Gr adj) : Ret Try.prog w0 72 [rows adj] (rows (turnL adj)) := by
  intro H
  have hlen := hG.len
  refine w_enter Try.func72 rfl Try.ntmps72 (ts := [2]) rfl (by simp) (by kernel_rfl) ?_
  repeat' (first
    | (with_reducible refine awp_skip ?_)
    | (with_reducible refine then_any ?_)
    | (with_reducible refine then_ret ?_)
    | (with_reducible refine then_exit ?_)
    | (with_reducible refine inBlock_normal ?_)
    | (with_reducible refine inBlock_ret ?_)
    | (with_reducible refine inBlock_hit ?_)
    | (with_reducible refine inBlock_miss (by decide) ?_)
    | (with_reducible refine awp_ret ?_)
    | (with_reducible refine awp_exit ?_)
    | (with_reducible refine post_ret ?_)
    | (with_reducible refine post_normal ?_)
    | (with_reducible refine awp_block ?_)
    | (with_reducible refine v_reg [] (fun K hK => ?_))
    | (with_reducible refine v_reg1 [] (fun K hK => ?_))
    | (with_reducible refine v_draw mixed [] [] (by kernel_rfl) (fun K hK => ?_))
    | (with_reducible refine v_draw1 mixed [] [] (by kernel_rfl) (fun K hK => ?_))
    | (with_reducible refine ev_nil (hK _ _ ?_); clear hK K)
    | (with_reducible refine ed_nil (hK _ _ ?_); clear hK K)
    | ((first | with_reducible refine ev_cons (fun K' hK' => ?_) | with_reducible refine ed_cons (fun K' hK' => ?_) | (with_reducible refine ev_id ?_; refine ev_guard rfl (fun K' hK' => ?_)) | (with_reducible refine ed_id ?_; refine ed_guard rfl (fun K' hK' => ?_))); simp [rows]; repeat' (first | (with_reducible refine hK' _ _ ?_; clear hK' K') | (with_reducible refine And.intro ?_ ?_) | (with_reducible intro hg) | (clear hK' K'; omega)))
    | (with_reducible refine w_cond (fun A B hA hB => ?_); simp [rows]; repeat' (first | (with_reducible refine hA ?_; clear hA hB A B) | (with_reducible refine hB ?_; clear hA hB A B) | (with_reducible refine And.intro ?_ ?_) | (with_reducible intro hc)))
    | (with_reducible refine awp_seq ?_))
  all_goals try omega
  rename_i O
  have hO : H O = none := hg
  clear hg
  refine awp_loop (fun env h => ∃ (i : Nat) (cells : List AV), i ≤ adj.length ∧ env 13 = I i ∧ env 12 = I adj.length ∧ env 11 = rows adj ∧ env 3 = .ref O 0 adj.length adj.length ∧ Rows 24 H h O (turnM adj i []) cells) (fun env _ => adj.length - natA (env 13)) ?_ ?_
  · have hR := rows_make (e := 24) (n := adj.length) hO
    rw [← turnM_zero] at hR
    refine ⟨0, List.replicate adj.length (.sc (.slice none 0 0)), by omega, by simp, by simp, by simp [rows], by simp, ?_⟩
    simpa using hR
  rintro env h ⟨i, cells, hi, h13, h12, h11, h3, R⟩
  have hnat : natA (env 13) = i := by simp [h13]
  rw [hnat]; clear hnat
  by_cases hlt : i < adj.length
  · have hout : ∀ h : i < adj.length, adj[i]'h = out adj i := fun h => by simp [out, h]
    have hop := out_pts hG i
    have hol := hop.length
    have hnd := hop.set.nodup
    have hnx := turnM_next adj i
    generalize hws : out adj (i : Int) = ws at *
    repeat' (first
      | (with_reducible refine awp_skip ?_)
      | (with_reducible refine then_any ?_)
      | (with_reducible refine then_ret ?_)
      | (with_reducible refine then_exit ?_)
      | (with_reducible refine inBlock_normal ?_)
      | (with_reducible refine inBlock_ret ?_)
      | (with_reducible refine inBlock_hit ?_)
      | (with_reducible refine inBlock_miss (by decide) ?_)
      | (with_reducible refine awp_ret ?_)
      | (with_reducible refine awp_exit ?_)
      | (with_reducible refine post_ret ?_)
      | (with_reducible refine post_normal ?_)
      | (with_reducible refine awp_block ?_)
      | (with_reducible refine v_reg [] (fun K hK => ?_))
      | (with_reducible refine v_reg1 [] (fun K hK => ?_))
      | (with_reducible refine v_draw mixed [] [] (by kernel_rfl) (fun K hK => ?_))
      | (with_reducible refine v_draw1 mixed [] [] (by kernel_rfl) (fun K hK => ?_))
      | (with_reducible refine ev_nil (hK _ _ ?_); clear hK K)
      | (with_reducible refine ed_nil (hK _ _ ?_); clear hK K)
      | ((first | with_reducible refine ev_cons (fun K' hK' => ?_) | with_reducible refine ed_cons (fun K' hK' => ?_) | (with_reducible refine ev_id ?_; refine ev_guard rfl (fun K' hK' => ?_)) | (with_reducible refine ed_id ?_; refine ed_guard rfl (fun K' hK' => ?_))); simp [h13, h12, h11, h3, rows, ints, hlt, hout]; repeat' (first | (with_reducible refine hK' _ _ ?_; clear hK' K') | (with_reducible refine And.intro ?_ ?_) | (with_reducible intro hg) | (clear hK' K'; omega)))
      | (with_reducible refine w_cond (fun A B hA hB => ?_); simp [h13, h12, h11, h3, rows, ints, hlt, hout]; repeat' (first | (with_reducible refine hA ?_; clear hA hB A B) | (with_reducible refine hB ?_; clear hA hB A B) | (with_reducible refine And.intro ?_ ?_) | (with_reducible intro hc)))
      | (with_reducible refine awp_seq ?_))
    refine awp_loop (fun env h => ∃ (j : Nat) (cells : List AV), j ≤ ws.length ∧ env 20 = I j ∧ env 19 = I ws.length ∧ env 18 = ints ws ∧ env 4 = I i ∧ env 13 = I i ∧ env 12 = I adj.length ∧ env 11 = rows adj ∧ env 3 = .ref O 0 adj.length adj.length ∧ Rows 24 H h O (turnM adj i (ws.take j)) cells) (fun env _ => ws.length - natA (env 20)) ?_ ?_
    · exact ⟨0, cells, by omega, by simp, by simp, by simp [ints], by simp, by simp [h13], by simp [h12], by simp [h11], by simp [h3], by simpa using R⟩
    clear h13 h12 h11 h3 R cells
    rintro env h ⟨j, cells, hj, h20, h19, h18, h4, h13, h12, h11, h3, R⟩
    have hnat : natA (env 20) = j := by simp [h20]
    rw [hnat]; clear hnat
    by_cases hjl : j < ws.length
    · have hu := hop.lt ws[j] (List.getElem_mem _)
      have hun : ws[j].toNat < adj.length := by omega
      have hno : ws[j] ∉ ws.take j := by
        intro hm
        rw [List.mem_take_iff_getElem] at hm
        obtain ⟨k, hk, e⟩ := hm
        have := List.getElem_inj hnd (h₀ := by omega) (h₁ := hjl) |>.1 e
        omega
      have hget := turnM_get (i := i) (ws := ws.take j) hu
      rw [if_neg hno, List.append_nil] at hget
      have hpush := turnM_push (i := i) hu hno
      have hts : ws.take (j + 1) = ws.take j ++ [ws[j]] := List.take_succ_eq_append_getElem hjl
      rw [← hts] at hpush
      have hple := List.length_filter_le (fun v => decide (ws[j] ∈ out adj v)) (upto i)
      rw [upto_length] at hple
      have hcl := R.len
      rw [turnM_length] at hcl
      have hO' := R.out
      rw [turnM_length] at hO'
      generalize hpp : (upto i).filter (fun v => decide (ws[j] ∈ out adj v)) = p at *
      rcases R.row _ _ hget with ⟨hp0, hc0⟩ | ⟨q, hcq, hq, hHq, hqO⟩
      · -- the first one
        subst hp0
        have hc0' : ∀ h : ws[j].toNat < cells.length, cells[ws[j].toNat]'h = .sc (.slice none 0 0) := fun h => (List.getElem?_eq_some_iff.1 hc0).2
        repeat' (first
          | (with_reducible refine awp_skip ?_)
          | (with_reducible refine then_any ?_)
          | (with_reducible refine then_ret ?_)
          | (with_reducible refine then_exit ?_)
          | (with_reducible refine inBlock_normal ?_)
          | (with_reducible refine inBlock_ret ?_)
          | (with_reducible refine inBlock_hit ?_)
          | (with_reducible refine inBlock_miss (by decide) ?_)
          | (with_reducible refine awp_ret ?_)
          | (with_reducible refine awp_exit ?_)
          | (with_reducible refine post_ret ?_)
          | (with_reducible refine post_normal ?_)
          | (with_reducible refine awp_block ?_)
          | (with_reducible refine v_reg [] (fun K hK => ?_))
          | (with_reducible refine v_reg1 [] (fun K hK => ?_))
          | (with_reducible refine v_draw mixed [] [] (by kernel_rfl) (fun K hK => ?_))
          | (with_reducible refine v_draw1 mixed [] [] (by kernel_rfl) (fun K hK => ?_))
          | (with_reducible refine ev_nil (hK _ _ ?_); clear hK K)
          | (with_reducible refine ed_nil (hK _ _ ?_); clear hK K)
          | ((first | with_reducible refine ev_cons (fun K' hK' => ?_) | with_reducible refine ed_cons (fun K' hK' => ?_) | (with_reducible refine ev_id ?_; refine ev_guard rfl (fun K' hK' => ?_)) | (with_reducible refine ed_id ?_; refine ed_guard rfl (fun K' hK' => ?_))); simp [h20, h19, h18, h4, h13, h12, h11, h3, hjl, hO', hun, hu.1, hc0', hcl]; repeat' (first | (with_reducible refine hK' _ _ ?_; clear hK' K') | (with_reducible refine And.intro ?_ ?_) | (with_reducible intro hg) | (clear hK' K'; omega)))
          | (with_reducible refine w_cond (fun A B hA hB => ?_); simp [h20, h19, h18, h4, h13, h12, h11, h3, hjl, hO', hun, hu.1, hc0', hcl]; repeat' (first | (with_reducible refine hA ?_; clear hA hB A B) | (with_reducible refine hB ?_; clear hA hB A B) | (with_reducible refine And.intro ?_ ?_) | (with_reducible intro hc)))
          | (with_reducible refine awp_seq ?_))
        all_goals try omega
        rename_i q
        have hOq : O ≠ q := by rintro rfl; rw [hO'] at hg; cases hg
        have R1 := R.push (v := (i : Int)) hget (.inl ⟨rfl, hg⟩)
        rw [turnM_length, hpush] at R1
        simp [hOq]
        with_reducible refine hK' _ _ ?_
        clear hK' K'
        repeat' (first
          | (with_reducible refine awp_skip ?_)
          | (with_reducible refine then_any ?_)
          | (with_reducible refine then_ret ?_)
          | (with_reducible refine then_exit ?_)
          | (with_reducible refine inBlock_normal ?_)
          | (with_reducible refine inBlock_ret ?_)
          | (with_reducible refine inBlock_hit ?_)
          | (with_reducible refine inBlock_miss (by decide) ?_)
          | (with_reducible refine awp_ret ?_)
          | (with_reducible refine awp_exit ?_)
          | (with_reducible refine post_ret ?_)
          | (with_reducible refine post_normal ?_)
          | (with_reducible refine awp_block ?_)
          | (with_reducible refine v_reg [] (fun K hK => ?_))
          | (with_reducible refine v_reg1 [] (fun K hK => ?_))
          | (with_reducible refine v_draw mixed [] [] (by kernel_rfl) (fun K hK => ?_))
          | (with_reducible refine v_draw1 mixed [] [] (by kernel_rfl) (fun K hK => ?_))
          | (with_reducible refine ev_nil (hK _ _ ?_); clear hK K)
          | (with_reducible refine ed_nil (hK _ _ ?_); clear hK K)
          | ((first | with_reducible refine ev_cons (fun K' hK' => ?_) | with_reducible refine ed_cons (fun K' hK' => ?_) | (with_reducible refine ev_id ?_; refine ev_guard rfl (fun K' hK' => ?_)) | (with_reducible refine ed_id ?_; refine ed_guard rfl (fun K' hK' => ?_))); simp [h20, h19, h18, h4, h13, h12, h11, h3, hjl, hO', hun, hu.1, hcl, hOq]; repeat' (first | (with_reducible refine hK' _ _ ?_; clear hK' K') | (with_reducible refine And.intro ?_ ?_) | (with_reducible intro hg) | (clear hK' K'; omega)))
          | (with_reducible refine w_cond (fun A B hA hB => ?_); simp [h20, h19, h18, h4, h13, h12, h11, h3, hjl, hO', hun, hu.1, hcl, hOq]; repeat' (first | (with_reducible refine hA ?_; clear hA hB A B) | (with_reducible refine hB ?_; clear hA hB A B) | (with_reducible refine And.intro ?_ ?_) | (with_reducible intro hc)))
          | (with_reducible refine awp_seq ?_))
        all_goals try omega
        exact ⟨⟨j + 1, _, by omega, by simp, by simp [h19], by simp [h18], by simp [h4], by simp [h13], by simp [h12], by simp [h11], by simp [h3], by simpa [hOq] using R1⟩, by simp; omega⟩
      · have hOq : O ≠ q := fun e => hqO e.symm
        have R1 := R.push (v := (i : Int)) hget (.inr hcq)
        rw [turnM_length, hpush] at R1
        have hcq' : ∀ h : ws[j].toNat < cells.length, cells[ws[j].toNat]'h = .ref q 0 p.length p.length := fun h => (List.getElem?_eq_some_iff.1 hcq).2
        repeat' (first
          | (with_reducible refine awp_skip ?_)
          | (with_reducible refine then_any ?_)
          | (with_reducible refine then_ret ?_)
          | (with_reducible refine then_exit ?_)
          | (with_reducible refine inBlock_normal ?_)
          | (with_reducible refine inBlock_ret ?_)
          | (with_reducible refine inBlock_hit ?_)
          | (with_reducible refine inBlock_miss (by decide) ?_)
          | (with_reducible refine awp_ret ?_)
          | (with_reducible refine awp_exit ?_)
          | (with_reducible refine post_ret ?_)
          | (with_reducible refine post_normal ?_)
          | (with_reducible refine awp_block ?_)
          | (with_reducible refine v_reg [] (fun K hK => ?_))
          | (with_reducible refine v_reg1 [] (fun K hK => ?_))
          | (with_reducible refine v_draw mixed [] [] (by kernel_rfl) (fun K hK => ?_))
          | (with_reducible refine v_draw1 mixed [] [] (by kernel_rfl) (fun K hK => ?_))
          | (with_reducible refine ev_nil (hK _ _ ?_); clear hK K)
          | (with_reducible refine ed_nil (hK _ _ ?_); clear hK K)
          | ((first | with_reducible refine ev_cons (fun K' hK' => ?_) | with_reducible refine ed_cons (fun K' hK' => ?_) | (with_reducible refine ev_id ?_; refine ev_guard rfl (fun K' hK' => ?_)) | (with_reducible refine ed_id ?_; refine ed_guard rfl (fun K' hK' => ?_))); simp [h20, h19, h18, h4, h13, h12, h11, h3, hjl, hO', hun, hu.1, hcq', hcl, hq, hqO, hOq]; repeat' (first | (with_reducible refine hK' _ _ ?_; clear hK' K') | (with_reducible refine And.intro ?_ ?_) | (with_reducible intro hg) | (clear hK' K'; omega)))
          | (with_reducible refine w_cond (fun A B hA hB => ?_); simp [h20, h19, h18, h4, h13, h12, h11, h3, hjl, hO', hun, hu.1, hcq', hcl, hq, hqO, hOq]; repeat' (first | (with_reducible refine hA ?_; clear hA hB A B) | (with_reducible refine hB ?_; clear hA hB A B) | (with_reducible refine And.intro ?_ ?_) | (with_reducible intro hc)))
          | (with_reducible refine awp_seq ?_))
        all_goals try omega
        exact ⟨⟨j + 1, _, by omega, by simp, by simp [h19], by simp [h18], by simp [h4], by simp [h13], by simp [h12], by simp [h11], by simp [h3], by simpa [hOq] using R1⟩, by simp; omega⟩
    · have : j = ws.length := by omega
      subst this
      rw [List.take_length, hnx] at R
      repeat' (first
        | (with_reducible refine awp_skip ?_)
        | (with_reducible refine then_any ?_)
        | (with_reducible refine then_ret ?_)
        | (with_reducible refine then_exit ?_)
        | (with_reducible refine inBlock_normal ?_)
        | (with_reducible refine inBlock_ret ?_)
        | (with_reducible refine inBlock_hit ?_)
        | (with_reducible refine inBlock_miss (by decide) ?_)
        | (with_reducible refine awp_ret ?_)
        | (with_reducible refine awp_exit ?_)
        | (with_reducible refine post_ret ?_)
        | (with_reducible refine post_normal ?_)
        | (with_reducible refine awp_block ?_)
        | (with_reducible refine v_reg [] (fun K hK => ?_))
        | (with_reducible refine v_reg1 [] (fun K hK => ?_))
        | (with_reducible refine v_draw mixed [] [] (by kernel_rfl) (fun K hK => ?_))
        | (with_reducible refine v_draw1 mixed [] [] (by kernel_rfl) (fun K hK => ?_))
        | (with_reducible refine ev_nil (hK _ _ ?_); clear hK K)
        | (with_reducible refine ed_nil (hK _ _ ?_); clear hK K)
        | ((first | with_reducible refine ev_cons (fun K' hK' => ?_) | with_reducible refine ed_cons (fun K' hK' => ?_) | (with_reducible refine ev_id ?_; refine ev_guard rfl (fun K' hK' => ?_)) | (with_reducible refine ed_id ?_; refine ed_guard rfl (fun K' hK' => ?_))); simp [h20, h19, h18, h13]; repeat' (first | (with_reducible refine hK' _ _ ?_; clear hK' K') | (with_reducible refine And.intro ?_ ?_) | (with_reducible intro hg) | (clear hK' K'; omega)))
        | (with_reducible refine w_cond (fun A B hA hB => ?_); simp [h20, h19, h18, h13]; repeat' (first | (with_reducible refine hA ?_; clear hA hB A B) | (with_reducible refine hB ?_; clear hA hB A B) | (with_reducible refine And.intro ?_ ?_) | (with_reducible intro hc)))
        | (with_reducible refine awp_seq ?_))
      all_goals try omega
      exact ⟨⟨i + 1, cells, by omega, by simp [h13], by simp [h12], by simp [h11], by simp [h3], R⟩, by simp [h13]; omega⟩
  · have : i = adj.length := by omega
    subst this
    rw [turnM_all] at R
    have htl := turn_length adj
    rw [← htl] at h3
    refine awp_rows 3 R h3 fun env' he he2 => ?_
    have g13 : env' 13 = I adj.length := by rw [he2 _ (by decide), h13]
    have g12 : env' 12 = I adj.length := by rw [he2 _ (by decide), h12]
    repeat' (first
      | (with_reducible refine awp_skip ?_)
      | (with_reducible refine then_any ?_)
      | (with_reducible refine then_ret ?_)
      | (with_reducible refine then_exit ?_)
      | (with_reducible refine inBlock_normal ?_)
      | (with_reducible refine inBlock_ret ?_)
      | (with_reducible refine inBlock_hit ?_)
      | (with_reducible refine inBlock_miss (by decide) ?_)
      | (with_reducible refine awp_ret ?_)
      | (with_reducible refine awp_exit ?_)
      | (with_reducible refine post_ret ?_)
      | (with_reducible refine post_normal ?_)
      | (with_reducible refine awp_block ?_)
      | (with_reducible refine v_reg [] (fun K hK => ?_))
      | (with_reducible refine v_reg1 [] (fun K hK => ?_))
      | (with_reducible refine v_draw mixed [] [] (by kernel_rfl) (fun K hK => ?_))
      | (with_reducible refine v_draw1 mixed [] [] (by kernel_rfl) (fun K hK => ?_))
      | (with_reducible refine ev_nil (hK _ _ ?_); clear hK K)
      | (with_reducible refine ed_nil (hK _ _ ?_); clear hK K)
      | ((first | with_reducible refine ev_cons (fun K' hK' => ?_) | with_reducible refine ed_cons (fun K' hK' => ?_) | (with_reducible refine ev_id ?_; refine ev_guard rfl (fun K' hK' => ?_)) | (with_reducible refine ed_id ?_; refine ed_guard rfl (fun K' hK' => ?_))); simp [g13, g12, he]; repeat' (first | (with_reducible refine hK' _ _ ?_; clear hK' K') | (with_reducible refine And.intro ?_ ?_) | (with_reducible intro hg) | (clear hK' K'; omega)))
      | (with_reducible refine w_cond (fun A B hA hB => ?_); simp [g13, g12, he]; repeat' (first | (with_reducible refine hA ?_; clear hA hB A B) | (with_reducible refine hB ?_; clear hA hB A B) | (with_reducible refine And.intro ?_ ?_) | (with_reducible intro hc)))
      | (with_reducible refine awp_seq ?_))
    simp

/-- A predicate of numbers: its contract at a heap. -/
abbrev PredI (w0 : World) (f : FuncId) (caps : List AV) (l : List Int) (p : Int → Bool) (H : Heap) : Prop := ∀ x ∈ l, RetAt Try.prog w0 f (I x :: caps) (B (p x)) H

theorem indexInts_at {l : List Int} {f : FuncId} {caps : List AV} {p : Int → Bool} {H : Heap} (hl : okLen l) (hp : PredI w0 f caps l p H) :
    RetAt Try.prog w0 73 [ints l, .clo f [] caps] (I (idxI p l)) H := by
  refine .of ?_
  refine w_enter Try.func73 rfl Try.ntmps73 (ts := [4]) rfl (by simp) (by kernel_rfl) ?_
  repeat' (first
    | (with_reducible refine awp_skip ?_)
    | (with_reducible refine then_any ?_)
    | (with_reducible refine then_ret ?_)
    | (with_reducible refine then_exit ?_)
    | (with_reducible refine inBlock_normal ?_)
    | (with_reducible refine inBlock_ret ?_)
    | (with_reducible refine inBlock_hit ?_)
    | (with_reducible refine inBlock_miss (by decide) ?_)
    | (with_reducible refine awp_ret ?_)
    | (with_reducible refine awp_exit ?_)
    | (with_reducible refine post_ret ?_)
    | (with_reducible refine post_normal ?_)
    | (with_reducible refine awp_block ?_)
    | (with_reducible refine v_reg [] (fun K hK => ?_))
    | (with_reducible refine v_reg1 [] (fun K hK => ?_))
    | (with_reducible refine v_draw mixed [] [] (by kernel_rfl) (fun K hK => ?_))
    | (with_reducible refine v_draw1 mixed [] [] (by kernel_rfl) (fun K hK => ?_))
    | (with_reducible refine ev_nil (hK _ _ ?_); clear hK K)
    | (with_reducible refine ed_nil (hK _ _ ?_); clear hK K)
    | ((first | with_reducible refine ev_cons (fun K' hK' => ?_) | with_reducible refine ed_cons (fun K' hK' => ?_) | (with_reducible refine ev_id ?_; refine ev_guard rfl (fun K' hK' => ?_)) | (with_reducible refine ed_id ?_; refine ed_guard rfl (fun K' hK' => ?_))); simp [ints]; repeat' (first | (with_reducible refine hK' _ _ ?_; clear hK' K') | (with_reducible refine And.intro ?_ ?_) | (with_reducible intro hg) | (clear hK' K'; omega)))
    | (with_reducible refine w_cond (fun A B hA hB => ?_); simp [ints]; repeat' (first | (with_reducible refine hA ?_; clear hA hB A B) | (with_reducible refine hB ?_; clear hA hB A B) | (with_reducible refine And.intro ?_ ?_) | (with_reducible intro hc)))
    | (with_reducible refine awp_seq ?_))
  refine awp_loop (fun env h => ∃ k : Nat, k ≤ l.length ∧ env 8 = I k ∧ env 7 = I l.length ∧ env 0 = ints l ∧ env 1 = .clo f [] caps ∧ (∀ x ∈ l.take k, p x = false) ∧ h = H) (fun env _ => l.length - natA (env 8)) ?_ ?_
  · exact ⟨0, by omega, by simp, by simp, by simp [ints], by simp, by simp, rfl⟩
  rintro env h ⟨k, hk, h8, h7, h0, h1, ht, rfl⟩
  have hnat : natA (env 8) = k := by simp [h8]
  rw [hnat]; clear hnat
  by_cases hlt : k < l.length
  · have hpk := hp l[k] (List.getElem_mem _)
    cases hb : p l[k] with
    | true =>
      have := idxI_take hlt ht hb
      repeat' (first
        | (with_reducible refine awp_skip ?_)
        | (with_reducible refine then_any ?_)
        | (with_reducible refine then_ret ?_)
        | (with_reducible refine then_exit ?_)
        | (with_reducible refine inBlock_normal ?_)
        | (with_reducible refine inBlock_ret ?_)
        | (with_reducible refine inBlock_hit ?_)
        | (with_reducible refine inBlock_miss (by decide) ?_)
        | (with_reducible refine awp_ret ?_)
        | (with_reducible refine awp_exit ?_)
        | (with_reducible refine post_ret ?_)
        | (with_reducible refine post_normal ?_)
        | (with_reducible refine awp_block ?_)
        | (with_reducible refine v_reg [] (fun K hK => ?_))
        | (with_reducible refine v_reg1 [] (fun K hK => ?_))
        | (with_reducible refine v_draw mixed [] [] (by kernel_rfl) (fun K hK => ?_))
        | (with_reducible refine v_draw1 mixed [] [] (by kernel_rfl) (fun K hK => ?_))
        | (with_reducible refine ev_nil (hK _ _ ?_); clear hK K)
        | (with_reducible refine ed_nil (hK _ _ ?_); clear hK K)
        | ((first | with_reducible refine ev_cons (fun K' hK' => ?_) | with_reducible refine ed_cons (fun K' hK' => ?_) | (with_reducible refine ev_id ?_; refine ev_guard rfl (fun K' hK' => ?_)) | (with_reducible refine ed_id ?_; refine ed_guard rfl (fun K' hK' => ?_))); simp [h8, h7, h0, h1, ints, hlt]; repeat' (first | (with_reducible refine hK' _ _ ?_; clear hK' K') | ((with_reducible refine RetAt.use hpk ?_; simp only [hb]); try simp [h8, h7, h0, h1, ints, hlt]) | (with_reducible refine And.intro ?_ ?_) | (with_reducible intro hg) | (clear hK' K'; omega)))
        | (with_reducible refine w_cond (fun A B hA hB => ?_); simp [h8, h7, h0, h1, ints, hlt]; repeat' (first | (with_reducible refine hA ?_; clear hA hB A B) | (with_reducible refine hB ?_; clear hA hB A B) | (with_reducible refine And.intro ?_ ?_) | (with_reducible intro hc)))
        | (with_reducible refine awp_seq ?_))
      simp [this]
    | false =>
      repeat' (first
        | (with_reducible refine awp_skip ?_)
        | (with_reducible refine then_any ?_)
        | (with_reducible refine then_ret ?_)
        | (with_reducible refine then_exit ?_)
        | (with_reducible refine inBlock_normal ?_)
        | (with_reducible refine inBlock_ret ?_)
        | (with_reducible refine inBlock_hit ?_)
        | (with_reducible refine inBlock_miss (by decide) ?_)
        | (with_reducible refine awp_ret ?_)
        | (with_reducible refine awp_exit ?_)
        | (with_reducible refine post_ret ?_)
        | (with_reducible refine post_normal ?_)
        | (with_reducible refine awp_block ?_)
        | (with_reducible refine v_reg [] (fun K hK => ?_))
        | (with_reducible refine v_reg1 [] (fun K hK => ?_))
        | (with_reducible refine v_draw mixed [] [] (by kernel_rfl) (fun K hK => ?_))
        | (with_reducible refine v_draw1 mixed [] [] (by kernel_rfl) (fun K hK => ?_))
        | (with_reducible refine ev_nil (hK _ _ ?_); clear hK K)
        | (with_reducible refine ed_nil (hK _ _ ?_); clear hK K)
        | ((first | with_reducible refine ev_cons (fun K' hK' => ?_) | with_reducible refine ed_cons (fun K' hK' => ?_) | (with_reducible refine ev_id ?_; refine ev_guard rfl (fun K' hK' => ?_)) | (with_reducible refine ed_id ?_; refine ed_guard rfl (fun K' hK' => ?_))); simp [h8, h7, h0, h1, ints, hlt]; repeat' (first | (with_reducible refine hK' _ _ ?_; clear hK' K') | ((with_reducible refine RetAt.use hpk ?_; simp only [hb]); try simp [h8, h7, h0, h1, ints, hlt]) | (with_reducible refine And.intro ?_ ?_) | (with_reducible intro hg) | (clear hK' K'; omega)))
        | (with_reducible refine w_cond (fun A B hA hB => ?_); simp [h8, h7, h0, h1, ints, hlt]; repeat' (first | (with_reducible refine hA ?_; clear hA hB A B) | (with_reducible refine hB ?_; clear hA hB A B) | (with_reducible refine And.intro ?_ ?_) | (with_reducible intro hc)))
        | (with_reducible refine awp_seq ?_))
      refine ⟨⟨k + 1, by omega, by simp, by simp [h7], by simp [h0], by simp [h1], fun x hx => ?_, rfl⟩, by simp; omega⟩
      rw [List.take_succ_eq_append_getElem hlt, List.mem_append, List.mem_singleton] at hx
      rcases hx with hx | rfl
      · exact ht x hx
      · exact hb
  · have : k = l.length := by omega
    subst this
    rw [List.take_length] at ht
    have := idxI_none ht
    repeat' (first
      | (with_reducible refine awp_skip ?_)
      | (with_reducible refine then_any ?_)
      | (with_reducible refine then_ret ?_)
      | (with_reducible refine then_exit ?_)
      | (with_reducible refine inBlock_normal ?_)
      | (with_reducible refine inBlock_ret ?_)
      | (with_reducible refine inBlock_hit ?_)
      | (with_reducible refine inBlock_miss (by decide) ?_)
      | (with_reducible refine awp_ret ?_)
      | (with_reducible refine awp_exit ?_)
      | (with_reducible refine post_ret ?_)
      | (with_reducible refine post_normal ?_)
      | (with_reducible refine awp_block ?_)
      | (with_reducible refine v_reg [] (fun K hK => ?_))
      | (with_reducible refine v_reg1 [] (fun K hK => ?_))
      | (with_reducible refine v_draw mixed [] [] (by kernel_rfl) (fun K hK => ?_))
      | (with_reducible refine v_draw1 mixed [] [] (by kernel_rfl) (fun K hK => ?_))
      | (with_reducible refine ev_nil (hK _ _ ?_); clear hK K)
      | (with_reducible refine ed_nil (hK _ _ ?_); clear hK K)
      | ((first | with_reducible refine ev_cons (fun K' hK' => ?_) | with_reducible refine ed_cons (fun K' hK' => ?_) | (with_reducible refine ev_id ?_; refine ev_guard rfl (fun K' hK' => ?_)) | (with_reducible refine ed_id ?_; refine ed_guard rfl (fun K' hK' => ?_))); simp [h8, h7, h0, h1, ints]; repeat' (first | (with_reducible refine hK' _ _ ?_; clear hK' K') | (with_reducible refine And.intro ?_ ?_) | (with_reducible intro hg) | (clear hK' K'; omega)))
      | (with_reducible refine w_cond (fun A B hA hB => ?_); simp [h8, h7, h0, h1, ints]; repeat' (first | (with_reducible refine hA ?_; clear hA hB A B) | (with_reducible refine hB ?_; clear hA hB A B) | (with_reducible refine And.intro ?_ ?_) | (with_reducible intro hc)))
      | (with_reducible refine awp_seq ?_))
    simp [this]

theorem path1_at {n : Nat} {d : Int → Int} {u v : Int} {H : Heap} {r s : Nat} (hr : H r = some (.box [.sl (labI n d) n])) (hs : H s = some (.box [I v])) (hu : 0 ≤ u ∧ u < n) (hv : 0 ≤ v ∧ v < n) (hd : -1 ≤ d v ∧ d v ≤ 1000000) :
    RetAt Try.prog w0 74 [I u, .ptr r 0 0, .ptr s 0 0] (B (decide (d u = d v - 1))) H := by
  refine .of ?_
  have hlab := labI_length n d
  have h1 : ∀ h : u.toNat < (labI n d).length, (labI n d)[u.toNat]'h = I (d u) := fun h => labI_at hu.1 h
  have h2 : ∀ h : v.toNat < (labI n d).length, (labI n d)[v.toNat]'h = I (d v) := fun h => labI_at hv.1 h
  have h3 : u.toNat < n := by omega
  have h4 : v.toNat < n := by omega
  refine w_enter Try.func74 rfl Try.ntmps74 (ts := [4]) rfl (by simp) (by kernel_rfl) ?_
  repeat' (first
    | (with_reducible refine awp_skip ?_)
    | (with_reducible refine then_any ?_)
    | (with_reducible refine then_ret ?_)
    | (with_reducible refine then_exit ?_)
    | (with_reducible refine inBlock_normal ?_)
    | (with_reducible refine inBlock_ret ?_)
    | (with_reducible refine inBlock_hit ?_)
    | (with_reducible refine inBlock_miss (by decide) ?_)
    | (with_reducible refine awp_ret ?_)
    | (with_reducible refine awp_exit ?_)
    | (with_reducible refine post_ret ?_)
    | (with_reducible refine post_normal ?_)
    | (with_reducible refine awp_block ?_)
    | (with_reducible refine v_reg [] (fun K hK => ?_))
    | (with_reducible refine v_reg1 [] (fun K hK => ?_))
    | (with_reducible refine v_draw mixed [] [] (by kernel_rfl) (fun K hK => ?_))
    | (with_reducible refine v_draw1 mixed [] [] (by kernel_rfl) (fun K hK => ?_))
    | (with_reducible refine ev_nil (hK _ _ ?_); clear hK K)
    | (with_reducible refine ed_nil (hK _ _ ?_); clear hK K)
    | ((first | with_reducible refine ev_cons (fun K' hK' => ?_) | with_reducible refine ed_cons (fun K' hK' => ?_) | (with_reducible refine ev_id ?_; refine ev_guard rfl (fun K' hK' => ?_)) | (with_reducible refine ed_id ?_; refine ed_guard rfl (fun K' hK' => ?_))); simp [hr, hs, hlab, h1, h2, h3, h4, hu.1, hv.1]; repeat' (first | (with_reducible refine hK' _ _ ?_; clear hK' K') | (with_reducible refine And.intro ?_ ?_) | (with_reducible intro hg) | (clear hK' K'; omega)))
    | (with_reducible refine w_cond (fun A B hA hB => ?_); simp [hr, hs, hlab, h1, h2, h3, h4, hu.1, hv.1]; repeat' (first | (with_reducible refine hA ?_; clear hA hB A B) | (with_reducible refine hB ?_; clear hA hB A B) | (with_reducible refine And.intro ?_ ?_) | (with_reducible intro hc)))
    | (with_reducible refine awp_seq ?_))
  all_goals first | omega | simp

theorem idx_next {d : Int → Int} {l : List Int} {k : Int} (h : ∃ u ∈ l, d u = k) : ∃ (i : Nat) (hi : i < l.length), idxI (fun u => decide (d u = k)) l = i ∧ l[i] = nextL d l k := by
  unfold idxI nextL
  cases hf : l.findIdx? fun u => decide (d u = k) with
  | none =>
    rw [List.findIdx?_eq_none_iff] at hf
    obtain ⟨u, hu, e⟩ := h
    have := hf u hu
    simp [e] at this
  | some i =>
    have hf' := hf
    rw [List.findIdx?_eq_some_iff_getElem] at hf'
    obtain ⟨hi, hp, hb⟩ := hf'
    refine ⟨i, hi, rfl, ?_⟩
    have : l.find? (fun u => decide (d u = k)) = some l[i] := by
      rw [List.find?_eq_some_iff_getElem]
      exact ⟨hp, i, hi, rfl, fun j hj => by simpa using hb j hj⟩
    rw [this]; rfl

/-- The blocks of the walk along a way. -/
def ph (H : Heap) (b s r : Nat) (left : AV) (v : Int) (o : List Int) : Heap := upd (upd (upd H b (some (.box [left]))) r (some (.arr 1 3 (o.map I) o.length))) s (some (.box [I v]))

section
variable {H : Heap} {b s r : Nat} {left : AV} {v : Int} {o : List Int}
theorem ph_b (h1 : b ≠ r) (h2 : b ≠ s) : ph H b s r left v o b = some (.box [left]) := by simp [ph, h1, h2]
theorem ph_r (h : r ≠ s) : ph H b s r left v o r = some (.arr 1 3 (o.map I) o.length) := by simp [ph, h]
theorem ph_s : ph H b s r left v o s = some (.box [I v]) := by simp [ph]
theorem ph_set {x : Int} : upd (ph H b s r left v o) s (some (.box [I x])) = ph H b s r left x o := by simp [ph]
theorem ph_none {q : Nat} (h : ph H b s r left v o q = none) : q ≠ b ∧ q ≠ s ∧ q ≠ r ∧ H q = none := by
  unfold ph at h
  by_cases e1 : q = s
  · subst e1; simp [upd_same] at h
  · rw [upd_ne _ _ _ e1] at h
    by_cases e2 : q = r
    · subst e2; simp [upd_same] at h
    · rw [upd_ne _ _ _ e2] at h
      by_cases e3 : q = b
      · subst e3; simp [upd_same] at h
      · rw [upd_ne _ _ _ e3] at h; exact ⟨e3, e1, e2, h⟩
theorem ph_step {q : Nat} {o' : List Int} {x : Int} (hs : H s = none) (hq : q ≠ b ∧ q ≠ s ∧ q ≠ r) (hbr : b ≠ r) (hbs : b ≠ s) (hrs : r ≠ s) :
    Sub (ph H b q r left x o') (upd (upd (ph H b s r left v o) q (some (.box [I x]))) r (some (.arr 1 3 (o'.map I) o'.length))) := by
  intro z k hz
  unfold ph at hz ⊢
  by_cases e1 : z = r
  · subst e1
    rw [upd_ne _ _ _ (fun e => hq.2.2 e.symm), upd_same] at hz
    rw [upd_same]; exact hz
  · rw [upd_ne _ _ _ e1]
    by_cases e2 : z = q
    · subst e2; rw [upd_same] at hz ⊢; exact hz
    · rw [upd_ne _ _ _ e2, upd_ne _ _ _ e1] at hz
      rw [upd_ne _ _ _ e2]
      have e3 : z ≠ s := by
        rintro rfl
        rw [upd_ne _ _ _ (fun e => hbs e.symm), hs] at hz
        cases hz
      rw [upd_ne _ _ _ e3, upd_ne _ _ _ e1]; exact hz
theorem ph_sub (hb : H b = none) (hr : H r = none) (hs : H s = none) : Sub H (ph H b s r left v o) := (((Sub.refl H).upd hb _).upd hr _).upd hs _
end

theorem path_reach_ret {adj : List (List Int)} {fr to : List Int} (ha : okLen adj) (hin : ∀ p ∈ adj, okLen p) (hf : okLen fr) (ht : okLen to) :
    Ret Try.prog w0 39 [rows adj, ints fr, ints to] (.tup [ints (pathA adj fr to).1, B (pathA adj fr to).2]) := by
  intro H
  refine w_enter Try.func39 rfl Try.ntmps39 (ts := [6, 7]) rfl (by simp) (by kernel_rfl) ?_
  cases hm : mayG adj with
  | false =>
    repeat' (first
      | (with_reducible refine awp_skip ?_)
      | (with_reducible refine then_any ?_)
      | (with_reducible refine then_ret ?_)
      | (with_reducible refine then_exit ?_)
      | (with_reducible refine inBlock_normal ?_)
      | (with_reducible refine inBlock_ret ?_)
      | (with_reducible refine inBlock_hit ?_)
      | (with_reducible refine inBlock_miss (by decide) ?_)
      | (with_reducible refine awp_ret ?_)
      | (with_reducible refine awp_exit ?_)
      | (with_reducible refine post_ret ?_)
      | (with_reducible refine post_normal ?_)
      | (with_reducible refine awp_block ?_)
      | (with_reducible refine v_reg [] (fun K hK => ?_))
      | (with_reducible refine v_reg1 [] (fun K hK => ?_))
      | (with_reducible refine v_draw mixed [] [] (by kernel_rfl) (fun K hK => ?_))
      | (with_reducible refine v_draw1 mixed [] [] (by kernel_rfl) (fun K hK => ?_))
      | (with_reducible refine ev_nil (hK _ _ ?_); clear hK K)
      | (with_reducible refine ed_nil (hK _ _ ?_); clear hK K)
      | ((first | with_reducible refine ev_cons (fun K' hK' => ?_) | with_reducible refine ed_cons (fun K' hK' => ?_) | (with_reducible refine ev_id ?_; refine ev_guard rfl (fun K' hK' => ?_)) | (with_reducible refine ed_id ?_; refine ed_guard rfl (fun K' hK' => ?_))); simp [rows, ints, hm]; repeat' (first | (with_reducible refine hK' _ _ ?_; clear hK' K') | (with_reducible refine Ret.use (reachMay_ret ha hin) ?_; try simp [rows, ints, hm]) | (with_reducible refine And.intro ?_ ?_) | (with_reducible intro hg) | (clear hK' K'; omega)))
      | (with_reducible refine w_cond (fun A B hA hB => ?_); simp [rows, ints, hm]; repeat' (first | (with_reducible refine hA ?_; clear hA hB A B) | (with_reducible refine hB ?_; clear hA hB A B) | (with_reducible refine And.intro ?_ ?_) | (with_reducible intro hc)))
      | (with_reducible refine awp_seq ?_))
    simp [pathA, hm]
  | true =>
  cases hb : ptsB fr adj.length with
  | false =>
    repeat' (first
      | (with_reducible refine awp_skip ?_)
      | (with_reducible refine then_any ?_)
      | (with_reducible refine then_ret ?_)
      | (with_reducible refine then_exit ?_)
      | (with_reducible refine inBlock_normal ?_)
      | (with_reducible refine inBlock_ret ?_)
      | (with_reducible refine inBlock_hit ?_)
      | (with_reducible refine inBlock_miss (by decide) ?_)
      | (with_reducible refine awp_ret ?_)
      | (with_reducible refine awp_exit ?_)
      | (with_reducible refine post_ret ?_)
      | (with_reducible refine post_normal ?_)
      | (with_reducible refine awp_block ?_)
      | (with_reducible refine v_reg [] (fun K hK => ?_))
      | (with_reducible refine v_reg1 [] (fun K hK => ?_))
      | (with_reducible refine v_draw mixed [] [] (by kernel_rfl) (fun K hK => ?_))
      | (with_reducible refine v_draw1 mixed [] [] (by kernel_rfl) (fun K hK => ?_))
      | (with_reducible refine ev_nil (hK _ _ ?_); clear hK K)
      | (with_reducible refine ed_nil (hK _ _ ?_); clear hK K)
      | ((first | with_reducible refine ev_cons (fun K' hK' => ?_) | with_reducible refine ed_cons (fun K' hK' => ?_) | (with_reducible refine ev_id ?_; refine ev_guard rfl (fun K' hK' => ?_)) | (with_reducible refine ed_id ?_; refine ed_guard rfl (fun K' hK' => ?_))); simp [rows, ints, hm, hb]; repeat' (first | (with_reducible refine hK' _ _ ?_; clear hK' K') | (with_reducible refine Ret.use (reachMay_ret ha hin) ?_; try simp [rows, ints, hm, hb]) | (with_reducible refine Ret.use (points_ret hf) ?_; try simp [rows, ints, hm, hb]) | (with_reducible refine And.intro ?_ ?_) | (with_reducible intro hg) | (clear hK' K'; omega)))
      | (with_reducible refine w_cond (fun A B hA hB => ?_); simp [rows, ints, hm, hb]; repeat' (first | (with_reducible refine hA ?_; clear hA hB A B) | (with_reducible refine hB ?_; clear hA hB A B) | (with_reducible refine And.intro ?_ ?_) | (with_reducible intro hc)))
      | (with_reducible refine awp_seq ?_))
    simp [pathA, hm, hb]
  | true =>
  cases hc : ptsB to adj.length with
  | false =>
    repeat' (first
      | (with_reducible refine awp_skip ?_)
      | (with_reducible refine then_any ?_)
      | (with_reducible refine then_ret ?_)
      | (with_reducible refine then_exit ?_)
      | (with_reducible refine inBlock_normal ?_)
      | (with_reducible refine inBlock_ret ?_)
      | (with_reducible refine inBlock_hit ?_)
      | (with_reducible refine inBlock_miss (by decide) ?_)
      | (with_reducible refine awp_ret ?_)
      | (with_reducible refine awp_exit ?_)
      | (with_reducible refine post_ret ?_)
      | (with_reducible refine post_normal ?_)
      | (with_reducible refine awp_block ?_)
      | (with_reducible refine v_reg [] (fun K hK => ?_))
      | (with_reducible refine v_reg1 [] (fun K hK => ?_))
      | (with_reducible refine v_draw mixed [] [] (by kernel_rfl) (fun K hK => ?_))
      | (with_reducible refine v_draw1 mixed [] [] (by kernel_rfl) (fun K hK => ?_))
      | (with_reducible refine ev_nil (hK _ _ ?_); clear hK K)
      | (with_reducible refine ed_nil (hK _ _ ?_); clear hK K)
      | ((first | with_reducible refine ev_cons (fun K' hK' => ?_) | with_reducible refine ed_cons (fun K' hK' => ?_) | (with_reducible refine ev_id ?_; refine ev_guard rfl (fun K' hK' => ?_)) | (with_reducible refine ed_id ?_; refine ed_guard rfl (fun K' hK' => ?_))); simp [rows, ints, hm, hb, hc]; repeat' (first | (with_reducible refine hK' _ _ ?_; clear hK' K') | (with_reducible refine Ret.use (reachMay_ret ha hin) ?_; try simp [rows, ints, hm, hb, hc]) | (with_reducible refine Ret.use (points_ret hf) ?_; try simp [rows, ints, hm, hb, hc]) | (with_reducible refine Ret.use (points_ret ht) ?_; try simp [rows, ints, hm, hb, hc]) | (with_reducible refine And.intro ?_ ?_) | (with_reducible intro hg) | (clear hK' K'; omega)))
      | (with_reducible refine w_cond (fun A B hA hB => ?_); simp [rows, ints, hm, hb, hc]; repeat' (first | (with_reducible refine hA ?_; clear hA hB A B) | (with_reducible refine hB ?_; clear hA hB A B) | (with_reducible refine And.intro ?_ ?_) | (with_reducible intro hc)))
      | (with_reducible refine awp_seq ?_))
    simp [pathA, hm, hb, hc]
  | true =>
  have hG := gr_iff.1 hm
  have hp := pts_iff.1 hb
  have hpt := pts_iff.1 hc
  have hlen := hG.len
  have htl := turn_length adj
  have hfl := hp.length
  have hpa : pathA adj fr to = pathL adj fr to := by simp [pathA, hm, hb, hc]
  have hsp := leastL_spec (d := distL (turnL adj) to) (fun x hx => (hp.lt x hx).1)
  have hln := fun {v k} hv hd => least_next hG hpt (v := v) (k := k) hv hd
  have hnx := fun {v} hv h0 => dt_next hG hpt (v := v) hv h0
  have hbd := dt_bound hG hpt
  simp only [pathL] at hpa
  have hfar := far_ret (w0 := w0) (turn_gr hG) (pts_turn hpt)
  rw [htl] at hfar
  generalize hd : distL (turnL adj) to = d at *
  repeat' (first
    | (with_reducible refine awp_skip ?_)
    | (with_reducible refine then_any ?_)
    | (with_reducible refine then_ret ?_)
    | (with_reducible refine then_exit ?_)
    | (with_reducible refine inBlock_normal ?_)
    | (with_reducible refine inBlock_ret ?_)
    | (with_reducible refine inBlock_hit ?_)
    | (with_reducible refine inBlock_miss (by decide) ?_)
    | (with_reducible refine awp_ret ?_)
    | (with_reducible refine awp_exit ?_)
    | (with_reducible refine post_ret ?_)
    | (with_reducible refine post_normal ?_)
    | (with_reducible refine awp_block ?_)
    | (with_reducible refine v_reg [] (fun K hK => ?_))
    | (with_reducible refine v_reg1 [] (fun K hK => ?_))
    | (with_reducible refine v_draw mixed [] [] (by kernel_rfl) (fun K hK => ?_))
    | (with_reducible refine v_draw1 mixed [] [] (by kernel_rfl) (fun K hK => ?_))
    | (with_reducible refine ev_nil (hK _ _ ?_); clear hK K)
    | (with_reducible refine ed_nil (hK _ _ ?_); clear hK K)
    | ((first | with_reducible refine ev_cons (fun K' hK' => ?_) | with_reducible refine ed_cons (fun K' hK' => ?_) | (with_reducible refine ev_id ?_; refine ev_guard rfl (fun K' hK' => ?_)) | (with_reducible refine ed_id ?_; refine ed_guard rfl (fun K' hK' => ?_))); simp [rows, ints, hm, hb, hc]; repeat' (first | (with_reducible refine hK' _ _ ?_; clear hK' K') | (with_reducible refine Ret.use (reachMay_ret ha hin) ?_; try simp [rows, ints, hm, hb, hc]) | (with_reducible refine Ret.use (points_ret hf) ?_; try simp [rows, ints, hm, hb, hc]) | (with_reducible refine Ret.use (points_ret ht) ?_; try simp [rows, ints, hm, hb, hc]) | (with_reducible refine Ret.use (turned_ret hG) ?_; try simp [rows, ints, hm, hb, hc]) | (with_reducible refine Ret.use hfar ?_; try simp [rows, ints, hm, hb, hc]) | (with_reducible refine And.intro ?_ ?_) | (with_reducible intro hg) | (clear hK' K'; omega)))
    | (with_reducible refine w_cond (fun A B hA hB => ?_); simp [rows, ints, hm, hb, hc]; repeat' (first | (with_reducible refine hA ?_; clear hA hB A B) | (with_reducible refine hB ?_; clear hA hB A B) | (with_reducible refine And.intro ?_ ?_) | (with_reducible intro hc)))
    | (with_reducible refine awp_seq ?_))
  rename_i b
  have hb0 : H b = none := hg
  clear hg
  have hlab := labI_length adj.length d
  have hat : ∀ x : Int, 0 ≤ x → ∀ h : x.toNat < (labI adj.length d).length, (labI adj.length d)[x.toNat]'h = I (d x) := fun x h0 h => labI_at h0 h
  have hmem : ∀ k, k ≤ fr.length → leastL d (fr.take k) = -1 ∨ leastL d (fr.take k) ∈ fr := by
    intro k
    induction k with
    | zero => intro _; exact .inl (by simp [leastL])
    | succ k ih =>
      intro hk
      rw [leastL_take (by omega)]
      split
      · exact .inr (List.getElem_mem _)
      · exact ih (by omega)
  refine awp_loop (fun env h => ∃ k : Nat, k ≤ fr.length ∧ env 38 = I k ∧ env 37 = I fr.length ∧ env 36 = ints fr ∧ env 9 = I (leastL d (fr.take k)) ∧ env 8 = .ptr b 0 0 ∧ env 0 = rows adj ∧ h = upd H b (some (.box [.sl (labI adj.length d) adj.length]))) (fun env _ => fr.length - natA (env 38)) ?_ ?_
  · exact ⟨0, by omega, by simp, by simp, by simp [ints], by simp [leastL], by simp, by simp [rows], by simp⟩
  rintro env h ⟨k, hk, h38, h37, h36, h9, h8, h0, rfl⟩
  have hnat : natA (env 38) = k := by simp [h38]
  rw [hnat]; clear hnat
  by_cases hlt : k < fr.length
  · have hx := hp.lt fr[k] (List.getElem_mem _)
    have hxn : fr[k].toNat < adj.length := by omega
    have hax := hat fr[k] hx.1
    have htk := leastL_take (d := d) hlt
    have hmk := hmem k hk
    have hbx := hbd fr[k]
    generalize leastL d (fr.take k) = best at *
    by_cases hd0 : d fr[k] = -1
    · rw [if_neg (fun h => by omega)] at htk
      repeat' (first
        | (with_reducible refine awp_skip ?_)
        | (with_reducible refine then_any ?_)
        | (with_reducible refine then_ret ?_)
        | (with_reducible refine then_exit ?_)
        | (with_reducible refine inBlock_normal ?_)
        | (with_reducible refine inBlock_ret ?_)
        | (with_reducible refine inBlock_hit ?_)
        | (with_reducible refine inBlock_miss (by decide) ?_)
        | (with_reducible refine awp_ret ?_)
        | (with_reducible refine awp_exit ?_)
        | (with_reducible refine post_ret ?_)
        | (with_reducible refine post_normal ?_)
        | (with_reducible refine awp_block ?_)
        | (with_reducible refine v_reg [] (fun K hK => ?_))
        | (with_reducible refine v_reg1 [] (fun K hK => ?_))
        | (with_reducible refine v_draw mixed [] [] (by kernel_rfl) (fun K hK => ?_))
        | (with_reducible refine v_draw1 mixed [] [] (by kernel_rfl) (fun K hK => ?_))
        | (with_reducible refine ev_nil (hK _ _ ?_); clear hK K)
        | (with_reducible refine ed_nil (hK _ _ ?_); clear hK K)
        | ((first | with_reducible refine ev_cons (fun K' hK' => ?_) | with_reducible refine ed_cons (fun K' hK' => ?_) | (with_reducible refine ev_id ?_; refine ev_guard rfl (fun K' hK' => ?_)) | (with_reducible refine ed_id ?_; refine ed_guard rfl (fun K' hK' => ?_))); simp [h38, h37, h36, h9, h8, h0, rows, ints, hlt, hlab, hxn, hx.1, hax, hd0]; repeat' (first | (with_reducible refine hK' _ _ ?_; clear hK' K') | (with_reducible refine And.intro ?_ ?_) | (with_reducible intro hg) | (clear hK' K'; omega)))
        | (with_reducible refine w_cond (fun A B hA hB => ?_); simp [h38, h37, h36, h9, h8, h0, rows, ints, hlt, hlab, hxn, hx.1, hax, hd0]; repeat' (first | (with_reducible refine hA ?_; clear hA hB A B) | (with_reducible refine hB ?_; clear hA hB A B) | (with_reducible refine And.intro ?_ ?_) | (with_reducible intro hc)))
        | (with_reducible refine awp_seq ?_))
      exact ⟨⟨k + 1, by omega, by simp, by simp [h37], by simp [h36], by rw [htk]; simp [h9], by simp [h8], by simp [h0], rfl⟩, by simp; omega⟩
    · by_cases hbe : best = -1
      · rw [if_pos ⟨by omega, .inl (by omega)⟩] at htk
        repeat' (first
          | (with_reducible refine awp_skip ?_)
          | (with_reducible refine then_any ?_)
          | (with_reducible refine then_ret ?_)
          | (with_reducible refine then_exit ?_)
          | (with_reducible refine inBlock_normal ?_)
          | (with_reducible refine inBlock_ret ?_)
          | (with_reducible refine inBlock_hit ?_)
          | (with_reducible refine inBlock_miss (by decide) ?_)
          | (with_reducible refine awp_ret ?_)
          | (with_reducible refine awp_exit ?_)
          | (with_reducible refine post_ret ?_)
          | (with_reducible refine post_normal ?_)
          | (with_reducible refine awp_block ?_)
          | (with_reducible refine v_reg [] (fun K hK => ?_))
          | (with_reducible refine v_reg1 [] (fun K hK => ?_))
          | (with_reducible refine v_draw mixed [] [] (by kernel_rfl) (fun K hK => ?_))
          | (with_reducible refine v_draw1 mixed [] [] (by kernel_rfl) (fun K hK => ?_))
          | (with_reducible refine ev_nil (hK _ _ ?_); clear hK K)
          | (with_reducible refine ed_nil (hK _ _ ?_); clear hK K)
          | ((first | with_reducible refine ev_cons (fun K' hK' => ?_) | with_reducible refine ed_cons (fun K' hK' => ?_) | (with_reducible refine ev_id ?_; refine ev_guard rfl (fun K' hK' => ?_)) | (with_reducible refine ed_id ?_; refine ed_guard rfl (fun K' hK' => ?_))); simp [h38, h37, h36, h9, h8, h0, rows, ints, hlt, hlab, hxn, hx.1, hax, hd0, hbe]; repeat' (first | (with_reducible refine hK' _ _ ?_; clear hK' K') | (with_reducible refine And.intro ?_ ?_) | (with_reducible intro hg) | (clear hK' K'; omega)))
          | (with_reducible refine w_cond (fun A B hA hB => ?_); simp [h38, h37, h36, h9, h8, h0, rows, ints, hlt, hlab, hxn, hx.1, hax, hd0, hbe]; repeat' (first | (with_reducible refine hA ?_; clear hA hB A B) | (with_reducible refine hB ?_; clear hA hB A B) | (with_reducible refine And.intro ?_ ?_) | (with_reducible intro hc)))
          | (with_reducible refine awp_seq ?_))
        exact ⟨⟨k + 1, by omega, by simp, by simp [h37], by simp [h36], by rw [htk]; simp, by simp [h8], by simp [h0], rfl⟩, by simp; omega⟩
      · have hbl := hp.lt best (hmk.resolve_left hbe)
        have hbn : best.toNat < adj.length := by omega
        have hab := hat best hbl.1
        by_cases hcc : d fr[k] < d best
        · rw [if_pos ⟨by omega, .inr hcc⟩] at htk
          repeat' (first
            | (with_reducible refine awp_skip ?_)
            | (with_reducible refine then_any ?_)
            | (with_reducible refine then_ret ?_)
            | (with_reducible refine then_exit ?_)
            | (with_reducible refine inBlock_normal ?_)
            | (with_reducible refine inBlock_ret ?_)
            | (with_reducible refine inBlock_hit ?_)
            | (with_reducible refine inBlock_miss (by decide) ?_)
            | (with_reducible refine awp_ret ?_)
            | (with_reducible refine awp_exit ?_)
            | (with_reducible refine post_ret ?_)
            | (with_reducible refine post_normal ?_)
            | (with_reducible refine awp_block ?_)
            | (with_reducible refine v_reg [] (fun K hK => ?_))
            | (with_reducible refine v_reg1 [] (fun K hK => ?_))
            | (with_reducible refine v_draw mixed [] [] (by kernel_rfl) (fun K hK => ?_))
            | (with_reducible refine v_draw1 mixed [] [] (by kernel_rfl) (fun K hK => ?_))
            | (with_reducible refine ev_nil (hK _ _ ?_); clear hK K)
            | (with_reducible refine ed_nil (hK _ _ ?_); clear hK K)
            | ((first | with_reducible refine ev_cons (fun K' hK' => ?_) | with_reducible refine ed_cons (fun K' hK' => ?_) | (with_reducible refine ev_id ?_; refine ev_guard rfl (fun K' hK' => ?_)) | (with_reducible refine ed_id ?_; refine ed_guard rfl (fun K' hK' => ?_))); simp [h38, h37, h36, h9, h8, h0, rows, ints, hlt, hlab, hxn, hx.1, hax, hd0, hbe, hbl.1, hbn, hab, hcc]; repeat' (first | (with_reducible refine hK' _ _ ?_; clear hK' K') | (with_reducible refine And.intro ?_ ?_) | (with_reducible intro hg) | (clear hK' K'; omega)))
            | (with_reducible refine w_cond (fun A B hA hB => ?_); simp [h38, h37, h36, h9, h8, h0, rows, ints, hlt, hlab, hxn, hx.1, hax, hd0, hbe, hbl.1, hbn, hab, hcc]; repeat' (first | (with_reducible refine hA ?_; clear hA hB A B) | (with_reducible refine hB ?_; clear hA hB A B) | (with_reducible refine And.intro ?_ ?_) | (with_reducible intro hc)))
            | (with_reducible refine awp_seq ?_))
          exact ⟨⟨k + 1, by omega, by simp, by simp [h37], by simp [h36], by rw [htk]; simp, by simp [h8], by simp [h0], rfl⟩, by simp; omega⟩
        · rw [if_neg (by rintro ⟨_, h | h⟩; (· omega); (· exact hcc h))] at htk
          repeat' (first
            | (with_reducible refine awp_skip ?_)
            | (with_reducible refine then_any ?_)
            | (with_reducible refine then_ret ?_)
            | (with_reducible refine then_exit ?_)
            | (with_reducible refine inBlock_normal ?_)
            | (with_reducible refine inBlock_ret ?_)
            | (with_reducible refine inBlock_hit ?_)
            | (with_reducible refine inBlock_miss (by decide) ?_)
            | (with_reducible refine awp_ret ?_)
            | (with_reducible refine awp_exit ?_)
            | (with_reducible refine post_ret ?_)
            | (with_reducible refine post_normal ?_)
            | (with_reducible refine awp_block ?_)
            | (with_reducible refine v_reg [] (fun K hK => ?_))
            | (with_reducible refine v_reg1 [] (fun K hK => ?_))
            | (with_reducible refine v_draw mixed [] [] (by kernel_rfl) (fun K hK => ?_))
            | (with_reducible refine v_draw1 mixed [] [] (by kernel_rfl) (fun K hK => ?_))
            | (with_reducible refine ev_nil (hK _ _ ?_); clear hK K)
            | (with_reducible refine ed_nil (hK _ _ ?_); clear hK K)
            | ((first | with_reducible refine ev_cons (fun K' hK' => ?_) | with_reducible refine ed_cons (fun K' hK' => ?_) | (with_reducible refine ev_id ?_; refine ev_guard rfl (fun K' hK' => ?_)) | (with_reducible refine ed_id ?_; refine ed_guard rfl (fun K' hK' => ?_))); simp [h38, h37, h36, h9, h8, h0, rows, ints, hlt, hlab, hxn, hx.1, hax, hd0, hbe, hbl.1, hbn, hab, hcc]; repeat' (first | (with_reducible refine hK' _ _ ?_; clear hK' K') | (with_reducible refine And.intro ?_ ?_) | (with_reducible intro hg) | (clear hK' K'; omega)))
            | (with_reducible refine w_cond (fun A B hA hB => ?_); simp [h38, h37, h36, h9, h8, h0, rows, ints, hlt, hlab, hxn, hx.1, hax, hd0, hbe, hbl.1, hbn, hab, hcc]; repeat' (first | (with_reducible refine hA ?_; clear hA hB A B) | (with_reducible refine hB ?_; clear hA hB A B) | (with_reducible refine And.intro ?_ ?_) | (with_reducible intro hc)))
            | (with_reducible refine awp_seq ?_))
          exact ⟨⟨k + 1, by omega, by simp, by simp [h37], by simp [h36], by rw [htk]; simp [h9], by simp [h8], by simp [h0], rfl⟩, by simp; omega⟩
  · have : k = fr.length := by omega
    subst this
    rw [List.take_length] at h9
    rcases hsp with ⟨hv, _⟩ | ⟨i, hi, hv, hd0, _, _⟩
    · rw [hv] at hpa h9
      repeat' (first
        | (with_reducible refine awp_skip ?_)
        | (with_reducible refine then_any ?_)
        | (with_reducible refine then_ret ?_)
        | (with_reducible refine then_exit ?_)
        | (with_reducible refine inBlock_normal ?_)
        | (with_reducible refine inBlock_ret ?_)
        | (with_reducible refine inBlock_hit ?_)
        | (with_reducible refine inBlock_miss (by decide) ?_)
        | (with_reducible refine awp_ret ?_)
        | (with_reducible refine awp_exit ?_)
        | (with_reducible refine post_ret ?_)
        | (with_reducible refine post_normal ?_)
        | (with_reducible refine awp_block ?_)
        | (with_reducible refine v_reg [] (fun K hK => ?_))
        | (with_reducible refine v_reg1 [] (fun K hK => ?_))
        | (with_reducible refine v_draw mixed [] [] (by kernel_rfl) (fun K hK => ?_))
        | (with_reducible refine v_draw1 mixed [] [] (by kernel_rfl) (fun K hK => ?_))
        | (with_reducible refine ev_nil (hK _ _ ?_); clear hK K)
        | (with_reducible refine ed_nil (hK _ _ ?_); clear hK K)
        | ((first | with_reducible refine ev_cons (fun K' hK' => ?_) | with_reducible refine ed_cons (fun K' hK' => ?_) | (with_reducible refine ev_id ?_; refine ev_guard rfl (fun K' hK' => ?_)) | (with_reducible refine ed_id ?_; refine ed_guard rfl (fun K' hK' => ?_))); simp [h38, h37, h36, h9, h8, h0, rows, ints]; repeat' (first | (with_reducible refine hK' _ _ ?_; clear hK' K') | (with_reducible refine And.intro ?_ ?_) | (with_reducible intro hg) | (clear hK' K'; omega)))
        | (with_reducible refine w_cond (fun A B hA hB => ?_); simp [h38, h37, h36, h9, h8, h0, rows, ints]; repeat' (first | (with_reducible refine hA ?_; clear hA hB A B) | (with_reducible refine hB ?_; clear hA hB A B) | (with_reducible refine And.intro ?_ ?_) | (with_reducible intro hc)))
        | (with_reducible refine awp_seq ?_))
      refine ⟨by simp [hpa], sub_new hb0⟩
    · have hvl := hp.lt fr[i] (List.getElem_mem _)
      have hv0 : ¬ fr[i] < 0 := by omega
      have hv1 : ¬ fr[i] = -1 := by omega
      rw [hv] at h9
      rw [hv, if_neg hv0] at hpa
      generalize fr[i] = v0 at *
      repeat' (first
        | (with_reducible refine awp_skip ?_)
        | (with_reducible refine then_any ?_)
        | (with_reducible refine then_ret ?_)
        | (with_reducible refine then_exit ?_)
        | (with_reducible refine inBlock_normal ?_)
        | (with_reducible refine inBlock_ret ?_)
        | (with_reducible refine inBlock_hit ?_)
        | (with_reducible refine inBlock_miss (by decide) ?_)
        | (with_reducible refine awp_ret ?_)
        | (with_reducible refine awp_exit ?_)
        | (with_reducible refine post_ret ?_)
        | (with_reducible refine post_normal ?_)
        | (with_reducible refine awp_block ?_)
        | (with_reducible refine v_reg [67] (fun K hK => ?_))
        | (with_reducible refine v_reg1 [67] (fun K hK => ?_))
        | (with_reducible refine v_draw mixed [67] [] (by kernel_rfl) (fun K hK => ?_))
        | (with_reducible refine v_draw1 mixed [67] [] (by kernel_rfl) (fun K hK => ?_))
        | (with_reducible refine ev_nil (hK _ _ ?_); clear hK K)
        | (with_reducible refine ed_nil (hK _ _ ?_); clear hK K)
        | ((first | with_reducible refine ev_cons (fun K' hK' => ?_) | with_reducible refine ed_cons (fun K' hK' => ?_) | (with_reducible refine ev_id ?_; refine ev_guard rfl (fun K' hK' => ?_)) | (with_reducible refine ed_id ?_; refine ed_guard rfl (fun K' hK' => ?_))); simp [h38, h37, h36, h9, h8, h0, rows, ints, hv1]; repeat' (first | (with_reducible refine hK' _ _ ?_; clear hK' K') | (with_reducible refine And.intro ?_ ?_) | (with_reducible intro hg) | (clear hK' K'; omega)))
        | (with_reducible refine w_cond (fun A B hA hB => ?_); simp [h38, h37, h36, h9, h8, h0, rows, ints, hv1]; repeat' (first | (with_reducible refine hA ?_; clear hA hB A B) | (with_reducible refine hB ?_; clear hA hB A B) | (with_reducible refine And.intro ?_ ?_) | (with_reducible intro hc)))
        | (with_reducible refine awp_seq ?_))
      rename_i r hr0 s
      have hrb : r ≠ b := by rintro rfl; simp at hr0
      have hr : H r = none := by rw [if_neg hrb] at hr0; exact hr0
      have hsr : s ≠ r := by rintro rfl; simp at hg
      have hsb : s ≠ b := by rintro rfl; simp [hrb.symm] at hg
      have hs : H s = none := by rw [if_neg hsr, if_neg hsb] at hg; exact hg
      clear hg hr0
      refine awp_loop_g (fun k env h => ∃ (v : Int) (o : List Int) (s : Nat), (0 ≤ v ∧ v < adj.length) ∧ d v = k ∧ o ++ (wayL adj d k v).drop 1 = wayL adj d (d v0).toNat v0 ∧ env 13 = .ptr s 0 0 ∧ env 8 = .ptr b 0 0 ∧ env 0 = rows adj ∧ env 12 = .ref r 0 o.length o.length ∧
         s ≠ r ∧ s ≠ b ∧ H s = none ∧ Sub (ph H b s r (.sl (labI adj.length d) adj.length) v o) h) ?_ ?_
      · exact ⟨(d v0).toNat, v0, [v0], s, hvl, by omega, by rw [List.singleton_append, ← way_cons], by simp, by simp [h8], by simp [h0], by simp, hsr, hsb, hs, by simp only [ph, List.map_cons, List.map_nil, List.length_singleton]; exact .refl _⟩
      clear hs hsb hsr s h37 h36 h8 h0 h38 h9
      rintro k env h ⟨v, o, s, hvl', hdv, ho, h13, h8, h0, h12, hsr, hsb, hs, hsub⟩
      refine AWP.sub hsub ?_
      clear hsub
      have hol : o.length ≤ 4097 := by
        have h1 := congrArg List.length ho
        rw [List.length_append, List.length_drop, way_length, way_length] at h1
        have := hbd v0
        omega
      have hvn : v.toNat < adj.length := by omega
      have hout : ∀ h : v.toNat < adj.length, adj[v.toNat]'h = out adj v := fun h => (out_eq h).symm
      have hav := hat v hvl'.1
      have hlook := ph_b (H := H) (left := .sl (labI adj.length d) adj.length) (v := v) (o := o) hrb.symm hsb.symm
      have hlr := ph_r (H := H) (b := b) (left := .sl (labI adj.length d) adj.length) (v := v) (o := o) hsr.symm
      have hls := ph_s (H := H) (b := b) (s := s) (r := r) (left := .sl (labI adj.length d) adj.length) (v := v) (o := o)
      cases k with
      | zero =>
        rw [show (wayL adj d 0 v).drop 1 = [] from rfl, List.append_nil] at ho
        have hd0' : ¬ 0 < d v := by omega
        refine awp_freeze 12 h12 hlr ?_
        rw [cut_map]
        repeat' (first
          | (with_reducible refine awp_skip ?_)
          | (with_reducible refine then_any ?_)
          | (with_reducible refine then_ret ?_)
          | (with_reducible refine then_exit ?_)
          | (with_reducible refine inBlock_normal ?_)
          | (with_reducible refine inBlock_ret ?_)
          | (with_reducible refine inBlock_hit ?_)
          | (with_reducible refine inBlock_miss (by decide) ?_)
          | (with_reducible refine awp_ret ?_)
          | (with_reducible refine awp_exit ?_)
          | (with_reducible refine post_ret ?_)
          | (with_reducible refine post_normal ?_)
          | (with_reducible refine awp_block ?_)
          | (with_reducible refine v_reg [] (fun K hK => ?_))
          | (with_reducible refine v_reg1 [] (fun K hK => ?_))
          | (with_reducible refine v_draw mixed [] [] (by kernel_rfl) (fun K hK => ?_))
          | (with_reducible refine v_draw1 mixed [] [] (by kernel_rfl) (fun K hK => ?_))
          | (with_reducible refine ev_nil (hK _ _ ?_); clear hK K)
          | (with_reducible refine ed_nil (hK _ _ ?_); clear hK K)
          | ((first | with_reducible refine ev_cons (fun K' hK' => ?_) | with_reducible refine ed_cons (fun K' hK' => ?_) | (with_reducible refine ev_id ?_; refine ev_guard rfl (fun K' hK' => ?_)) | (with_reducible refine ed_id ?_; refine ed_guard rfl (fun K' hK' => ?_))); simp [h13, h8, h0, hlook, hls, hlab, hvn, hvl'.1, hav, hd0', hrb.symm, hsr]; repeat' (first | (with_reducible refine hK' _ _ ?_; clear hK' K') | (with_reducible refine And.intro ?_ ?_) | (with_reducible intro hg) | (clear hK' K'; omega)))
          | (with_reducible refine w_cond (fun A B hA hB => ?_); simp [h13, h8, h0, hlook, hls, hlab, hvn, hvl'.1, hav, hd0', hrb.symm, hsr]; repeat' (first | (with_reducible refine hA ?_; clear hA hB A B) | (with_reducible refine hB ?_; clear hA hB A B) | (with_reducible refine And.intro ?_ ?_) | (with_reducible intro hc)))
          | (with_reducible refine awp_seq ?_))
        exact ⟨by simp [hpa, ho], (ph_sub hb0 hr hs).upd hr _⟩
      | succ k =>
        obtain ⟨n1, n2, n3⟩ := @hln v k hvl' (by omega)
        have hnl := (out_pts hG v).lt _ n2
        have hw : wayL adj d (k + 1) v = v :: wayL adj d k (nextL d (out adj v) k) := rfl
        rw [hw, List.drop_one, List.tail_cons, way_cons] at ho
        have hkey : d v - 1 = k := by omega
        obtain ⟨j, hj, hidx, hjn⟩ := idx_next (d := d) (l := out adj v) (k := (k : Int)) ⟨_, n2, n3⟩
        have hpo := out_pts hG v
        have hol' : okLen (out adj v) := by have := hpo.length; rw [okLen]; omega
        have hd0' : 0 < d v := by omega
        generalize hws : out adj v = ws at *
        generalize hnv : nextL d ws k = nv at *
        have hix : RetAt Try.prog w0 73 [ints ws, .clo 74 [] [.ptr b 0 0, .ptr s 0 0]] (I j) (ph H b s r (.sl (labI adj.length d) adj.length) v o) := by
          rw [← hidx]
          refine indexInts_at hol' fun x hx => ?_
          have := path1_at (w0 := w0) hlook hls (hpo.lt x hx) hvl' (by have := hbd v; omega)
          rwa [hkey] at this
        have hjn' : ∀ h, ws[j]'h = nv := fun _ => hjn
        repeat' (first
          | (with_reducible refine awp_skip ?_)
          | (with_reducible refine then_any ?_)
          | (with_reducible refine then_ret ?_)
          | (with_reducible refine then_exit ?_)
          | (with_reducible refine inBlock_normal ?_)
          | (with_reducible refine inBlock_ret ?_)
          | (with_reducible refine inBlock_hit ?_)
          | (with_reducible refine inBlock_miss (by decide) ?_)
          | (with_reducible refine awp_ret ?_)
          | (with_reducible refine awp_exit ?_)
          | (with_reducible refine post_ret ?_)
          | (with_reducible refine post_normal ?_)
          | (with_reducible refine awp_block ?_)
          | ((fail_if_success (with_reducible refine at_reg 16 ?_)); with_reducible refine v_reg [] (fun K hK => ?_))
          | (with_reducible refine v_reg1 [] (fun K hK => ?_))
          | ((fail_if_success (with_reducible refine at_reg 16 ?_)); with_reducible refine v_draw mixed [] [] (by kernel_rfl) (fun K hK => ?_))
          | (with_reducible refine v_draw1 mixed [] [] (by kernel_rfl) (fun K hK => ?_))
          | (with_reducible refine ev_nil (hK _ _ ?_); clear hK K)
          | (with_reducible refine ed_nil (hK _ _ ?_); clear hK K)
          | ((first | with_reducible refine ev_cons (fun K' hK' => ?_) | with_reducible refine ed_cons (fun K' hK' => ?_) | (with_reducible refine ev_id ?_; refine ev_guard rfl (fun K' hK' => ?_)) | (with_reducible refine ed_id ?_; refine ed_guard rfl (fun K' hK' => ?_))); simp [h13, h8, h0, h12, rows, ints, hlook, hlr, hls, hlab, hvn, hvl'.1, hav, hd0', hout, hj, hjn', ph_set, ph_s]; repeat' (first | (with_reducible refine hK' _ _ ?_; clear hK' K') | ((with_reducible refine RetAt.use hix ?_; try simp); try simp [h13, h8, h0, h12, rows, ints, hlook, hlr, hls, hlab, hvn, hvl'.1, hav, hd0', hout, hj, hjn', ph_set, ph_s]) | (with_reducible refine And.intro ?_ ?_) | (with_reducible intro hg) | (clear hK' K'; omega)))
          | (with_reducible refine w_cond (fun A B hA hB => ?_); simp [h13, h8, h0, h12, rows, ints, hlook, hlr, hls, hlab, hvn, hvl'.1, hav, hd0', hout, hj, hjn', ph_set, ph_s]; repeat' (first | (with_reducible refine hA ?_; clear hA hB A B) | (with_reducible refine hB ?_; clear hA hB A B) | (with_reducible refine And.intro ?_ ?_) | (with_reducible intro hc)))
          | ((fail_if_success (with_reducible refine at_reg 16 ?_)); with_reducible refine awp_seq ?_))
        rename_i q
        obtain ⟨q1, q2, q3, q4⟩ := ph_none hg
        have hrq : r ≠ q := fun e => q3 e.symm
        have hlr2 := ph_r (H := H) (b := b) (left := .sl (labI adj.length d) adj.length) (v := nv) (o := o) hsr.symm
        simp [h12, hlr2, hrq]
        with_reducible refine hK' _ _ ?_
        clear hK' K'
        repeat' (first
          | (with_reducible refine awp_skip ?_)
          | (with_reducible refine then_any ?_)
          | (with_reducible refine then_ret ?_)
          | (with_reducible refine then_exit ?_)
          | (with_reducible refine inBlock_normal ?_)
          | (with_reducible refine inBlock_ret ?_)
          | (with_reducible refine inBlock_hit ?_)
          | (with_reducible refine inBlock_miss (by decide) ?_)
          | (with_reducible refine awp_ret ?_)
          | (with_reducible refine awp_exit ?_)
          | (with_reducible refine post_ret ?_)
          | (with_reducible refine post_normal ?_)
          | (with_reducible refine awp_block ?_)
          | (with_reducible refine v_reg [] (fun K hK => ?_))
          | (with_reducible refine v_reg1 [] (fun K hK => ?_))
          | (with_reducible refine v_draw mixed [] [] (by kernel_rfl) (fun K hK => ?_))
          | (with_reducible refine v_draw1 mixed [] [] (by kernel_rfl) (fun K hK => ?_))
          | (with_reducible refine ev_nil (hK _ _ ?_); clear hK K)
          | (with_reducible refine ed_nil (hK _ _ ?_); clear hK K)
          | ((first | with_reducible refine ev_cons (fun K' hK' => ?_) | with_reducible refine ed_cons (fun K' hK' => ?_) | (with_reducible refine ev_id ?_; refine ev_guard rfl (fun K' hK' => ?_)) | (with_reducible refine ed_id ?_; refine ed_guard rfl (fun K' hK' => ?_))); simp [h12, hlr2, hrq]; repeat' (first | (with_reducible refine hK' _ _ ?_; clear hK' K') | (with_reducible refine And.intro ?_ ?_) | (with_reducible intro hg) | (clear hK' K'; omega)))
          | (with_reducible refine w_cond (fun A B hA hB => ?_); simp [h12, hlr2, hrq]; repeat' (first | (with_reducible refine hA ?_; clear hA hB A B) | (with_reducible refine hB ?_; clear hA hB A B) | (with_reducible refine And.intro ?_ ?_) | (with_reducible intro hc)))
          | (with_reducible refine awp_seq ?_))
        refine ⟨k, by omega, nv, o ++ [nv], q, hnl, n3, by rw [← ho]; simp, by simp, by simp [h8], by simp [h0], by simp, q3, q1, q4, ?_⟩
        have := ph_step (H := H) (b := b) (s := s) (r := r) (left := .sl (labI adj.length d) adj.length) (v := nv) (o := o) (q := q) (o' := o ++ [nv]) (x := nv) hs ⟨q1, q2, q3⟩ hrb.symm hsb.symm hsr.symm
        simpa using this
#print axioms path_reach_ret
end Go.Am
