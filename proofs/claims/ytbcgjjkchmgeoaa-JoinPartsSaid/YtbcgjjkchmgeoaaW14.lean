/- Contracts: the law JoinParts. -/
import Derived.Test.YtbcgjjkchmgeoaaW12
namespace Go.Am
open Go Go.Proofs
set_option linter.unusedVariables false
set_option linter.unusedSimpArgs false
variable {w0 : World}
attribute [local irreducible] AWP ACalls
attribute [local congr] acalls_congr

/-- What parts are. -/
structure PartsAre (c : Nat → Nat) (m : Nat) (ps : List (List Int)) : Prop where
  set : ∀ p ∈ ps, IsSet p
  full : ∀ p ∈ ps, 0 < p.length
  lt : ∀ p ∈ ps, ∀ x ∈ p, 0 ≤ x ∧ x < m
  head : ∀ p ∈ ps, ∀ x ∈ p, ∀ h : 0 < p.length, (c x.toNat : Int) = p[0]
  disj : ∀ (i j : Nat) (hi : i < ps.length) (hj : j < ps.length), i < j → ∀ x ∈ ps[i], x ∉ ps[j]
  cover : ∀ w : Nat, w < m → ∃ p ∈ ps, (w : Int) ∈ p

theorem mem_partK {c : Nat → Nat} {m r : Nat} {x : Int} : x ∈ partK c m r ↔ ∃ w : Nat, w < m ∧ c w = r ∧ x = w := by
  simp only [partK, List.mem_map, List.mem_filter, List.mem_range, decide_eq_true_eq]
  constructor
  · rintro ⟨w, ⟨h1, h2⟩, rfl⟩; exact ⟨w, h1, h2, rfl⟩
  · rintro ⟨w, h1, h2, rfl⟩; exact ⟨w, ⟨h1, h2⟩, rfl⟩

theorem parts_are (es : List (Int × Int)) {m : Nat} (hm : m ≤ 64) : PartsAre (compJ es).1 m (partsK (compJ es).1 m) := by
  have hc := compJ_comp es
  generalize (compJ es).1 = c at *
  have hset : ∀ r, IsSet (partK c m r) := by
    intro r
    refine ⟨?_, fun x hx => ?_⟩
    · unfold partK
      rw [List.pairwise_map]
      exact (List.pairwise_lt_range.filter _).imp fun h => by omega
    · obtain ⟨w, h1, h2, rfl⟩ := mem_partK.1 hx; omega
  have hin : ∀ p ∈ partsK c m, ∃ r, r < m ∧ c r = r ∧ p = partK c m r := by
    intro p hp
    obtain ⟨r, hr, rfl⟩ := List.mem_map.1 hp
    have := mem_rootsK.1 hr
    exact ⟨r, this.1, this.2, rfl⟩
  have hself : ∀ r, r < m → c r = r → (r : Int) ∈ partK c m r := fun r h1 h2 => mem_partK.2 ⟨r, h1, h2, rfl⟩
  have hhead : ∀ r, r < m → c r = r → ∀ h : 0 < (partK c m r).length, (partK c m r)[0] = (r : Int) := by
    intro r h1 h2 h
    have hs := hself r h1 h2
    have hu := (hset r).up
    have h0 : (partK c m r)[0] ∈ partK c m r := List.getElem_mem _
    obtain ⟨w, g1, g2, g3⟩ := mem_partK.1 h0
    have hle := hc.le w
    obtain ⟨k, hk, e⟩ := List.mem_iff_getElem.1 hs
    cases k with
    | zero => rw [e]
    | succ k =>
      have := List.pairwise_iff_getElem.1 hu 0 (k + 1) h hk (by omega)
      omega
  refine ⟨fun p hp => ?_, fun p hp => ?_, fun p hp x hx => ?_, fun p hp x hx h => ?_, fun i j hi hj hij x hx hx' => ?_, fun w hw => ?_⟩
  · obtain ⟨r, _, _, rfl⟩ := hin p hp; exact hset r
  · obtain ⟨r, h1, h2, rfl⟩ := hin p hp
    exact List.length_pos_of_mem (hself r h1 h2)
  · obtain ⟨r, h1, h2, rfl⟩ := hin p hp
    obtain ⟨w, g1, g2, rfl⟩ := mem_partK.1 hx; omega
  · obtain ⟨r, h1, h2, rfl⟩ := hin p hp
    obtain ⟨w, g1, g2, rfl⟩ := mem_partK.1 hx
    rw [hhead r h1 h2 h, Int.toNat_natCast, g2]
  · simp only [partsK, List.getElem_map, List.length_map] at hi hj hx hx'
    obtain ⟨w, g1, g2, rfl⟩ := mem_partK.1 hx
    obtain ⟨w', g1', g2', e⟩ := mem_partK.1 hx'
    have : w = w' := by omega
    subst this
    have hn := rootsK_nodup c m
    rw [List.nodup_iff_pairwise_ne, List.pairwise_iff_getElem] at hn
    exact hn i j hi hj hij (by omega)
  · refine ⟨partK c m (c w), List.mem_map.2 ⟨c w, mem_rootsK.2 ⟨?_, hc.idem w⟩, rfl⟩, mem_partK.2 ⟨w, hw, rfl, rfl⟩⟩
    have := hc.le w; omega

theorem mem_take {α : Type} {l : List α} {k : Nat} {x : α} : x ∈ l.take k ↔ ∃ (i : Nat) (h : i < l.length), i < k ∧ l[i] = x := by
  rw [List.mem_take_iff_getElem]
  constructor
  · rintro ⟨i, h, e⟩; exact ⟨i, by omega, by omega, e⟩
  · rintro ⟨i, h, hk, e⟩; exact ⟨i, by omega, e⟩

theorem joinParts_ret {n : Int} {es : List (Int × Int)} (he0 : es.length ≤ 17592186044416) : Ret Try.prog w0 4 [I n, pairs es] (B true) := by
  intro H
  have he : okLen es := by omega
  refine w_enter Try.func4 rfl Try.ntmps4 (ts := [4]) rfl (by simp) (by kernel_rfl) ?_
  by_cases hbig : 100 < es.length
  · have hbig' : (100 : Int) < (es.length : Int) := by omega
    repeat' (first
      | (with_reducible refine awp_skip ?_)
      | (with_reducible refine then_any ?_)
      | (with_reducible refine then_ret ?_)
      | (with_reducible refine then_exit ?_)
      | (with_reducible refine inBlock_normal ?_)
      | (with_reducible refine inBlock_ret ?_)
      | (with_reducible refine inBlock_hit ?_)
      | (with_reducible refine inBlock_miss (by decide) ?_)
      | (with_reducible refine awp_ret ?_)
      | (with_reducible refine awp_exit ?_)
      | (with_reducible refine post_ret ?_)
      | (with_reducible refine post_normal ?_)
      | (with_reducible refine awp_block ?_)
      | (with_reducible refine v_reg [] (fun K hK => ?_))
      | (with_reducible refine v_reg1 [] (fun K hK => ?_))
      | (with_reducible refine v_draw mixed [] [] (by kernel_rfl) (fun K hK => ?_))
      | (with_reducible refine v_draw1 mixed [] [] (by kernel_rfl) (fun K hK => ?_))
      | (with_reducible refine ev_nil (hK _ _ ?_); clear hK K)
      | (with_reducible refine ed_nil (hK _ _ ?_); clear hK K)
      | ((first | with_reducible refine ev_cons (fun K' hK' => ?_) | with_reducible refine ed_cons (fun K' hK' => ?_) | (with_reducible refine ev_id ?_; refine ev_guard rfl (fun K' hK' => ?_)) | (with_reducible refine ed_id ?_; refine ed_guard rfl (fun K' hK' => ?_))); simp [pairs, hbig']; repeat' (first | (with_reducible refine hK' _ _ ?_; clear hK' K') | (with_reducible refine Ret.use fixed3_ret ?_; try simp [pairs, hbig']) | (with_reducible refine And.intro ?_ ?_) | (with_reducible intro hg) | (clear hK' K'; omega)))
      | (with_reducible refine w_cond (fun A B hA hB => ?_); simp [pairs, hbig']; repeat' (first | (with_reducible refine hA ?_; clear hA hB A B) | (with_reducible refine hB ?_; clear hA hB A B) | (with_reducible refine And.intro ?_ ?_) | (with_reducible intro hc)))
      | (with_reducible refine awp_seq ?_))
    all_goals simp
  have hbig' : ¬ (100 : Int) < (es.length : Int) := by omega
  cases hva : validG n es with
  | false =>
    repeat' (first
      | (with_reducible refine awp_skip ?_)
      | (with_reducible refine then_any ?_)
      | (with_reducible refine then_ret ?_)
      | (with_reducible refine then_exit ?_)
      | (with_reducible refine inBlock_normal ?_)
      | (with_reducible refine inBlock_ret ?_)
      | (with_reducible refine inBlock_hit ?_)
      | (with_reducible refine inBlock_miss (by decide) ?_)
      | (with_reducible refine awp_ret ?_)
      | (with_reducible refine awp_exit ?_)
      | (with_reducible refine post_ret ?_)
      | (with_reducible refine post_normal ?_)
      | (with_reducible refine awp_block ?_)
      | (with_reducible refine v_reg [] (fun K hK => ?_))
      | (with_reducible refine v_reg1 [] (fun K hK => ?_))
      | (with_reducible refine v_draw mixed [] [] (by kernel_rfl) (fun K hK => ?_))
      | (with_reducible refine v_draw1 mixed [] [] (by kernel_rfl) (fun K hK => ?_))
      | (with_reducible refine ev_nil (hK _ _ ?_); clear hK K)
      | (with_reducible refine ed_nil (hK _ _ ?_); clear hK K)
      | ((first | with_reducible refine ev_cons (fun K' hK' => ?_) | with_reducible refine ed_cons (fun K' hK' => ?_) | (with_reducible refine ev_id ?_; refine ev_guard rfl (fun K' hK' => ?_)) | (with_reducible refine ed_id ?_; refine ed_guard rfl (fun K' hK' => ?_))); simp [pairs, hbig', hva]; repeat' (first | (with_reducible refine hK' _ _ ?_; clear hK' K') | (with_reducible refine Ret.use fixed3_ret ?_; try simp [pairs, hbig', hva]) | (with_reducible refine Ret.use (graph_ret he) ?_; try simp [pairs, hbig', hva]) | (with_reducible refine And.intro ?_ ?_) | (with_reducible intro hg) | (clear hK' K'; omega)))
      | (with_reducible refine w_cond (fun A B hA hB => ?_); simp [pairs, hbig', hva]; repeat' (first | (with_reducible refine hA ?_; clear hA hB A B) | (with_reducible refine hB ?_; clear hA hB A B) | (with_reducible refine And.intro ?_ ?_) | (with_reducible intro hc)))
      | (with_reducible refine awp_seq ?_))
    all_goals simp
  | true =>
  have hpn := partsL_len hva
  have hE : ∀ e ∈ es, 0 ≤ e.1 ∧ 0 ≤ e.2 ∧ e.1 < n ∧ e.2 < n := (valid_iff.1 hva).2.2
  obtain ⟨m, rfl, hm1, hm2, hm3⟩ := valid_nat hva
  have hpa : PartsAre (compJ es).1 m (partsL m es) := by rw [partsL, if_pos hva]; exact parts_are es hm2
  have hc := compJ_comp es
  have hrk : ((compJ es).2 : Int) = (m : Int) - (partsL m es).length := by omega
  have htail : es ≠ [] → validG m (es.drop 1) = true ∧ (compJ (es.drop 1)).2 ≤ (compJ es).2 ∧ (compJ es).2 ≤ (compJ (es.drop 1)).2 + 1 := by
    intro hne
    cases es with
    | nil => exact absurd rfl hne
    | cons e es =>
      have hb := belowE_of (n := m) (es := e :: es) hva
      refine ⟨?_, rank_cons hb⟩
      rw [valid_iff] at hva ⊢
      exact ⟨hva.1, by simp at hva ⊢; omega, fun x hx => hva.2.2 x (by simp at hx ⊢; exact .inr hx)⟩
  generalize hps : partsL m es = ps at *
  generalize hj : (compJ es).2 = j at *
  generalize hcc : (compJ es).1 = c at *
  repeat' (first
    | (with_reducible refine awp_skip ?_)
    | (with_reducible refine then_any ?_)
    | (with_reducible refine then_ret ?_)
    | (with_reducible refine then_exit ?_)
    | (with_reducible refine inBlock_normal ?_)
    | (with_reducible refine inBlock_ret ?_)
    | (with_reducible refine inBlock_hit ?_)
    | (with_reducible refine inBlock_miss (by decide) ?_)
    | (with_reducible refine awp_ret ?_)
    | (with_reducible refine awp_exit ?_)
    | (with_reducible refine post_ret ?_)
    | (with_reducible refine post_normal ?_)
    | (with_reducible refine awp_block ?_)
    | (with_reducible refine v_reg [] (fun K hK => ?_))
    | (with_reducible refine v_reg1 [] (fun K hK => ?_))
    | (with_reducible refine v_draw mixed [] [] (by kernel_rfl) (fun K hK => ?_))
    | (with_reducible refine v_draw1 mixed [] [] (by kernel_rfl) (fun K hK => ?_))
    | (with_reducible refine ev_nil (hK _ _ ?_); clear hK K)
    | (with_reducible refine ed_nil (hK _ _ ?_); clear hK K)
    | ((first | with_reducible refine ev_cons (fun K' hK' => ?_) | with_reducible refine ed_cons (fun K' hK' => ?_) | (with_reducible refine ev_id ?_; refine ev_guard rfl (fun K' hK' => ?_)) | (with_reducible refine ed_id ?_; refine ed_guard rfl (fun K' hK' => ?_))); simp [pairs, hbig', hva, compsL, okE, hps, hj, hcc, rows, hrk]; repeat' (first | (with_reducible refine hK' _ _ ?_; clear hK' K') | (with_reducible refine Ret.use fixed3_ret ?_; try simp [pairs, hbig', hva, compsL, okE, hps, hj, hcc, rows, hrk]) | (with_reducible refine Ret.use (graph_ret he) ?_; try simp [pairs, hbig', hva, compsL, okE, hps, hj, hcc, rows, hrk]) | (with_reducible refine Ret.use (parts_ret he) ?_; try simp [pairs, hbig', hva, compsL, okE, hps, hj, hcc, rows, hrk]) | (with_reducible refine Ret.use (comps_ret he) ?_; try simp [pairs, hbig', hva, compsL, okE, hps, hj, hcc, rows, hrk]) | (with_reducible refine Ret.use (rank_ret he) ?_; try simp [pairs, hbig', hva, compsL, okE, hps, hj, hcc, rows, hrk]) | (with_reducible refine And.intro ?_ ?_) | (with_reducible intro hg) | (clear hK' K'; omega)))
    | (with_reducible refine w_cond (fun A B hA hB => ?_); simp [pairs, hbig', hva, compsL, okE, hps, hj, hcc, rows, hrk]; repeat' (first | (with_reducible refine hA ?_; clear hA hB A B) | (with_reducible refine hB ?_; clear hA hB A B) | (with_reducible refine And.intro ?_ ?_) | (with_reducible intro hc)))
    | (with_reducible refine awp_seq ?_))
  all_goals try omega
  refine awp_loop (fun env h => ∃ (i : Nat) (all : List Int), i ≤ ps.length ∧ env 10 = I i ∧ env 9 = ints all ∧ env 0 = I m ∧ env 1 = pairs es ∧ env 5 = rows ps ∧ env 7 = .sl ((List.range m).map fun w => I (c w : Int)) m ∧ h = H ∧
      IsSet all ∧ (∀ x ∈ all, 0 ≤ x ∧ x < m) ∧ ∀ x, x ∈ all ↔ ∃ p ∈ ps.take i, x ∈ p) (fun env _ => ps.length - natA (env 10)) ?_ ?_
  · exact ⟨0, [], by omega, by simp, by simp, by simp, by simp [pairs], by simp [rows], by simp, rfl, .nil, by simp, by simp⟩
  rintro env h ⟨i, all, hi, h10, h9, h0, h1, h5, h7, rfl, has, hal, ham⟩
  have hnat : natA (env 10) = i := by simp [h10]
  rw [hnat]; clear hnat
  have hall := up_length has.up hal
  by_cases hlt : i < ps.length
  · have hpm : ps[i] ∈ ps := List.getElem_mem _
    have hset := hpa.set _ hpm
    have hfull := hpa.full _ hpm
    have hplt := hpa.lt _ hpm
    have hhead := hpa.head _ hpm
    have hdis : ∀ x ∈ all, x ∉ ps[i] := by
      intro x hx
      obtain ⟨p, hp, hxp⟩ := (ham x).1 hx
      obtain ⟨i', h', hlt', e⟩ := mem_take.1 hp
      exact hpa.disj i' i h' hlt hlt' x (by rw [e]; exact hxp)
    have hmeet : (all.filter fun x => decide (x ∈ ps[i])) = [] := by
      rw [List.filter_eq_nil_iff]
      intro x hx; simpa using hdis x hx
    have hunion := unionR_spec has hset
    have hts : ∀ p, p ∈ ps.take (i + 1) ↔ p ∈ ps.take i ∨ p = ps[i] := by
      intro p; rw [List.take_succ_eq_append_getElem hlt, List.mem_append, List.mem_singleton]
    have hpl := up_length hset.up hplt
    have hpne := List.ne_nil_of_length_pos hfull
    have hri := rises_iff.2 has
    have hri2 := rises_iff.2 hset
    generalize hp : ps[i] = p at *
    have hpi : ∀ h, ps[i]'h = p := fun _ => hp
    have hps0 : smLen all := by rw [smLen]; omega
    have hps1 : smLen p := by rw [smLen]; omega
    have hps2 : okLen p := by rw [okLen]; omega
    have hps3 : smLen (all ++ p) := by rw [smLen]; simp; omega
    repeat' (first
      | (with_reducible refine awp_skip ?_)
      | (with_reducible refine then_any ?_)
      | (with_reducible refine then_ret ?_)
      | (with_reducible refine then_exit ?_)
      | (with_reducible refine inBlock_normal ?_)
      | (with_reducible refine inBlock_ret ?_)
      | (with_reducible refine inBlock_hit ?_)
      | (with_reducible refine inBlock_miss (by decide) ?_)
      | (with_reducible refine awp_ret ?_)
      | (with_reducible refine awp_exit ?_)
      | (with_reducible refine post_ret ?_)
      | (with_reducible refine post_normal ?_)
      | (with_reducible refine awp_block ?_)
      | (with_reducible refine v_reg [] (fun K hK => ?_))
      | (with_reducible refine v_reg1 [] (fun K hK => ?_))
      | (with_reducible refine v_draw mixed [] [] (by kernel_rfl) (fun K hK => ?_))
      | (with_reducible refine v_draw1 mixed [] [] (by kernel_rfl) (fun K hK => ?_))
      | (with_reducible refine ev_nil (hK _ _ ?_); clear hK K)
      | (with_reducible refine ed_nil (hK _ _ ?_); clear hK K)
      | ((first | with_reducible refine ev_cons (fun K' hK' => ?_) | with_reducible refine ed_cons (fun K' hK' => ?_) | (with_reducible refine ev_id ?_; refine ev_guard rfl (fun K' hK' => ?_)) | (with_reducible refine ed_id ?_; refine ed_guard rfl (fun K' hK' => ?_))); simp [h10, h9, h0, h1, h5, h7, hlt, hpi, ints, rows, hri, hri2, hmeet, hpne]; repeat' (first | (with_reducible refine hK' _ _ ?_; clear hK' K') | (with_reducible refine Ret.use (may2_ret hps2) ?_; try simp [h10, h9, h0, h1, h5, h7, hlt, hpi, ints, rows, hri, hri2, hmeet, hpne]) | (with_reducible refine Ret.use (meet2_ret hps0 hps2) ?_; try simp [h10, h9, h0, h1, h5, h7, hlt, hpi, ints, rows, hri, hri2, hmeet, hpne]) | (with_reducible refine Ret.use (union2_ret hps3) ?_; try simp [h10, h9, h0, h1, h5, h7, hlt, hpi, ints, rows, hri, hri2, hmeet, hpne]) | (with_reducible refine And.intro ?_ ?_) | (with_reducible intro hg) | (clear hK' K'; omega)))
      | (with_reducible refine w_cond (fun A B hA hB => ?_); simp [h10, h9, h0, h1, h5, h7, hlt, hpi, ints, rows, hri, hri2, hmeet, hpne]; repeat' (first | (with_reducible refine hA ?_; clear hA hB A B) | (with_reducible refine hB ?_; clear hA hB A B) | (with_reducible refine And.intro ?_ ?_) | (with_reducible intro hc)))
      | (with_reducible refine awp_seq ?_))
    all_goals try omega
    refine awp_loop (fun env h' => ∃ (k : Nat), k ≤ p.length ∧ env 11 = I k ∧ env 10 = I i ∧ env 9 = ints (unionR all p) ∧ env 0 = I m ∧ env 1 = pairs es ∧ env 5 = rows ps ∧ env 7 = .sl ((List.range m).map fun w => I (c w : Int)) m ∧ h' = h) (fun env _ => p.length - natA (env 11)) ?_ ?_
    · exact ⟨0, by omega, by simp, by simp [h10], by simp, by simp [h0], by simp [h1, pairs], by simp [h5], by simp [h7], rfl⟩
    clear h10 h9 h0 h1 h5 h7
    rintro env h ⟨k, hk, h11, h10, h9, h0, h1, h5, h7, rfl⟩
    have hnat : natA (env 11) = k := by simp [h11]
    rw [hnat]; clear hnat
    by_cases hkl : k < p.length
    · have hx := hplt p[k] (List.getElem_mem _)
      have hx1 : ¬ (m : Int) ≤ p[k] := by omega
      have hx2 : p[k].toNat < m := by omega
      have hh := hhead p[k] (List.getElem_mem _) hfull
      repeat' (first
        | (with_reducible refine awp_skip ?_)
        | (with_reducible refine then_any ?_)
        | (with_reducible refine then_ret ?_)
        | (with_reducible refine then_exit ?_)
        | (with_reducible refine inBlock_normal ?_)
        | (with_reducible refine inBlock_ret ?_)
        | (with_reducible refine inBlock_hit ?_)
        | (with_reducible refine inBlock_miss (by decide) ?_)
        | (with_reducible refine awp_ret ?_)
        | (with_reducible refine awp_exit ?_)
        | (with_reducible refine post_ret ?_)
        | (with_reducible refine post_normal ?_)
        | (with_reducible refine awp_block ?_)
        | (with_reducible refine v_reg [] (fun K hK => ?_))
        | (with_reducible refine v_reg1 [] (fun K hK => ?_))
        | (with_reducible refine v_draw mixed [] [] (by kernel_rfl) (fun K hK => ?_))
        | (with_reducible refine v_draw1 mixed [] [] (by kernel_rfl) (fun K hK => ?_))
        | (with_reducible refine ev_nil (hK _ _ ?_); clear hK K)
        | (with_reducible refine ed_nil (hK _ _ ?_); clear hK K)
        | ((first | with_reducible refine ev_cons (fun K' hK' => ?_) | with_reducible refine ed_cons (fun K' hK' => ?_) | (with_reducible refine ev_id ?_; refine ev_guard rfl (fun K' hK' => ?_)) | (with_reducible refine ed_id ?_; refine ed_guard rfl (fun K' hK' => ?_))); simp [h11, h10, h9, h0, h1, h5, h7, hlt, hpi, ints, rows, hkl, hx, hx1, hx2, hh, hfull]; repeat' (first | (with_reducible refine hK' _ _ ?_; clear hK' K') | (with_reducible refine And.intro ?_ ?_) | (with_reducible intro hg) | (clear hK' K'; omega)))
        | (with_reducible refine w_cond (fun A B hA hB => ?_); simp [h11, h10, h9, h0, h1, h5, h7, hlt, hpi, ints, rows, hkl, hx, hx1, hx2, hh, hfull]; repeat' (first | (with_reducible refine hA ?_; clear hA hB A B) | (with_reducible refine hB ?_; clear hA hB A B) | (with_reducible refine And.intro ?_ ?_) | (with_reducible intro hc)))
        | (with_reducible refine awp_seq ?_))
      all_goals first | (exfalso; omega) | exact ⟨⟨k + 1, by omega, by simp, by simp [h10], by simp [h9], by simp [h0], by simp [h1], by simp [h5], by simp [h7], rfl⟩, by simp; omega⟩
    · have : k = p.length := by omega
      subst this
      repeat' (first
        | (with_reducible refine awp_skip ?_)
        | (with_reducible refine then_any ?_)
        | (with_reducible refine then_ret ?_)
        | (with_reducible refine then_exit ?_)
        | (with_reducible refine inBlock_normal ?_)
        | (with_reducible refine inBlock_ret ?_)
        | (with_reducible refine inBlock_hit ?_)
        | (with_reducible refine inBlock_miss (by decide) ?_)
        | (with_reducible refine awp_ret ?_)
        | (with_reducible refine awp_exit ?_)
        | (with_reducible refine post_ret ?_)
        | (with_reducible refine post_normal ?_)
        | (with_reducible refine awp_block ?_)
        | (with_reducible refine v_reg [] (fun K hK => ?_))
        | (with_reducible refine v_reg1 [] (fun K hK => ?_))
        | (with_reducible refine v_draw mixed [] [] (by kernel_rfl) (fun K hK => ?_))
        | (with_reducible refine v_draw1 mixed [] [] (by kernel_rfl) (fun K hK => ?_))
        | (with_reducible refine ev_nil (hK _ _ ?_); clear hK K)
        | (with_reducible refine ed_nil (hK _ _ ?_); clear hK K)
        | ((first | with_reducible refine ev_cons (fun K' hK' => ?_) | with_reducible refine ed_cons (fun K' hK' => ?_) | (with_reducible refine ev_id ?_; refine ev_guard rfl (fun K' hK' => ?_)) | (with_reducible refine ed_id ?_; refine ed_guard rfl (fun K' hK' => ?_))); simp [h11, h10, h9, h0, h1, h5, h7, hlt, hpi, ints, rows]; repeat' (first | (with_reducible refine hK' _ _ ?_; clear hK' K') | (with_reducible refine And.intro ?_ ?_) | (with_reducible intro hg) | (clear hK' K'; omega)))
        | (with_reducible refine w_cond (fun A B hA hB => ?_); simp [h11, h10, h9, h0, h1, h5, h7, hlt, hpi, ints, rows]; repeat' (first | (with_reducible refine hA ?_; clear hA hB A B) | (with_reducible refine hB ?_; clear hA hB A B) | (with_reducible refine And.intro ?_ ?_) | (with_reducible intro hc)))
        | (with_reducible refine awp_seq ?_))
      refine ⟨⟨i + 1, unionR all p, by omega, by simp, by simp [h9], by simp [h0], by simp [h1], by simp [h5], by simp [h7], rfl, hunion.1, fun x hx => ?_, fun x => ?_⟩, by simp; omega⟩
      · rcases (hunion.2 x).1 hx with h | h
        · exact hal x h
        · exact hplt x h
      · rw [hunion.2, ham]
        constructor
        · rintro (⟨q, h, hx⟩ | h)
          · exact ⟨q, (hts q).2 (.inl h), hx⟩
          · exact ⟨p, (hts p).2 (.inr rfl), h⟩
        · rintro ⟨q, h, hx⟩
          rcases (hts q).1 h with h | rfl
          · exact .inl ⟨q, h, hx⟩
          · exact .inr hx
  · have : i = ps.length := by omega
    subst this
    rw [List.take_length] at ham
    have hlen : all = upto m := up_ext has.up (up_upto m) fun x => by
      rw [mem_upto]
      constructor
      · exact fun h => hal x h
      · intro h
        obtain ⟨p, hp, hx⟩ := hpa.cover x.toNat (by omega)
        exact (ham x).2 ⟨p, hp, by rwa [show ((x.toNat : Nat) : Int) = x by omega] at hx⟩
    have hlen' : all.length = m := by rw [hlen]; simp
    repeat' (first
      | (with_reducible refine awp_skip ?_)
      | (with_reducible refine then_any ?_)
      | (with_reducible refine then_ret ?_)
      | (with_reducible refine then_exit ?_)
      | (with_reducible refine inBlock_normal ?_)
      | (with_reducible refine inBlock_ret ?_)
      | (with_reducible refine inBlock_hit ?_)
      | (with_reducible refine inBlock_miss (by decide) ?_)
      | (with_reducible refine awp_ret ?_)
      | (with_reducible refine awp_exit ?_)
      | (with_reducible refine post_ret ?_)
      | (with_reducible refine post_normal ?_)
      | (with_reducible refine awp_block ?_)
      | (with_reducible refine v_reg [] (fun K hK => ?_))
      | (with_reducible refine v_reg1 [] (fun K hK => ?_))
      | (with_reducible refine v_draw mixed [] [] (by kernel_rfl) (fun K hK => ?_))
      | (with_reducible refine v_draw1 mixed [] [] (by kernel_rfl) (fun K hK => ?_))
      | (with_reducible refine ev_nil (hK _ _ ?_); clear hK K)
      | (with_reducible refine ed_nil (hK _ _ ?_); clear hK K)
      | ((first | with_reducible refine ev_cons (fun K' hK' => ?_) | with_reducible refine ed_cons (fun K' hK' => ?_) | (with_reducible refine ev_id ?_; refine ev_guard rfl (fun K' hK' => ?_)) | (with_reducible refine ed_id ?_; refine ed_guard rfl (fun K' hK' => ?_))); simp [h10, h9, h0, h1, h5, h7, ints, rows]; repeat' (first | (with_reducible refine hK' _ _ ?_; clear hK' K') | (with_reducible refine And.intro ?_ ?_) | (with_reducible intro hg) | (clear hK' K'; omega)))
      | (with_reducible refine w_cond (fun A B hA hB => ?_); simp [h10, h9, h0, h1, h5, h7, ints, rows]; repeat' (first | (with_reducible refine hA ?_; clear hA hB A B) | (with_reducible refine hB ?_; clear hA hB A B) | (with_reducible refine And.intro ?_ ?_) | (with_reducible intro hc)))
      | (with_reducible refine awp_seq ?_))
    refine awp_loop (fun env h' => ∃ (k : Nat), k ≤ es.length ∧ env 12 = I k ∧ env 9 = ints all ∧ env 0 = I m ∧ env 1 = pairs es ∧ env 5 = rows ps ∧ env 7 = .sl ((List.range m).map fun w => I (c w : Int)) m ∧ h' = h) (fun env _ => es.length - natA (env 12)) ?_ ?_
    · exact ⟨0, by omega, by simp, by simp [h9], by simp [h0], by simp [h1, pairs], by simp [h5], by simp [h7], rfl⟩
    clear h10 h9 h0 h1 h5 h7
    rintro env h ⟨k, hk, h12, h9, h0, h1, h5, h7, rfl⟩
    have hnat : natA (env 12) = k := by simp [h12]
    rw [hnat]; clear hnat
    by_cases hkl : k < es.length
    · have hp := pairs_get hkl
      have hok := hE es[k] (List.getElem_mem _)
      have hx1 : es[k].1.toNat < m := by omega
      have hx2 : es[k].2.toNat < m := by omega
      have hce := hc.edge es[k] (List.getElem_mem _)
      have q1 : ∀ h, (es.flatMap fun e => [I e.1, I e.2])[k * 2]'h = I es[k].1 := fun h => (List.getElem?_eq_some_iff.1 hp.1).2
      have q2 : ∀ h, (es.flatMap fun e => [I e.1, I e.2])[k * 2 + 1]'h = I es[k].2 := fun h => (List.getElem?_eq_some_iff.1 hp.2.1).2
      repeat' (first
        | (with_reducible refine awp_skip ?_)
        | (with_reducible refine then_any ?_)
        | (with_reducible refine then_ret ?_)
        | (with_reducible refine then_exit ?_)
        | (with_reducible refine inBlock_normal ?_)
        | (with_reducible refine inBlock_ret ?_)
        | (with_reducible refine inBlock_hit ?_)
        | (with_reducible refine inBlock_miss (by decide) ?_)
        | (with_reducible refine awp_ret ?_)
        | (with_reducible refine awp_exit ?_)
        | (with_reducible refine post_ret ?_)
        | (with_reducible refine post_normal ?_)
        | (with_reducible refine awp_block ?_)
        | (with_reducible refine v_reg [] (fun K hK => ?_))
        | (with_reducible refine v_reg1 [] (fun K hK => ?_))
        | (with_reducible refine v_draw mixed [] [] (by kernel_rfl) (fun K hK => ?_))
        | (with_reducible refine v_draw1 mixed [] [] (by kernel_rfl) (fun K hK => ?_))
        | (with_reducible refine ev_nil (hK _ _ ?_); clear hK K)
        | (with_reducible refine ed_nil (hK _ _ ?_); clear hK K)
        | ((first | with_reducible refine ev_cons (fun K' hK' => ?_) | with_reducible refine ed_cons (fun K' hK' => ?_) | (with_reducible refine ev_id ?_; refine ev_guard rfl (fun K' hK' => ?_)) | (with_reducible refine ed_id ?_; refine ed_guard rfl (fun K' hK' => ?_))); simp [h12, h9, h0, h1, h5, h7, hkl, ints, rows, pairs, pairs_len, sum2, hp.1, hp.2.1, q1, q2, hx1, hx2, hok.1, hok.2.1, hce]; repeat' (first | (with_reducible refine hK' _ _ ?_; clear hK' K') | (with_reducible refine And.intro ?_ ?_) | (with_reducible intro hg) | (clear hK' K'; omega)))
        | (with_reducible refine w_cond (fun A B hA hB => ?_); simp [h12, h9, h0, h1, h5, h7, hkl, ints, rows, pairs, pairs_len, sum2, hp.1, hp.2.1, q1, q2, hx1, hx2, hok.1, hok.2.1, hce]; repeat' (first | (with_reducible refine hA ?_; clear hA hB A B) | (with_reducible refine hB ?_; clear hA hB A B) | (with_reducible refine And.intro ?_ ?_) | (with_reducible intro hc)))
        | (with_reducible refine awp_seq ?_))
      all_goals first | (exfalso; omega) | exact ⟨⟨k + 1, by omega, by simp, by simp [h9], by simp [h0], by simp [h1], by simp [h5], by simp [h7], rfl⟩, by simp; omega⟩
    · have : k = es.length := by omega
      subst this
      by_cases hne : es = []
      · subst hne
        repeat' (first
          | (with_reducible refine awp_skip ?_)
          | (with_reducible refine then_any ?_)
          | (with_reducible refine then_ret ?_)
          | (with_reducible refine then_exit ?_)
          | (with_reducible refine inBlock_normal ?_)
          | (with_reducible refine inBlock_ret ?_)
          | (with_reducible refine inBlock_hit ?_)
          | (with_reducible refine inBlock_miss (by decide) ?_)
          | (with_reducible refine awp_ret ?_)
          | (with_reducible refine awp_exit ?_)
          | (with_reducible refine post_ret ?_)
          | (with_reducible refine post_normal ?_)
          | (with_reducible refine awp_block ?_)
          | (with_reducible refine v_reg [] (fun K hK => ?_))
          | (with_reducible refine v_reg1 [] (fun K hK => ?_))
          | (with_reducible refine v_draw mixed [] [] (by kernel_rfl) (fun K hK => ?_))
          | (with_reducible refine v_draw1 mixed [] [] (by kernel_rfl) (fun K hK => ?_))
          | (with_reducible refine ev_nil (hK _ _ ?_); clear hK K)
          | (with_reducible refine ed_nil (hK _ _ ?_); clear hK K)
          | ((first | with_reducible refine ev_cons (fun K' hK' => ?_) | with_reducible refine ed_cons (fun K' hK' => ?_) | (with_reducible refine ev_id ?_; refine ev_guard rfl (fun K' hK' => ?_)) | (with_reducible refine ed_id ?_; refine ed_guard rfl (fun K' hK' => ?_))); simp [h12, h9, h0, h1, h5, h7, ints, rows, pairs, hlen']; repeat' (first | (with_reducible refine hK' _ _ ?_; clear hK' K') | (with_reducible refine And.intro ?_ ?_) | (with_reducible intro hg) | (clear hK' K'; omega)))
          | (with_reducible refine w_cond (fun A B hA hB => ?_); simp [h12, h9, h0, h1, h5, h7, ints, rows, pairs, hlen']; repeat' (first | (with_reducible refine hA ?_; clear hA hB A B) | (with_reducible refine hB ?_; clear hA hB A B) | (with_reducible refine And.intro ?_ ?_) | (with_reducible intro hc)))
          | (with_reducible refine awp_seq ?_))
        simp
      · have hpos : 0 < es.length := List.length_pos_iff.2 hne
        obtain ⟨ht1, ht2, ht3⟩ := htail hne
        have hto : okLen (es.drop 1) := by rw [okLen]; simp; omega
        have hdl : (es.drop 1).length = es.length - 1 := by simp
        have hdc : (es.flatMap fun e => [I e.1, I e.2]).drop 2 = (es.drop 1).flatMap fun e => [I e.1, I e.2] := by
          cases es with
          | nil => exact absurd rfl hne
          | cons e es => simp
        generalize hde : es.drop 1 = tl at *
        repeat' (first
          | (with_reducible refine awp_skip ?_)
          | (with_reducible refine then_any ?_)
          | (with_reducible refine then_ret ?_)
          | (with_reducible refine then_exit ?_)
          | (with_reducible refine inBlock_normal ?_)
          | (with_reducible refine inBlock_ret ?_)
          | (with_reducible refine inBlock_hit ?_)
          | (with_reducible refine inBlock_miss (by decide) ?_)
          | (with_reducible refine awp_ret ?_)
          | (with_reducible refine awp_exit ?_)
          | (with_reducible refine post_ret ?_)
          | (with_reducible refine post_normal ?_)
          | (with_reducible refine awp_block ?_)
          | (with_reducible refine v_reg [] (fun K hK => ?_))
          | (with_reducible refine v_reg1 [] (fun K hK => ?_))
          | (with_reducible refine v_draw mixed [] [] (by kernel_rfl) (fun K hK => ?_))
          | (with_reducible refine v_draw1 mixed [] [] (by kernel_rfl) (fun K hK => ?_))
          | (with_reducible refine ev_nil (hK _ _ ?_); clear hK K)
          | (with_reducible refine ed_nil (hK _ _ ?_); clear hK K)
          | ((first | with_reducible refine ev_cons (fun K' hK' => ?_) | with_reducible refine ed_cons (fun K' hK' => ?_) | (with_reducible refine ev_id ?_; refine ev_guard rfl (fun K' hK' => ?_)) | (with_reducible refine ed_id ?_; refine ed_guard rfl (fun K' hK' => ?_))); simp [h12, h9, h0, h1, h5, h7, ints, rows, pairs, hlen', hpos, ht1, hdc, hdl, sum2]; repeat' (first | (with_reducible refine hK' _ _ ?_; clear hK' K') | ((with_reducible refine Ret.use_eq (rank_ret (n := m) hto) ?_ ?_; (· simp [pairs, hdl])); try simp [h12, h9, h0, h1, h5, h7, ints, rows, pairs, hlen', hpos, ht1, hdc, hdl, sum2]) | (with_reducible refine And.intro ?_ ?_) | (with_reducible intro hg) | (clear hK' K'; omega)))
          | (with_reducible refine w_cond (fun A B hA hB => ?_); simp [h12, h9, h0, h1, h5, h7, ints, rows, pairs, hlen', hpos, ht1, hdc, hdl, sum2]; repeat' (first | (with_reducible refine hA ?_; clear hA hB A B) | (with_reducible refine hB ?_; clear hA hB A B) | (with_reducible refine And.intro ?_ ?_) | (with_reducible intro hc)))
          | (with_reducible refine awp_seq ?_))
        all_goals try simp
        all_goals try omega
#print axioms joinParts_ret
end Go.Am
