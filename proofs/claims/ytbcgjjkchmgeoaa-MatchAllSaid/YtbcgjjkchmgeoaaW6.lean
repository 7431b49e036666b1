/- Contracts: the forest of what is joined. -/
import Derived.Test.YtbcgjjkchmgeoaaW5
namespace Go.Am
open Go Go.Proofs
set_option linter.unusedVariables false
set_option linter.unusedSimpArgs false
variable {w0 : World}
attribute [local irreducible] AWP ACalls
attribute [local congr] acalls_congr

/-- The root of a vertex. -/
def rootN (up : List Nat) (v : Nat) : Nat := if up.getD v v < v then rootN up (up.getD v v) else v
termination_by v

/-- Parents are no greater than their children. -/
structure Par (up : List Nat) (n : Nat) : Prop where
  len : up.length = n
  le : ∀ (v : Nat) (h : v < up.length), up[v] ≤ v

theorem rootN_le (up : List Nat) (v : Nat) : rootN up v ≤ v := by
  induction v using Nat.strongRecOn with
  | _ v ih =>
    rw [rootN]
    split
    · rename_i h; exact Nat.le_trans (ih _ h) (by omega)
    · omega

theorem rootN_root (up : List Nat) (v : Nat) : rootN up (rootN up v) = rootN up v := by
  induction v using Nat.strongRecOn with
  | _ v ih =>
    by_cases h : up.getD v v < v
    · have e : rootN up v = rootN up (up.getD v v) := by rw [rootN, if_pos h]
      rw [e]; exact ih _ h
    · have e : rootN up v = v := by rw [rootN, if_neg h]
      rw [e, e]

theorem rootN_get {up : List Nat} {v : Nat} (h : v < up.length) : rootN up v = if up[v] < v then rootN up up[v] else v := by
  rw [rootN]
  simp [h]

theorem rootN_short {up : List Nat} {n v : Nat} (p : Par up n) (hv : v < up.length) (hp : up[v] < up.length) : 
    Par (up.set v up[up[v]]) n ∧ ∀ w, w < n → rootN (up.set v up[up[v]]) w = rootN up w := by
  have h1 := p.le v hv
  have h2 := p.le _ hp
  refine ⟨⟨by simp [p.len], fun w hw => ?_⟩, fun w => ?_⟩
  · rw [List.getElem_set]
    split
    · omega
    · exact p.le w (by simpa using hw)
  · induction w using Nat.strongRecOn with
    | _ w ih =>
      intro hw
      have hw' : w < up.length := by rw [p.len]; exact hw
      rw [rootN_get (by simpa using hw'), rootN_get hw', List.getElem_set]
      have hle := p.le w hw'
      by_cases e : v = w
      · subst e
        rw [if_pos rfl]
        by_cases hlt : up[v] < v
        · rw [if_pos (by omega), if_pos hlt, ih _ (by omega) (by omega), rootN_get hp]
          split
          · rfl
          · have : up[up[v]] = up[v] := by omega
            rw [this, rootN_get hp, if_neg (by omega)]
        · have e1 : up[v] = v := by omega
          have e2 : up[up[v]] = v := by
            have : ∀ x (h : x < up.length), x = v → up[x] = up[v] := by rintro x h rfl; rfl
            rw [this _ hp e1, e1]
          rw [if_neg (by omega), if_neg (by omega)]
      · rw [if_neg e]
        split
        · exact ih _ (by omega) (by omega)
        · rfl

theorem rootN_join {up : List Nat} {n a b : Nat} (p : Par up n) (ha : a < n) (hb : b < a) (ra : rootN up a = a) (rb : rootN up b = b) :
    Par (up.set a b) n ∧ ∀ w, w < n → rootN (up.set a b) w = if rootN up w = a then b else rootN up w := by
  refine ⟨⟨by simp [p.len], fun w hw => ?_⟩, fun w => ?_⟩
  · rw [List.getElem_set]
    split
    · omega
    · exact p.le w (by simpa using hw)
  · induction w using Nat.strongRecOn with
    | _ w ih =>
      intro hw
      have hw' : w < up.length := by rw [p.len]; exact hw
      rw [rootN_get (by simpa using hw'), List.getElem_set]
      by_cases e : a = w
      · subst e
        rw [if_pos rfl, if_pos hb, ih b hb (by omega), rb, ra, if_pos rfl, if_neg (by omega)]
      · rw [if_neg e, rootN_get hw']
        split
        · exact ih _ (by omega) (by omega)
        · rw [if_neg (fun h => e h.symm)]

/-- The forest's blocks: its parents in R, itself in F. -/
def fst (H : Heap) (F R : Nat) (up : List Nat) (j : Nat) : Heap :=
  upd (upd H R (some (.arr 1 3 (up.map fun x : Nat => I (x : Int)) up.length))) F (some (.box [.ref R 0 up.length up.length, I (j : Int)]))

theorem fst_F (H : Heap) (F R : Nat) (up : List Nat) (j : Nat) : fst H F R up j F = some (.box [.ref R 0 up.length up.length, I (j : Int)]) := by simp [fst]
theorem fst_R {F R : Nat} (h : R ≠ F) (H : Heap) (up : List Nat) (j : Nat) : fst H F R up j R = some (.arr 1 3 (up.map fun x : Nat => I (x : Int)) up.length) := by simp [fst, h]
theorem fst_set {F R : Nat} (h : R ≠ F) (H : Heap) (up : List Nat) (j a b : Nat) :
    upd (fst H F R up j) R (some (.arr 1 3 ((up.map fun x : Nat => I (x : Int)).set a (I (b : Int))) up.length)) = fst H F R (up.set a b) j := by
  unfold fst
  rw [upd_comm _ _ _ (fun e => h e.symm), upd_upd]
  simp [List.map_set]
theorem fst_box (H : Heap) (F R : Nat) (up : List Nat) (j k : Nat) : upd (fst H F R up j) F (some (.box [.ref R 0 up.length up.length, I (k : Int)])) = fst H F R up k := by
  unfold fst
  rw [upd_upd]
theorem fst_inc (H : Heap) (F R : Nat) (up : List Nat) (j : Nat) {n : Nat} (hn : n = up.length) : upd (fst H F R up j) F (some (.box [.ref R 0 n n, .sc (.int .i64 ((j : Int) + 1))])) = fst H F R up (j + 1) := by
  subst hn
  exact fst_box H F R up j (j + 1)
theorem fst_upd {F R r : Nat} (h1 : r ≠ F) (h2 : r ≠ R) (H : Heap) (up : List Nat) (j : Nat) (x : Option Blk) : upd (fst H F R up j) r x = fst (upd H r x) F R up j := by
  unfold fst
  rw [upd_comm _ _ _ (fun e => h1 e.symm), upd_comm _ _ _ (fun e => h2 e.symm)]
theorem fst_none {H : Heap} {F R r : Nat} {up : List Nat} {j : Nat} (h : fst H F R up j r = none) : r ≠ F ∧ r ≠ R ∧ H r = none := by
  unfold fst at h
  by_cases e1 : r = F
  · subst e1; simp [upd_same] at h
  · rw [upd_ne _ _ _ e1] at h
    by_cases e2 : r = R
    · subst e2; simp [upd_same] at h
    · rw [upd_ne _ _ _ e2] at h; exact ⟨e1, e2, h⟩
theorem fst_at {H : Heap} {F R r : Nat} (h1 : r ≠ F) (h2 : r ≠ R) (up : List Nat) (j : Nat) : fst H F R up j r = H r := by
  unfold fst; rw [upd_ne _ _ _ h1, upd_ne _ _ _ h2]
theorem sub_fst {H : Heap} {F R : Nat} (hF : H F = none) (hR : H R = none) (up : List Nat) (j : Nat) : Sub H (fst H F R up j) := ((Sub.refl H).upd hR _).upd hF _
theorem rootN_up {up : List Nat} {n v : Nat} (p : Par up n) (hv : v < up.length) : rootN up up[v] = rootN up v := by
  have := p.le v hv
  rw [rootN_get hv]
  split
  · rfl
  · have e : up[v] = v := by omega
    rw [e, rootN_get hv, if_neg (by omega)]

theorem root_ok {H : Heap} {F R n v j : Nat} {up : List Nat} (p : Par up n) (hv : v < n) (hRF : R ≠ F) {K : AV → Heap → Prop}
    (k : ∀ up', Par up' n → (∀ w, w < n → rootN up' w = rootN up w) → K (I (rootN up v : Nat)) (fst H F R up' j)) : ACalls Try.prog w0 68 [.ptr F 0 0, I (v : Int)] (fst H F R up j) K := by
  refine w_enter Try.func68 rfl Try.ntmps68 (ts := [4]) rfl (by simp) (by kernel_rfl) ?_
  repeat' (first
    | (with_reducible refine awp_skip ?_)
    | (with_reducible refine then_any ?_)
    | (with_reducible refine then_ret ?_)
    | (with_reducible refine then_exit ?_)
    | (with_reducible refine inBlock_normal ?_)
    | (with_reducible refine inBlock_ret ?_)
    | (with_reducible refine inBlock_hit ?_)
    | (with_reducible refine inBlock_miss (by decide) ?_)
    | (with_reducible refine awp_ret ?_)
    | (with_reducible refine awp_exit ?_)
    | (with_reducible refine post_ret ?_)
    | (with_reducible refine post_normal ?_)
    | (with_reducible refine awp_block ?_)
    | (with_reducible refine v_reg [] (fun K hK => ?_))
    | (with_reducible refine v_reg1 [] (fun K hK => ?_))
    | (with_reducible refine v_draw mixed [] [] (by kernel_rfl) (fun K hK => ?_))
    | (with_reducible refine v_draw1 mixed [] [] (by kernel_rfl) (fun K hK => ?_))
    | (with_reducible refine ev_nil (hK _ _ ?_); clear hK K)
    | (with_reducible refine ed_nil (hK _ _ ?_); clear hK K)
    | ((first | with_reducible refine ev_cons (fun K' hK' => ?_) | with_reducible refine ed_cons (fun K' hK' => ?_) | (with_reducible refine ev_id ?_; refine ev_guard rfl (fun K' hK' => ?_)) | (with_reducible refine ed_id ?_; refine ed_guard rfl (fun K' hK' => ?_))); simp; repeat' (first | (with_reducible refine hK' _ _ ?_; clear hK' K') | (with_reducible refine And.intro ?_ ?_) | (with_reducible intro hg) | (clear hK' K'; omega)))
    | (with_reducible refine w_cond (fun A B hA hB => ?_); simp; repeat' (first | (with_reducible refine hA ?_; clear hA hB A B) | (with_reducible refine hB ?_; clear hA hB A B) | (with_reducible refine And.intro ?_ ?_) | (with_reducible intro hc)))
    | (with_reducible refine awp_seq ?_))
  refine awp_loop (fun env h => ∃ up' v', Par up' n ∧ (∀ w, w < n → rootN up' w = rootN up w) ∧ v' < n ∧ rootN up v' = rootN up v ∧ env 0 = .ptr F 0 0 ∧ env 1 = I (v' : Nat) ∧ h = fst H F R up' j) (fun env _ => natA (env 1)) ?_ ?_
  · exact ⟨up, v, p, fun _ _ => rfl, hv, rfl, by simp, by simp, rfl⟩
  rintro env h ⟨up', v', p', hr, hv', hrv, h0, h1, rfl⟩
  have hnat : natA (env 1) = v' := by simp [h1]
  rw [hnat]; clear hnat
  have hvl : v' < up'.length := by rw [p'.len]; exact hv'
  have hle := p'.le v' hvl
  have hpl : up'[v'] < up'.length := by omega
  have hle2 := p'.le _ hpl
  have hsh := rootN_short p' hvl hpl
  repeat' (first
    | (with_reducible refine awp_skip ?_)
    | (with_reducible refine then_any ?_)
    | (with_reducible refine then_ret ?_)
    | (with_reducible refine then_exit ?_)
    | (with_reducible refine inBlock_normal ?_)
    | (with_reducible refine inBlock_ret ?_)
    | (with_reducible refine inBlock_hit ?_)
    | (with_reducible refine inBlock_miss (by decide) ?_)
    | (with_reducible refine awp_ret ?_)
    | (with_reducible refine awp_exit ?_)
    | (with_reducible refine post_ret ?_)
    | (with_reducible refine post_normal ?_)
    | (with_reducible refine awp_block ?_)
    | (with_reducible refine v_reg [] (fun K hK => ?_))
    | (with_reducible refine v_reg1 [] (fun K hK => ?_))
    | (with_reducible refine v_draw mixed [] [] (by kernel_rfl) (fun K hK => ?_))
    | (with_reducible refine v_draw1 mixed [] [] (by kernel_rfl) (fun K hK => ?_))
    | (with_reducible refine ev_nil (hK _ _ ?_); clear hK K)
    | (with_reducible refine ed_nil (hK _ _ ?_); clear hK K)
    | ((first | with_reducible refine ev_cons (fun K' hK' => ?_) | with_reducible refine ed_cons (fun K' hK' => ?_) | (with_reducible refine ev_id ?_; refine ev_guard rfl (fun K' hK' => ?_)) | (with_reducible refine ed_id ?_; refine ed_guard rfl (fun K' hK' => ?_))); simp [h0, h1, fst_F, fst_R hRF, fst_set hRF, hvl, hpl]; repeat' (first | (with_reducible refine hK' _ _ ?_; clear hK' K') | (with_reducible refine And.intro ?_ ?_) | (with_reducible intro hg) | (clear hK' K'; omega)))
    | (with_reducible refine w_cond (fun A B hA hB => ?_); simp [h0, h1, fst_F, fst_R hRF, fst_set hRF, hvl, hpl]; repeat' (first | (with_reducible refine hA ?_; clear hA hB A B) | (with_reducible refine hB ?_; clear hA hB A B) | (with_reducible refine And.intro ?_ ?_) | (with_reducible intro hc)))
    | (with_reducible refine awp_seq ?_))
  · have h1' : rootN up' up'[up'[v']] = rootN up' v' := by rw [rootN_up p' hpl, rootN_up p' hvl]
    have h2' : up'[up'[v']] < n := by omega
    refine ⟨⟨up'.set v' up'[up'[v']], up'[up'[v']], hsh.1, fun w hw => by rw [hsh.2 w hw, hr w hw], h2', ?_, by simp [h0], by simp, rfl⟩, by simp; omega⟩
    rw [← hr _ h2', h1', hr _ hv', hrv]
  · have e : rootN up' v' = v' := by rw [rootN_get hvl, if_neg (by omega)]
    have e2 : rootN up v = v' := by rw [← hrv, ← hr _ hv', e]
    have := k up' p' hr
    rw [e2] at this
    simpa using this

theorem join_ok {H : Heap} {F R n u v j : Nat} {up : List Nat} (p : Par up n) (hu : u < n) (hv : v < n) (hj : j ≤ 100000) (hRF : R ≠ F) {K : AV → Heap → Prop}
    (k : ∀ x up' j', Par up' n → (∀ w, w < n → rootN up' w = if rootN up w = max (rootN up u) (rootN up v) then min (rootN up u) (rootN up v) else rootN up w) →
      j' = (if rootN up u = rootN up v then j else j + 1) → K x (fst H F R up' j')) : ACalls Try.prog w0 91 [.ptr F 0 0, I (u : Int), I (v : Int)] (fst H F R up j) K := by
  refine w_enter Try.func91 rfl Try.ntmps91 (ts := []) rfl (by simp) (by kernel_rfl) ?_
  have hru := rootN_le up u
  have hrv := rootN_le up v
  repeat' (first
    | (with_reducible refine awp_skip ?_)
    | (with_reducible refine then_any ?_)
    | (with_reducible refine then_ret ?_)
    | (with_reducible refine then_exit ?_)
    | (with_reducible refine inBlock_normal ?_)
    | (with_reducible refine inBlock_ret ?_)
    | (with_reducible refine inBlock_hit ?_)
    | (with_reducible refine inBlock_miss (by decide) ?_)
    | (with_reducible refine awp_ret ?_)
    | (with_reducible refine awp_exit ?_)
    | (with_reducible refine post_ret ?_)
    | (with_reducible refine post_normal ?_)
    | (with_reducible refine awp_block ?_)
    | (with_reducible refine v_reg [] (fun K hK => ?_))
    | (with_reducible refine v_reg1 [] (fun K hK => ?_))
    | (with_reducible refine v_draw mixed [] [] (by kernel_rfl) (fun K hK => ?_))
    | (with_reducible refine v_draw1 mixed [] [] (by kernel_rfl) (fun K hK => ?_))
    | (with_reducible refine ev_nil (hK _ _ ?_); clear hK K)
    | (with_reducible refine ed_nil (hK _ _ ?_); clear hK K)
    | ((first | with_reducible refine ev_cons (fun K' hK' => ?_) | with_reducible refine ed_cons (fun K' hK' => ?_) | (with_reducible refine ev_id ?_; refine ev_guard rfl (fun K' hK' => ?_)) | (with_reducible refine ed_id ?_; refine ed_guard rfl (fun K' hK' => ?_))); simp [fst_F, fst_R hRF, fst_set hRF, fst_inc, imax, imin]; repeat' (first | (with_reducible refine hK' _ _ ?_; clear hK' K') | ((with_reducible refine root_ok p hu hRF (fun up1 p1 r1 => ?_)); try simp [fst_F, fst_R hRF, fst_set hRF, fst_inc, imax, imin]) | ((with_reducible refine root_ok p1 hv hRF (fun up2 p2 r2 => ?_); have hl2 := p2.len; simp only [r1 v hv]); try simp [fst_F, fst_R hRF, fst_set hRF, fst_inc, imax, imin]) | (with_reducible refine And.intro ?_ ?_) | (with_reducible intro hg) | (clear hK' K'; omega)))
    | (with_reducible refine w_cond (fun A B hA hB => ?_); simp [fst_F, fst_R hRF, fst_set hRF, fst_inc, imax, imin]; repeat' (first | (with_reducible refine hA ?_; clear hA hB A B) | (with_reducible refine hB ?_; clear hA hB A B) | (with_reducible refine And.intro ?_ ?_) | (with_reducible intro hc)))
    | (with_reducible refine awp_seq ?_))
  · have e : rootN up u = rootN up v := by omega
    exact k _ up2 j p2 (fun w hw => by rw [r2 w hw, r1 w hw, e]; simp) (by rw [if_pos e])
  · have e : rootN up u ≠ rootN up v := by omega
    have hmin : min (rootN up u) (rootN up v) < max (rootN up u) (rootN up v) := by omega
    have hr2 : ∀ w, w < n → rootN up2 w = rootN up w := fun w hw => by rw [r2 w hw, r1 w hw]
    have hroot : ∀ w, w < n → rootN up2 (rootN up w) = rootN up w := fun w hw => by
      have := rootN_le up w
      rw [hr2 _ (by omega), rootN_root]
    have h1 : rootN up2 (max (rootN up u) (rootN up v)) = max (rootN up u) (rootN up v) := by
      rcases Nat.le_total (rootN up u) (rootN up v) with h | h
      · rw [Nat.max_eq_right h, hroot v hv]
      · rw [Nat.max_eq_left h, hroot u hu]
    have h2 : rootN up2 (min (rootN up u) (rootN up v)) = min (rootN up u) (rootN up v) := by
      rcases Nat.le_total (rootN up u) (rootN up v) with h | h
      · rw [Nat.min_eq_left h, hroot u hu]
      · rw [Nat.min_eq_right h, hroot v hv]
    have hjn := rootN_join p2 (by omega) hmin h1 h2
    exact k _ _ (j + 1) hjn.1 (fun w hw => by rw [hjn.2 w hw, hr2 w hw]) (by rw [if_neg e])

theorem join_okI {H : Heap} {F R n j : Nat} {u v : Int} {up : List Nat} (p : Par up n) (hu : 0 ≤ u ∧ u < n) (hv : 0 ≤ v ∧ v < n) (hj : j ≤ 100000) (hRF : R ≠ F) {K : AV → Heap → Prop}
    (k : ∀ x up' j', Par up' n → (∀ w, w < n → rootN up' w = if rootN up w = max (rootN up u.toNat) (rootN up v.toNat) then min (rootN up u.toNat) (rootN up v.toNat) else rootN up w) →
      j' = (if rootN up u.toNat = rootN up v.toNat then j else j + 1) → K x (fst H F R up' j')) : ACalls Try.prog w0 91 [.ptr F 0 0, I u, I v] (fst H F R up j) K := by
  obtain ⟨u', rfl⟩ := Int.eq_ofNat_of_zero_le hu.1
  obtain ⟨v', rfl⟩ := Int.eq_ofNat_of_zero_le hv.1
  exact join_ok p (by omega) (by omega) hj hRF (by simpa using k)
#print axioms join_ok
end Go.Am
