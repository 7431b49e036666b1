/- Contracts: the search for a partner. -/
import Derived.Test.YtbcgjjkchmgeoaaW16
import Derived.Test.YtbcgjjkchmgeoaaM7
namespace Go.Am
open Go Go.Proofs
set_option linter.unusedVariables false
set_option linter.unusedSimpArgs false
variable {w0 : World}
attribute [local irreducible] AWP ACalls
attribute [local congr] acalls_congr

/-- Flags of the points below n, as cells. -/
def labB (n : Nat) (s : Int → Bool) : List AV := (upto n).map fun x => B (s x)
theorem labB_length (n : Nat) (s : Int → Bool) : (labB n s).length = n := by simp [labB]
theorem labB_at {n : Nat} {s : Int → Bool} {x : Int} (h0 : 0 ≤ x) (h : x.toNat < (labB n s).length) : (labB n s)[x.toNat] = B (s x) := by
  simp only [labB, List.getElem_map, upto_get]
  rw [show ((x.toNat : Nat) : Int) = x by omega]
theorem labB_set {n : Nat} {s : Int → Bool} {w : Int} {x : Bool} (h0 : 0 ≤ w) : (labB n s).set w.toNat (B x) = labB n (setF s w x) := by
  refine List.ext_getElem? fun i => ?_
  rw [List.getElem?_set, labB_length]
  simp only [labB, List.getElem?_map]
  by_cases hi : i < n
  · have hu : (upto n)[i]? = some (i : Int) := by rw [List.getElem?_eq_getElem (by simpa using hi), upto_get]
    rw [hu]
    simp only [Option.map_some, setF]
    by_cases e : w.toNat = i
    · rw [if_pos e, if_pos (by omega), if_pos (by omega)]
    · rw [if_neg e, if_neg (by omega)]
  · have hu : (upto n)[i]? = none := List.getElem?_eq_none (by simpa using hi)
    rw [hu]
    by_cases e : w.toNat = i
    · rw [if_pos e, if_neg (by omega)]; rfl
    · rw [if_neg e]; rfl
theorem labI_setF {n : Nat} {f : Int → Int} {w x : Int} (h0 : 0 ≤ w) : (labI n f).set w.toNat (I x) = labI n (setF f w x) := labI_set h0

/-- The matching's blocks. -/
def ms (H : Heap) (F L R S : Nat) (adj : List (List Int)) (m : Nat) (f g : Int → Int) (s : Int → Bool) : Heap :=
  upd (upd (upd (upd H L (some (.arr 1 3 (labI adj.length f) adj.length))) R (some (.arr 1 3 (labI m g) m))) F (some (.box [rows adj, .ref L 0 adj.length adj.length, .ref R 0 m m, .ref S 0 m m]))) S (some (.arr 1 4 (labB m s) m))
structure Ds (F L R S : Nat) : Prop where
  lr : L ≠ R
  lf : L ≠ F
  ls : L ≠ S
  rf : R ≠ F
  rs : R ≠ S
  fs : F ≠ S

section
variable {H : Heap} {F L R S m : Nat} {adj : List (List Int)} {f g : Int → Int} {s : Int → Bool} (d : Ds F L R S)
theorem ms_S : ms H F L R S adj m f g s S = some (.arr 1 4 (labB m s) m) := by simp [ms]
include d
theorem ms_F : ms H F L R S adj m f g s F = some (.box [rows adj, .ref L 0 adj.length adj.length, .ref R 0 m m, .ref S 0 m m]) := by simp [ms, d.fs]
theorem ms_R : ms H F L R S adj m f g s R = some (.arr 1 3 (labI m g) m) := by simp [ms, d.rs, d.rf]
theorem ms_L : ms H F L R S adj m f g s L = some (.arr 1 3 (labI adj.length f) adj.length) := by simp [ms, d.ls, d.lf, d.lr]
omit d in
theorem ms_setS {w : Int} {x : Bool} (h0 : 0 ≤ w) : upd (ms H F L R S adj m f g s) S (some (.arr 1 4 ((labB m s).set w.toNat (B x)) m)) = ms H F L R S adj m f g (setF s w x) := by
  unfold ms; rw [upd_upd, labB_set h0]
theorem ms_setR {w x : Int} (h0 : 0 ≤ w) : upd (ms H F L R S adj m f g s) R (some (.arr 1 3 ((labI m g).set w.toNat (I x)) m)) = ms H F L R S adj m f (setF g w x) s := by
  unfold ms; rw [upd_comm _ _ _ (Ne.symm d.rs), upd_comm _ _ _ (Ne.symm d.rf), upd_upd, labI_setF h0]
theorem ms_setL {w x : Int} (h0 : 0 ≤ w) : upd (ms H F L R S adj m f g s) L (some (.arr 1 3 ((labI adj.length f).set w.toNat (I x)) adj.length)) = ms H F L R S adj m (setF f w x) g s := by
  unfold ms; rw [upd_comm _ _ _ (Ne.symm d.ls), upd_comm _ _ _ (Ne.symm d.lf), upd_comm _ _ _ (Ne.symm d.lr), upd_upd, labI_setF h0]
end

theorem GrM.nb_set {m : Nat} {adj : List (List Int)} (h : GrM m adj) (i : Int) : IsSet (nbM adj i) := by
  unfold nbM
  rw [List.getD_eq_getElem?_getD]
  cases hl : adj[i.toNat]? with
  | none => exact .nil
  | some l => exact h.set l (List.mem_of_getElem? hl)
theorem GrM.nb_len {m : Nat} {adj : List (List Int)} (h : GrM m adj) (i : Int) : (nbM adj i).length ≤ m := up_length (h.nb_set i).up fun x hx => h.nb hx

/-- How many are not seen. -/
def unseen (m : Nat) (s : Int → Bool) : Nat := (upto m).countP fun k => !s k
theorem unseen_le {m : Nat} {s s' : Int → Bool} (h : ∀ k, s k = true → s' k = true) : unseen m s' ≤ unseen m s := by
  unfold unseen
  refine List.countP_mono_left fun k _ hk => ?_
  cases e : s k with
  | false => rfl
  | true => rw [h k e] at hk; cases hk
theorem unseen_lt {m : Nat} {s : Int → Bool} {k : Int} (h0 : 0 ≤ k) (hm : k < m) (h : s k = false) : unseen m (setF s k true) < unseen m s := by
  unfold unseen
  have hk : k ∈ upto m := mem_upto.2 ⟨h0, hm⟩
  generalize upto m = l at hk
  induction l with
  | nil => cases hk
  | cons x l ih =>
    have hle : (l.countP fun y => !setF s k true y) ≤ l.countP fun y => !s y := by
      refine List.countP_mono_left fun y _ hy => ?_
      by_cases e : y = k
      · subst e; simp [setF_same] at hy
      · simpa [setF_ne _ _ e] using hy
    rw [List.countP_cons, List.countP_cons]
    by_cases e : x = k
    · subst e
      simp [setF_same, h]
      omega
    · have hk' : k ∈ l := by
        rcases List.mem_cons.1 hk with h | h
        · exact absurd h.symm e
        · exact h
      have := ih hk'
      rw [setF_ne _ _ e]
      omega

set_option maxHeartbeats 4000000 in
theorem reach_use {H : Heap} {F L R S m : Nat} {adj : List (List Int)} (d : Ds F L R S) (hG : GrM m adj) : ∀ (N : Nat) {i : Int} {f g : Int → Int} {s : Int → Bool} {K : AV → Heap → Prop}, Good m adj f g → 0 ≤ i → i < adj.length → (f i = -1 ∨ s (f i) = true) → unseen m s ≤ N →
    (∀ s', RF adj g s s' → (∀ y ∈ nbM adj i, s' y = true) → K (B false) (ms H F L R S adj m f g s')) → (∀ f' g' s', RT m adj i f g s f' g' s' → K (B true) (ms H F L R S adj m f' g' s')) →
    ACalls Try.prog w0 95 [.ptr F 0 0, I i] (ms H F L R S adj m f g s) K := by
  intro N
  induction N using Nat.strongRecOn with
  | _ N ih =>
  intro i f g s K hf hi0 hin hs hN kf kt
  refine (?_ : ACalls Try.prog w0 95 [.ptr F 0 0, I i] (ms H F L R S adj m f g s)
    (fun v H' => (∃ s', v = B false ∧ RF adj g s s' ∧ (∀ y ∈ nbM adj i, s' y = true) ∧ H' = ms H F L R S adj m f g s') ∨ ∃ f' g' s', v = B true ∧ RT m adj i f g s f' g' s' ∧ H' = ms H F L R S adj m f' g' s')).drop ?_
  rotate_left
  · rintro v H' (⟨s', rfl, h1, h2, rfl⟩ | ⟨f', g', s', rfl, h1, rfl⟩)
    · exact ⟨_, .refl _, kf s' h1 h2⟩
    · exact ⟨_, .refl _, kt f' g' s' h1⟩
  clear kf kt K
  have hit : i.toNat < adj.length := by omega
  have hadj : ∀ h, adj[i.toNat]'h = nbM adj i := fun h => nbM_toNat h
  have hnl : (nbM adj i).length ≤ 64 := Nat.le_trans (hG.nb_len i) hG.mle
  refine w_enter Try.func95 rfl Try.ntmps95 (ts := [4]) rfl (by simp) (by kernel_rfl) ?_
  repeat' (first
    | (with_reducible refine awp_skip ?_)
    | (with_reducible refine then_any ?_)
    | (with_reducible refine then_ret ?_)
    | (with_reducible refine then_exit ?_)
    | (with_reducible refine inBlock_normal ?_)
    | (with_reducible refine inBlock_ret ?_)
    | (with_reducible refine inBlock_hit ?_)
    | (with_reducible refine inBlock_miss (by decide) ?_)
    | (with_reducible refine awp_ret ?_)
    | (with_reducible refine awp_exit ?_)
    | (with_reducible refine post_ret ?_)
    | (with_reducible refine post_normal ?_)
    | (with_reducible refine awp_block ?_)
    | (with_reducible refine v_reg [] (fun K hK => ?_))
    | (with_reducible refine v_reg1 [] (fun K hK => ?_))
    | (with_reducible refine v_draw mixed [] [] (by kernel_rfl) (fun K hK => ?_))
    | (with_reducible refine v_draw1 mixed [] [] (by kernel_rfl) (fun K hK => ?_))
    | (with_reducible refine ev_nil (hK _ _ ?_); clear hK K)
    | (with_reducible refine ed_nil (hK _ _ ?_); clear hK K)
    | ((first | with_reducible refine ev_cons (fun K' hK' => ?_) | with_reducible refine ed_cons (fun K' hK' => ?_) | (with_reducible refine ev_id ?_; refine ev_guard rfl (fun K' hK' => ?_)) | (with_reducible refine ed_id ?_; refine ed_guard rfl (fun K' hK' => ?_))); simp [ms_F d, ms_L d, ms_R d, ms_S, rows, hadj, ints, hit, hi0]; repeat' (first | (with_reducible refine hK' _ _ ?_; clear hK' K') | (with_reducible refine And.intro ?_ ?_) | (with_reducible intro hg) | (clear hK' K'; omega)))
    | (with_reducible refine w_cond (fun A B hA hB => ?_); simp [ms_F d, ms_L d, ms_R d, ms_S, rows, hadj, ints, hit, hi0]; repeat' (first | (with_reducible refine hA ?_; clear hA hB A B) | (with_reducible refine hB ?_; clear hA hB A B) | (with_reducible refine And.intro ?_ ?_) | (with_reducible intro hc)))
    | (with_reducible refine awp_seq ?_))
  refine awp_loop (fun env h => ∃ (q : Nat) (s1 : Int → Bool), q ≤ (nbM adj i).length ∧ RF adj g s s1 ∧ (∀ y ∈ (nbM adj i).take q, s1 y = true) ∧ env 15 = I q ∧ env 14 = I (nbM adj i).length ∧ env 13 = ints (nbM adj i) ∧ env 0 = .ptr F 0 0 ∧ env 1 = I i ∧
      h = ms H F L R S adj m f g s1) (fun env _ => (nbM adj i).length - natA (env 15)) ?_ ?_
  · exact ⟨0, s, by omega, .refl _ _ _, by simp, by simp, by simp, by simp [ints], by simp, by simp, rfl⟩
  rintro env h ⟨q, s1, hq, hrf, hall, h15, h14, h13, h0, h1, rfl⟩
  have hnat : natA (env 15) = q := by simp [h15]
  rw [hnat]; clear hnat
  by_cases hlt : q < (nbM adj i).length
  · have hkn : (nbM adj i)[q] ∈ nbM adj i := List.getElem_mem _
    have htk : ∀ (s2 : Int → Bool), (∀ y ∈ (nbM adj i).take q, s2 y = true) → s2 (nbM adj i)[q] = true → ∀ y ∈ (nbM adj i).take (q + 1), s2 y = true := by
      intro s2 a b y hy
      rw [List.take_succ_eq_append_getElem hlt, List.mem_append, List.mem_singleton] at hy
      rcases hy with hy | rfl
      · exact a y hy
      · exact b
    obtain ⟨k, hke⟩ : ∃ k, k = (nbM adj i)[q] := ⟨_, rfl⟩
    rw [← hke] at hkn htk
    have hkk : ∀ h, (nbM adj i)[q]'h = k := fun _ => hke.symm
    obtain ⟨k0, km⟩ := hG.nb hkn
    have kt : k.toNat < m := by omega
    have eB : ∀ (s' : Int → Bool) h, (labB m s')[k.toNat]'h = B (s' k) := fun s' h => labB_at k0 h
    have eI : ∀ (g' : Int → Int) h, (labI m g')[k.toNat]'h = I (g' k) := fun s' h => labI_at k0 h
    have klB : ∀ s' : Int → Bool, k.toNat < (labB m s').length := fun s' => by rw [labB_length]; exact kt
    have klI : ∀ s' : Int → Int, k.toNat < (labI m s').length := fun s' => by rw [labI_length]; exact kt
    have ilI : ∀ s' : Int → Int, i.toNat < (labI adj.length s').length := fun s' => by rw [labI_length]; exact hit
    cases hsk : s1 k with
    | true =>
      repeat' (first
        | (with_reducible refine awp_skip ?_)
        | (with_reducible refine then_any ?_)
        | (with_reducible refine then_ret ?_)
        | (with_reducible refine then_exit ?_)
        | (with_reducible refine inBlock_normal ?_)
        | (with_reducible refine inBlock_ret ?_)
        | (with_reducible refine inBlock_hit ?_)
        | (with_reducible refine inBlock_miss (by decide) ?_)
        | (with_reducible refine awp_ret ?_)
        | (with_reducible refine awp_exit ?_)
        | (with_reducible refine post_ret ?_)
        | (with_reducible refine post_normal ?_)
        | (with_reducible refine awp_block ?_)
        | (with_reducible refine v_reg [] (fun K hK => ?_))
        | (with_reducible refine v_reg1 [] (fun K hK => ?_))
        | (with_reducible refine v_draw mixed [] [] (by kernel_rfl) (fun K hK => ?_))
        | (with_reducible refine v_draw1 mixed [] [] (by kernel_rfl) (fun K hK => ?_))
        | (with_reducible refine ev_nil (hK _ _ ?_); clear hK K)
        | (with_reducible refine ed_nil (hK _ _ ?_); clear hK K)
        | ((first | with_reducible refine ev_cons (fun K' hK' => ?_) | with_reducible refine ed_cons (fun K' hK' => ?_) | (with_reducible refine ev_id ?_; refine ev_guard rfl (fun K' hK' => ?_)) | (with_reducible refine ed_id ?_; refine ed_guard rfl (fun K' hK' => ?_))); simp [ms_F d, ms_L d, ms_R d, ms_S, h15, h14, h13, h0, h1, ints, hlt, hkk, kt, k0, eB, klB, hsk, labB_length]; repeat' (first | (with_reducible refine hK' _ _ ?_; clear hK' K') | (with_reducible refine And.intro ?_ ?_) | (with_reducible intro hg) | (clear hK' K'; omega)))
        | (with_reducible refine w_cond (fun A B hA hB => ?_); simp [ms_F d, ms_L d, ms_R d, ms_S, h15, h14, h13, h0, h1, ints, hlt, hkk, kt, k0, eB, klB, hsk, labB_length]; repeat' (first | (with_reducible refine hA ?_; clear hA hB A B) | (with_reducible refine hB ?_; clear hA hB A B) | (with_reducible refine And.intro ?_ ?_) | (with_reducible intro hc)))
        | (with_reducible refine awp_seq ?_))
      all_goals try omega
      exact ⟨⟨q + 1, s1, by omega, hrf, htk s1 hall hsk, by simp, by simp [h14], by simp [h13, ints], by simp [h0], by simp [h1], rfl⟩, by simp; omega⟩
    | false =>
      have hun := unseen_lt k0 km hsk
      have hun2 := unseen_le (m := m) hrf.le
      by_cases hgk : g k = -1
      · have rt := rt_free hG hf hi0 hin hs hrf hkn hsk hgk
        repeat' (first
          | (with_reducible refine awp_skip ?_)
          | (with_reducible refine then_any ?_)
          | (with_reducible refine then_ret ?_)
          | (with_reducible refine then_exit ?_)
          | (with_reducible refine inBlock_normal ?_)
          | (with_reducible refine inBlock_ret ?_)
          | (with_reducible refine inBlock_hit ?_)
          | (with_reducible refine inBlock_miss (by decide) ?_)
          | (with_reducible refine awp_ret ?_)
          | (with_reducible refine awp_exit ?_)
          | (with_reducible refine post_ret ?_)
          | (with_reducible refine post_normal ?_)
          | (with_reducible refine awp_block ?_)
          | (with_reducible refine v_reg [] (fun K hK => ?_))
          | (with_reducible refine v_reg1 [] (fun K hK => ?_))
          | (with_reducible refine v_draw mixed [] [] (by kernel_rfl) (fun K hK => ?_))
          | (with_reducible refine v_draw1 mixed [] [] (by kernel_rfl) (fun K hK => ?_))
          | (with_reducible refine ev_nil (hK _ _ ?_); clear hK K)
          | (with_reducible refine ed_nil (hK _ _ ?_); clear hK K)
          | ((first | with_reducible refine ev_cons (fun K' hK' => ?_) | with_reducible refine ed_cons (fun K' hK' => ?_) | (with_reducible refine ev_id ?_; refine ev_guard rfl (fun K' hK' => ?_)) | (with_reducible refine ed_id ?_; refine ed_guard rfl (fun K' hK' => ?_))); simp [ms_F d, ms_L d, ms_R d, ms_S, ms_setS k0, ms_setR d k0, ms_setL d hi0, h15, h14, h13, h0, h1, ints, hlt, hkk, kt, k0, eB, eI, klB, klI, ilI, hsk, hgk, hit, hi0, labB_length, labI_length]; repeat' (first | (with_reducible refine hK' _ _ ?_; clear hK' K') | (with_reducible refine And.intro ?_ ?_) | (with_reducible intro hg) | (clear hK' K'; omega)))
          | (with_reducible refine w_cond (fun A B hA hB => ?_); simp [ms_F d, ms_L d, ms_R d, ms_S, ms_setS k0, ms_setR d k0, ms_setL d hi0, h15, h14, h13, h0, h1, ints, hlt, hkk, kt, k0, eB, eI, klB, klI, ilI, hsk, hgk, hit, hi0, labB_length, labI_length]; repeat' (first | (with_reducible refine hA ?_; clear hA hB A B) | (with_reducible refine hB ?_; clear hA hB A B) | (with_reducible refine And.intro ?_ ?_) | (with_reducible intro hc)))
          | (with_reducible refine awp_seq ?_))
        all_goals try omega
        exact .inr ⟨_, _, _, by simp, rt, rfl⟩
      · obtain ⟨g0, gn, fg⟩ : 0 ≤ g k ∧ g k < adj.length ∧ f (g k) = k := by
          rcases hf.r k k0 km with h | h
          · exact absurd h hgk
          · exact h
        have hrec := fun K => ih (unseen m (setF s1 k true)) (by omega) (i := g k) (f := f) (g := g) (s := setF s1 k true) (K := K) hf g0 gn (.inr (by rw [fg]; exact setF_same _ _ _)) (Nat.le_refl _)
        repeat' (first
          | (with_reducible refine awp_skip ?_)
          | (with_reducible refine then_any ?_)
          | (with_reducible refine then_ret ?_)
          | (with_reducible refine then_exit ?_)
          | (with_reducible refine inBlock_normal ?_)
          | (with_reducible refine inBlock_ret ?_)
          | (with_reducible refine inBlock_hit ?_)
          | (with_reducible refine inBlock_miss (by decide) ?_)
          | (with_reducible refine awp_ret ?_)
          | (with_reducible refine awp_exit ?_)
          | (with_reducible refine post_ret ?_)
          | (with_reducible refine post_normal ?_)
          | (with_reducible refine awp_block ?_)
          | (with_reducible refine v_reg [] (fun K hK => ?_))
          | (with_reducible refine v_reg1 [] (fun K hK => ?_))
          | (with_reducible refine v_draw mixed [] [] (by kernel_rfl) (fun K hK => ?_))
          | (with_reducible refine v_draw1 mixed [] [] (by kernel_rfl) (fun K hK => ?_))
          | (with_reducible refine ev_nil (hK _ _ ?_); clear hK K)
          | (with_reducible refine ed_nil (hK _ _ ?_); clear hK K)
          | ((first | with_reducible refine ev_cons (fun K' hK' => ?_) | with_reducible refine ed_cons (fun K' hK' => ?_) | (with_reducible refine ev_id ?_; refine ev_guard rfl (fun K' hK' => ?_)) | (with_reducible refine ed_id ?_; refine ed_guard rfl (fun K' hK' => ?_))); simp [ms_F d, ms_L d, ms_R d, ms_S, ms_setS k0, ms_setR d k0, ms_setL d hi0, h15, h14, h13, h0, h1, ints, hlt, hkk, kt, k0, eB, eI, klB, klI, ilI, hsk, hgk, hit, hi0, labB_length, labI_length]; repeat' (first | (with_reducible refine hK' _ _ ?_; clear hK' K') | ((with_reducible refine hrec _ (fun s2 r2 n2 => ?_) (fun f2 g2 s2 r2 => ?_)); try simp [ms_F d, ms_L d, ms_R d, ms_S, ms_setS k0, ms_setR d k0, ms_setL d hi0, h15, h14, h13, h0, h1, ints, hlt, hkk, kt, k0, eB, eI, klB, klI, ilI, hsk, hgk, hit, hi0, labB_length, labI_length]) | (with_reducible refine And.intro ?_ ?_) | (with_reducible intro hg) | (clear hK' K'; omega)))
          | (with_reducible refine w_cond (fun A B hA hB => ?_); simp [ms_F d, ms_L d, ms_R d, ms_S, ms_setS k0, ms_setR d k0, ms_setL d hi0, h15, h14, h13, h0, h1, ints, hlt, hkk, kt, k0, eB, eI, klB, klI, ilI, hsk, hgk, hit, hi0, labB_length, labI_length]; repeat' (first | (with_reducible refine hA ?_; clear hA hB A B) | (with_reducible refine hB ?_; clear hA hB A B) | (with_reducible refine And.intro ?_ ?_) | (with_reducible intro hc)))
          | (with_reducible refine awp_seq ?_))
        all_goals try omega
        · have hup : ∀ y, s1 y = true → s2 y = true := fun y hy => r2.le y (by by_cases e : y = k; (· subst e; exact setF_same _ _ _); (· rw [setF_ne _ _ e]; exact hy))
          refine ⟨⟨q + 1, s2, by omega, hrf.step hsk hgk r2 n2, htk s2 (fun y hy => hup y (hall y hy)) (r2.le k (setF_same _ _ _)), by simp, by simp [h14], by simp [h13, ints], by simp [h0], by simp [h1], rfl⟩, by simp; omega⟩
        · exact .inr ⟨_, _, _, by simp, rt_push hG hf hi0 hin hs hrf hkn hsk hgk r2, rfl⟩
  · have : q = (nbM adj i).length := by omega
    subst this
    rw [List.take_length] at hall
    repeat' (first
      | (with_reducible refine awp_skip ?_)
      | (with_reducible refine then_any ?_)
      | (with_reducible refine then_ret ?_)
      | (with_reducible refine then_exit ?_)
      | (with_reducible refine inBlock_normal ?_)
      | (with_reducible refine inBlock_ret ?_)
      | (with_reducible refine inBlock_hit ?_)
      | (with_reducible refine inBlock_miss (by decide) ?_)
      | (with_reducible refine awp_ret ?_)
      | (with_reducible refine awp_exit ?_)
      | (with_reducible refine post_ret ?_)
      | (with_reducible refine post_normal ?_)
      | (with_reducible refine awp_block ?_)
      | (with_reducible refine v_reg [] (fun K hK => ?_))
      | (with_reducible refine v_reg1 [] (fun K hK => ?_))
      | (with_reducible refine v_draw mixed [] [] (by kernel_rfl) (fun K hK => ?_))
      | (with_reducible refine v_draw1 mixed [] [] (by kernel_rfl) (fun K hK => ?_))
      | (with_reducible refine ev_nil (hK _ _ ?_); clear hK K)
      | (with_reducible refine ed_nil (hK _ _ ?_); clear hK K)
      | ((first | with_reducible refine ev_cons (fun K' hK' => ?_) | with_reducible refine ed_cons (fun K' hK' => ?_) | (with_reducible refine ev_id ?_; refine ev_guard rfl (fun K' hK' => ?_)) | (with_reducible refine ed_id ?_; refine ed_guard rfl (fun K' hK' => ?_))); simp [h15, h14, h13, h0, h1]; repeat' (first | (with_reducible refine hK' _ _ ?_; clear hK' K') | (with_reducible refine And.intro ?_ ?_) | (with_reducible intro hg) | (clear hK' K'; omega)))
      | (with_reducible refine w_cond (fun A B hA hB => ?_); simp [h15, h14, h13, h0, h1]; repeat' (first | (with_reducible refine hA ?_; clear hA hB A B) | (with_reducible refine hB ?_; clear hA hB A B) | (with_reducible refine And.intro ?_ ?_) | (with_reducible intro hc)))
      | (with_reducible refine awp_seq ?_))
    exact .inl ⟨s1, by simp, hrf, hall, rfl⟩
#print axioms reach_use
end Go.Am
