/- Contracts: the walk of Cover. -/
import Derived.Test.YtbcgjjkchmgeoaaW37
import Derived.Test.YtbcgjjkchmgeoaaM9
namespace Go.Am
open Go Go.Proofs
set_option linter.unusedVariables false
set_option linter.unusedSimpArgs false
variable {w0 : World}
attribute [local irreducible] AWP ACalls
attribute [local congr] acalls_congr

/-- The walk's two arrays, over all else. -/
def cw (G : Heap) (S RD m n : Nat) (s rd : Int → Bool) : Heap := upd (upd G S (some (.arr 1 4 (labB m s) m))) RD (some (.arr 1 4 (labB n rd) n))
/-- The closure of the walk. -/
abbrev cloW (X3 X6 X7 X8 : Nat) : AV := .clo 81 [] [.ptr X7 0 0, .ptr X3 0 0, .ptr X6 0 0, .ptr X8 0 0]
/-- What else lies in the heap. -/
structure Wh (G : Heap) (S RD F L R X3 X6 X7 X8 m : Nat) (adj : List (List Int)) (g : Int → Int) : Prop where
  g3 : G X3 = some (.box [rows adj])
  g6 : G X6 = some (.box [.ptr F 0 0])
  g7 : G X7 = some (.box [.ref RD 0 adj.length adj.length])
  g8 : G X8 = some (.box [cloW X3 X6 X7 X8])
  gF : G F = some (.box [rows adj, .ref L 0 adj.length adj.length, .ref R 0 m m, .ref S 0 m m])
  gR : G R = some (.arr 1 3 (labI m g) m)
  gS : G S = none
  gD : G RD = none
  sd : S ≠ RD
section
variable {G : Heap} {S RD F L R X3 X6 X7 X8 m : Nat} {adj : List (List Int)} {g : Int → Int} {s rd : Int → Bool}
theorem cw_D {n : Nat} : cw G S RD m n s rd RD = some (.arr 1 4 (labB n rd) n) := by simp [cw]
theorem cw_G {n r : Nat} {k : Blk} (h : G r = some k) (hS : G S = none) (hD : G RD = none) : cw G S RD m n s rd r = some k := by
  have h1 : r ≠ S := fun e => by subst e; rw [hS] at h; cases h
  have h2 : r ≠ RD := fun e => by subst e; rw [hD] at h; cases h
  rw [cw, upd_ne _ _ _ h2, upd_ne _ _ _ h1, h]
variable (d : Wh G S RD F L R X3 X6 X7 X8 m adj g)
include d
theorem cw_S {n : Nat} : cw G S RD m n s rd S = some (.arr 1 4 (labB m s) m) := by simp [cw, d.sd]
theorem cw_setS {n : Nat} {w : Int} {x : Bool} (h0 : 0 ≤ w) : upd (cw G S RD m n s rd) S (some (.arr 1 4 ((labB m s).set w.toNat (B x)) m)) = cw G S RD m n (setF s w x) rd := by
  unfold cw; rw [upd_comm _ _ _ (Ne.symm d.sd), upd_upd, labB_set h0]
omit d in
theorem cw_setD {n : Nat} {w : Int} {x : Bool} (h0 : 0 ≤ w) : upd (cw G S RD m n s rd) RD (some (.arr 1 4 ((labB n rd).set w.toNat (B x)) n)) = cw G S RD m n s (setF rd w x) := by
  unfold cw; rw [upd_upd, labB_set h0]
theorem w3 {n : Nat} : cw G S RD m n s rd X3 = some (.box [rows adj]) := cw_G d.g3 d.gS d.gD
theorem w6 {n : Nat} : cw G S RD m n s rd X6 = some (.box [.ptr F 0 0]) := cw_G d.g6 d.gS d.gD
theorem w7 {n : Nat} : cw G S RD m n s rd X7 = some (.box [.ref RD 0 adj.length adj.length]) := cw_G d.g7 d.gS d.gD
theorem w8 {n : Nat} : cw G S RD m n s rd X8 = some (.box [cloW X3 X6 X7 X8]) := cw_G d.g8 d.gS d.gD
theorem wF {n : Nat} : cw G S RD m n s rd F = some (.box [rows adj, .ref L 0 adj.length adj.length, .ref R 0 m m, .ref S 0 m m]) := cw_G d.gF d.gS d.gD
theorem wR {n : Nat} : cw G S RD m n s rd R = some (.arr 1 3 (labI m g) m) := cw_G d.gR d.gS d.gD
end

set_option maxHeartbeats 4000000 in
theorem walk_use {G : Heap} {S RD F L R X3 X6 X7 X8 m : Nat} {adj : List (List Int)} {f g : Int → Int} (d : Wh G S RD F L R X3 X6 X7 X8 m adj g) (hG : GrM m adj) (hf : Good m adj f g) {Z : Int → Prop} (hZ : Closed adj g Z) :
    ∀ (N : Nat) {i : Int} {s rd : Int → Bool} {K : AV → Heap → Prop}, 0 ≤ i → i < adj.length → (∀ y ∈ nbM adj i, Z y) → unseen m s ≤ N →
    (∀ s' rd', WQ m adj g i (nbM adj i).length s rd s' rd' → K (.tup []) (cw G S RD m adj.length s' rd')) →
    ACalls Try.prog w0 81 [I i, .ptr X7 0 0, .ptr X3 0 0, .ptr X6 0 0, .ptr X8 0 0] (cw G S RD m adj.length s rd) K := by
  intro N
  induction N using Nat.strongRecOn with
  | _ N ih =>
  intro i s rd K hi0 hin hiZ hN k
  refine (?_ : ACalls Try.prog w0 81 [I i, .ptr X7 0 0, .ptr X3 0 0, .ptr X6 0 0, .ptr X8 0 0] (cw G S RD m adj.length s rd)
    (fun v H' => ∃ s' rd', v = .tup [] ∧ WQ m adj g i (nbM adj i).length s rd s' rd' ∧ H' = cw G S RD m adj.length s' rd')).drop ?_
  rotate_left
  · rintro v H' ⟨s', rd', rfl, h1, rfl⟩
    exact ⟨_, .refl _, k s' rd' h1⟩
  clear k K
  have hit : i.toNat < adj.length := by omega
  have hadj : ∀ h, adj[i.toNat]'h = nbM adj i := fun h => nbM_toNat h
  have hnl : (nbM adj i).length ≤ 64 := Nat.le_trans (hG.nb_len i) hG.mle
  have ilB : ∀ s' : Int → Bool, i.toNat < (labB adj.length s').length := fun s' => by rw [labB_length]; exact hit
  refine w_enter Try.func81 rfl Try.ntmps81 (ts := []) rfl (by simp) (by kernel_rfl) ?_
  repeat' (first
    | (with_reducible refine awp_skip ?_)
    | (with_reducible refine then_any ?_)
    | (with_reducible refine then_ret ?_)
    | (with_reducible refine then_exit ?_)
    | (with_reducible refine inBlock_normal ?_)
    | (with_reducible refine inBlock_ret ?_)
    | (with_reducible refine inBlock_hit ?_)
    | (with_reducible refine inBlock_miss (by decide) ?_)
    | (with_reducible refine awp_ret ?_)
    | (with_reducible refine awp_exit ?_)
    | (with_reducible refine post_ret ?_)
    | (with_reducible refine post_normal ?_)
    | (with_reducible refine awp_block ?_)
    | (with_reducible refine v_reg [] (fun K hK => ?_))
    | (with_reducible refine v_reg1 [] (fun K hK => ?_))
    | (with_reducible refine v_draw mixed [] [] (by kernel_rfl) (fun K hK => ?_))
    | (with_reducible refine v_draw1 mixed [] [] (by kernel_rfl) (fun K hK => ?_))
    | (with_reducible refine ev_nil (hK _ _ ?_); clear hK K)
    | (with_reducible refine ed_nil (hK _ _ ?_); clear hK K)
    | ((first | with_reducible refine ev_cons (fun K' hK' => ?_) | with_reducible refine ed_cons (fun K' hK' => ?_) | (with_reducible refine ev_id ?_; refine ev_guard rfl (fun K' hK' => ?_)) | (with_reducible refine ed_id ?_; refine ed_guard rfl (fun K' hK' => ?_))); simp [w3 d, w6 d, w7 d, w8 d, wF d, wR d, cw_D, cw_S d, cw_setD hi0, rows, hadj, ints, hit, hi0, ilB, labB_length]; repeat' (first | (with_reducible refine hK' _ _ ?_; clear hK' K') | (with_reducible refine And.intro ?_ ?_) | (with_reducible intro hg) | (clear hK' K'; omega)))
    | (with_reducible refine w_cond (fun A B hA hB => ?_); simp [w3 d, w6 d, w7 d, w8 d, wF d, wR d, cw_D, cw_S d, cw_setD hi0, rows, hadj, ints, hit, hi0, ilB, labB_length]; repeat' (first | (with_reducible refine hA ?_; clear hA hB A B) | (with_reducible refine hB ?_; clear hA hB A B) | (with_reducible refine And.intro ?_ ?_) | (with_reducible intro hc)))
    | (with_reducible refine awp_seq ?_))
  refine awp_loop (fun env h => ∃ (q : Nat) (s1 rd1 : Int → Bool), q ≤ (nbM adj i).length ∧ WQ m adj g i q s rd s1 rd1 ∧ env 16 = I q ∧ env 15 = I (nbM adj i).length ∧ env 14 = ints (nbM adj i) ∧ env 1 = .ptr X7 0 0 ∧ env 2 = .ptr X3 0 0 ∧ env 3 = .ptr X6 0 0 ∧ env 4 = .ptr X8 0 0 ∧
      h = cw G S RD m adj.length s1 rd1) (fun env _ => (nbM adj i).length - natA (env 16)) ?_ ?_
  · exact ⟨0, s, setF rd i true, by omega, .start, by simp, by simp, by simp [ints], by simp, by simp, by simp, by simp, rfl⟩
  rintro env h ⟨q, s1, rd1, hq, hw, h16, h15, h14, h1, h2, h3, h4, rfl⟩
  have hnat : natA (env 16) = q := by simp [h16]
  rw [hnat]; clear hnat
  by_cases hlt : q < (nbM adj i).length
  · have hkn : (nbM adj i)[q] ∈ nbM adj i := List.getElem_mem _
    obtain ⟨k, hke⟩ : ∃ k, k = (nbM adj i)[q] := ⟨_, rfl⟩
    rw [← hke] at hkn
    have hkk : ∀ h, (nbM adj i)[q]'h = k := fun _ => hke.symm
    obtain ⟨k0, km⟩ := hG.nb hkn
    have kt : k.toNat < m := by omega
    have eB : ∀ (s' : Int → Bool) h, (labB m s')[k.toNat]'h = B (s' k) := fun s' h => labB_at k0 h
    have eI : ∀ (g' : Int → Int) h, (labI m g')[k.toNat]'h = I (g' k) := fun s' h => labI_at k0 h
    have klB : ∀ s' : Int → Bool, k.toNat < (labB m s').length := fun s' => by rw [labB_length]; exact kt
    have klI : ∀ s' : Int → Int, k.toNat < (labI m s').length := fun s' => by rw [labI_length]; exact kt
    cases hsk : s1 k with
    | true =>
      repeat' (first
        | (with_reducible refine awp_skip ?_)
        | (with_reducible refine then_any ?_)
        | (with_reducible refine then_ret ?_)
        | (with_reducible refine then_exit ?_)
        | (with_reducible refine inBlock_normal ?_)
        | (with_reducible refine inBlock_ret ?_)
        | (with_reducible refine inBlock_hit ?_)
        | (with_reducible refine inBlock_miss (by decide) ?_)
        | (with_reducible refine awp_ret ?_)
        | (with_reducible refine awp_exit ?_)
        | (with_reducible refine post_ret ?_)
        | (with_reducible refine post_normal ?_)
        | (with_reducible refine awp_block ?_)
        | (with_reducible refine v_reg [] (fun K hK => ?_))
        | (with_reducible refine v_reg1 [] (fun K hK => ?_))
        | (with_reducible refine v_draw mixed [] [] (by kernel_rfl) (fun K hK => ?_))
        | (with_reducible refine v_draw1 mixed [] [] (by kernel_rfl) (fun K hK => ?_))
        | (with_reducible refine ev_nil (hK _ _ ?_); clear hK K)
        | (with_reducible refine ed_nil (hK _ _ ?_); clear hK K)
        | ((first | with_reducible refine ev_cons (fun K' hK' => ?_) | with_reducible refine ed_cons (fun K' hK' => ?_) | (with_reducible refine ev_id ?_; refine ev_guard rfl (fun K' hK' => ?_)) | (with_reducible refine ed_id ?_; refine ed_guard rfl (fun K' hK' => ?_))); simp [w3 d, w6 d, w7 d, w8 d, wF d, wR d, cw_D, cw_S d, h16, h15, h14, h1, h2, h3, h4, ints, hlt, hkk, kt, k0, eB, klB, hsk, labB_length]; repeat' (first | (with_reducible refine hK' _ _ ?_; clear hK' K') | (with_reducible refine And.intro ?_ ?_) | (with_reducible intro hg) | (clear hK' K'; omega)))
        | (with_reducible refine w_cond (fun A B hA hB => ?_); simp [w3 d, w6 d, w7 d, w8 d, wF d, wR d, cw_D, cw_S d, h16, h15, h14, h1, h2, h3, h4, ints, hlt, hkk, kt, k0, eB, klB, hsk, labB_length]; repeat' (first | (with_reducible refine hA ?_; clear hA hB A B) | (with_reducible refine hB ?_; clear hA hB A B) | (with_reducible refine And.intro ?_ ?_) | (with_reducible intro hc)))
        | (with_reducible refine awp_seq ?_))
      all_goals try omega
      exact ⟨⟨q + 1, s1, rd1, by omega, hw.seen hlt hke hsk, by simp, by simp [h15], by simp [h14, ints], by simp [h1], by simp [h2], by simp [h3], by simp [h4], rfl⟩, by simp; omega⟩
    | false =>
      have hun := unseen_lt k0 km hsk
      have hun2 := unseen_le (m := m) hw.le
      obtain ⟨hgk, hkZ⟩ := hZ k (hiZ k hkn)
      obtain ⟨g0, gn, fg⟩ : 0 ≤ g k ∧ g k < adj.length ∧ f (g k) = k := by
        rcases hf.r k k0 km with h | h
        · exact absurd h hgk
        · exact h
      have hrec := fun K => ih (unseen m (setF s1 k true)) (by omega) (i := g k) (s := setF s1 k true) (rd := rd1) (K := K) g0 gn hkZ (Nat.le_refl _)
      repeat' (first
        | (with_reducible refine awp_skip ?_)
        | (with_reducible refine then_any ?_)
        | (with_reducible refine then_ret ?_)
        | (with_reducible refine then_exit ?_)
        | (with_reducible refine inBlock_normal ?_)
        | (with_reducible refine inBlock_ret ?_)
        | (with_reducible refine inBlock_hit ?_)
        | (with_reducible refine inBlock_miss (by decide) ?_)
        | (with_reducible refine awp_ret ?_)
        | (with_reducible refine awp_exit ?_)
        | (with_reducible refine post_ret ?_)
        | (with_reducible refine post_normal ?_)
        | (with_reducible refine awp_block ?_)
        | (with_reducible refine v_reg [] (fun K hK => ?_))
        | (with_reducible refine v_reg1 [] (fun K hK => ?_))
        | (with_reducible refine v_draw mixed [] [] (by kernel_rfl) (fun K hK => ?_))
        | (with_reducible refine v_draw1 mixed [] [] (by kernel_rfl) (fun K hK => ?_))
        | (with_reducible refine ev_nil (hK _ _ ?_); clear hK K)
        | (with_reducible refine ed_nil (hK _ _ ?_); clear hK K)
        | ((first | with_reducible refine ev_cons (fun K' hK' => ?_) | with_reducible refine ed_cons (fun K' hK' => ?_) | (with_reducible refine ev_id ?_; refine ev_guard rfl (fun K' hK' => ?_)) | (with_reducible refine ed_id ?_; refine ed_guard rfl (fun K' hK' => ?_))); simp [w3 d, w6 d, w7 d, w8 d, wF d, wR d, cw_D, cw_S d, cw_setS d k0, h16, h15, h14, h1, h2, h3, h4, ints, hlt, hkk, kt, k0, eB, eI, klB, klI, hsk, labB_length, labI_length]; repeat' (first | (with_reducible refine hK' _ _ ?_; clear hK' K') | ((with_reducible refine hrec _ (fun s2 rd2 w2 => ?_)); try simp [w3 d, w6 d, w7 d, w8 d, wF d, wR d, cw_D, cw_S d, cw_setS d k0, h16, h15, h14, h1, h2, h3, h4, ints, hlt, hkk, kt, k0, eB, eI, klB, klI, hsk, labB_length, labI_length]) | (with_reducible refine And.intro ?_ ?_) | (with_reducible intro hg) | (clear hK' K'; omega)))
        | (with_reducible refine w_cond (fun A B hA hB => ?_); simp [w3 d, w6 d, w7 d, w8 d, wF d, wR d, cw_D, cw_S d, cw_setS d k0, h16, h15, h14, h1, h2, h3, h4, ints, hlt, hkk, kt, k0, eB, eI, klB, klI, hsk, labB_length, labI_length]; repeat' (first | (with_reducible refine hA ?_; clear hA hB A B) | (with_reducible refine hB ?_; clear hA hB A B) | (with_reducible refine And.intro ?_ ?_) | (with_reducible intro hc)))
        | (with_reducible refine awp_seq ?_))
      all_goals try omega
      exact ⟨⟨q + 1, s2, rd2, by omega, hw.go hlt hke k0 km hsk hgk w2, by simp, by simp [h15], by simp [h14, ints], by simp [h1], by simp [h2], by simp [h3], by simp [h4], rfl⟩, by simp; omega⟩
  · have : q = (nbM adj i).length := by omega
    subst this
    repeat' (first
      | (with_reducible refine awp_skip ?_)
      | (with_reducible refine then_any ?_)
      | (with_reducible refine then_ret ?_)
      | (with_reducible refine then_exit ?_)
      | (with_reducible refine inBlock_normal ?_)
      | (with_reducible refine inBlock_ret ?_)
      | (with_reducible refine inBlock_hit ?_)
      | (with_reducible refine inBlock_miss (by decide) ?_)
      | (with_reducible refine awp_ret ?_)
      | (with_reducible refine awp_exit ?_)
      | (with_reducible refine post_ret ?_)
      | (with_reducible refine post_normal ?_)
      | (with_reducible refine awp_block ?_)
      | (with_reducible refine v_reg [] (fun K hK => ?_))
      | (with_reducible refine v_reg1 [] (fun K hK => ?_))
      | (with_reducible refine v_draw mixed [] [] (by kernel_rfl) (fun K hK => ?_))
      | (with_reducible refine v_draw1 mixed [] [] (by kernel_rfl) (fun K hK => ?_))
      | (with_reducible refine ev_nil (hK _ _ ?_); clear hK K)
      | (with_reducible refine ed_nil (hK _ _ ?_); clear hK K)
      | ((first | with_reducible refine ev_cons (fun K' hK' => ?_) | with_reducible refine ed_cons (fun K' hK' => ?_) | (with_reducible refine ev_id ?_; refine ev_guard rfl (fun K' hK' => ?_)) | (with_reducible refine ed_id ?_; refine ed_guard rfl (fun K' hK' => ?_))); simp [h16, h15, h14, h1, h2, h3, h4]; repeat' (first | (with_reducible refine hK' _ _ ?_; clear hK' K') | (with_reducible refine And.intro ?_ ?_) | (with_reducible intro hg) | (clear hK' K'; omega)))
      | (with_reducible refine w_cond (fun A B hA hB => ?_); simp [h16, h15, h14, h1, h2, h3, h4]; repeat' (first | (with_reducible refine hA ?_; clear hA hB A B) | (with_reducible refine hB ?_; clear hA hB A B) | (with_reducible refine And.intro ?_ ?_) | (with_reducible intro hc)))
      | (with_reducible refine awp_seq ?_))
    exact ⟨s1, rd1, by simp, hw, rfl⟩
end Go.Am
