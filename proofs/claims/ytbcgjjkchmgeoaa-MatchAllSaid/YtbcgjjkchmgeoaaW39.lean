/- Contracts: Cover. -/
import Derived.Test.YtbcgjjkchmgeoaaW38
namespace Go.Am
open Go Go.Proofs
set_option linter.unusedVariables false
set_option linter.unusedSimpArgs false
variable {w0 : World}
attribute [local irreducible] AWP ACalls
attribute [local congr] acalls_congr

theorem runD_evalD {P : Program} {nt : Nat} {own st : List Nat} {ops : Array Oper} : ∀ (L : List Nat) {env : Env} {H : Heap} {K : Env → Heap → Prop}, evalD P w0 nt own st ops (L.filterMap fun i => ops[i]?) env H K → runD P w0 nt own st ops L env H K := by
  intro L
  induction L with
  | nil => intro env H K h; exact h
  | cons i L ih =>
    intro env H K h
    rw [List.filterMap_cons] at h
    rw [runD]
    cases e : ops[i]? with
    | none => rw [e] at h; exact ih h
    | some o =>
      rw [e] at h
      exact stepD_mono h fun _ _ k => ih k
/-- A region that draws its order, walked in another order. -/
theorem v_draw_perm {P : Program} {nt : Nat} (hm : P.follows .mixedOrders = true) (own st L : List Nat) {id : Nat} {l : List Oper} {y : Code} {Q : Exit → Env → Heap → Prop} {env : Env} {H : Heap} (hok : okDraw own st nt l.toArray L = true)
    (h : ∀ K : Env → Heap → Prop, (∀ e h, AWP P w0 nt y Q e h → K e h) → evalD P w0 nt own st l.toArray (L.filterMap fun i => l[i]?) env H K) : AWP P w0 nt (.seq (.region id l.toArray true) y) Q env H :=
  w_draw_order hm own st L hok fun K hK => runD_evalD L (by simpa using h K hK)

theorem take_filter {n q : Nat} {p : Int → Bool} (h : q < n) : ((upto n).take (q + 1)).filter p = ((upto n).take q).filter p ++ if p q then [(q : Int)] else [] := by
  have hl : q < (upto n).length := by simpa using h
  rw [List.take_succ_eq_append_getElem hl, List.filter_append, upto_get, List.filter_cons]
  rfl
theorem ne_of_free {H : Heap} {r x : Nat} {k : Blk} (h : H r = none) (hx : H x = some k) : r ≠ x := fun e => by subst e; rw [h] at hx; cases hx
theorem free_of_sub {H H' : Heap} {r : Nat} (s : Sub H H') (h : H' r = none) : H r = none := by
  cases e : H r with
  | none => rfl
  | some k => rw [s r k e] at h; cases h
theorem mf_ne {H : Heap} {F L R m x : Nat} {adj : List (List Int)} {f g : Int → Int} {z : AV} {k : Blk} (d : Dt H F L R) (h : H x = some k) : mf H F L R adj m f g z x = some k := by
  unfold mf
  rw [upd_ne _ _ _ (Ne.symm (ne_of_free d.hF h)), upd_ne _ _ _ (Ne.symm (ne_of_free d.hR h)), upd_ne _ _ _ (Ne.symm (ne_of_free d.hL h)), h]
theorem ne_of_look {H : Heap} {x y : Nat} {k k' : Blk} (h : H x = some k) (h' : H y = some k') (hk : k ≠ k') : x ≠ y := fun e => by subst e; rw [h] at h'; exact hk (Option.some.inj h')
theorem upd_free {H : Heap} {r x : Nat} {k : Blk} {b : Option Blk} (h : H r = none) (hx : H x = some k) : upd H r b x = some k := by
  rw [upd_ne _ _ _ (Ne.symm (ne_of_free h hx)), hx]

set_option maxHeartbeats 4000000 in
theorem cover_use {H : Heap} {m : Nat} {adj : List (List Int)} (ha : okLen adj) (hl : ∀ l ∈ adj, okLen l) (hG : GrM m adj) {K : AV → Heap → Prop}
    (k : ∀ f g l r, MInv m adj adj.length f g → Cv m adj l r → l.length + r.length = cntM adj.length f → K (.tup [ints l, ints r]) H) : ACalls Try.prog w0 51 [I m, rows adj] H K := by
  have hmay : mayM m adj = true := mayM_iff.2 ⟨m, rfl, hG⟩
  refine (?_ : ACalls Try.prog w0 51 [I m, rows adj] H (fun v H' => ∃ f g l r, MInv m adj adj.length f g ∧ Cv m adj l r ∧ l.length + r.length = cntM adj.length f ∧ v = .tup [ints l, ints r] ∧ Sub H H')).drop ?_
  rotate_left
  · rintro v H' ⟨f, g, l, r, hi, hc, he, rfl, s⟩
    exact ⟨_, s, k f g l r hi hc he⟩
  clear k K
  have hn := hG.nle
  have hm := hG.mle
  refine w_enter Try.func51 rfl Try.ntmps51 (ts := [4, 5]) rfl (by simp) (by kernel_rfl) ?_
  repeat' (first
    | (with_reducible refine awp_skip ?_)
    | (with_reducible refine then_any ?_)
    | (with_reducible refine then_ret ?_)
    | (with_reducible refine then_exit ?_)
    | (with_reducible refine inBlock_normal ?_)
    | (with_reducible refine inBlock_ret ?_)
    | (with_reducible refine inBlock_hit ?_)
    | (with_reducible refine inBlock_miss (by decide) ?_)
    | (with_reducible refine awp_ret ?_)
    | (with_reducible refine awp_exit ?_)
    | (with_reducible refine post_ret ?_)
    | (with_reducible refine post_normal ?_)
    | (with_reducible refine awp_block ?_)
    | ((fail_if_success (with_reducible refine at_reg 4 ?_)); with_reducible refine v_reg [11, 12] (fun K hK => ?_))
    | (with_reducible refine v_reg1 [11, 12] (fun K hK => ?_))
    | ((fail_if_success (with_reducible refine at_reg 4 ?_)); with_reducible refine v_draw mixed [11, 12] [] (by kernel_rfl) (fun K hK => ?_))
    | (with_reducible refine v_draw1 mixed [11, 12] [] (by kernel_rfl) (fun K hK => ?_))
    | (with_reducible refine ev_nil (hK _ _ ?_); clear hK K)
    | (with_reducible refine ed_nil (hK _ _ ?_); clear hK K)
    | ((first | with_reducible refine ev_cons (fun K' hK' => ?_) | with_reducible refine ed_cons (fun K' hK' => ?_) | (with_reducible refine ev_id ?_; refine ev_guard rfl (fun K' hK' => ?_)) | (with_reducible refine ed_id ?_; refine ed_guard rfl (fun K' hK' => ?_))); simp [hmay]; repeat' (first | (with_reducible refine hK' _ _ ?_; clear hK' K') | (with_reducible refine Ret.use (matchMay_ret ha hl) ?_; try simp [hmay]) | ((with_reducible refine greatest_use hG (fun F L R f g z d hi => ?_)); try simp [hmay]) | (with_reducible refine And.intro ?_ ?_) | (with_reducible intro hg) | (clear hK' K'; omega)))
    | (with_reducible refine w_cond (fun A B hA hB => ?_); simp [hmay]; repeat' (first | (with_reducible refine hA ?_; clear hA hB A B) | (with_reducible refine hB ?_; clear hA hB A B) | (with_reducible refine And.intro ?_ ?_) | (with_reducible intro hc)))
    | ((fail_if_success (with_reducible refine at_reg 4 ?_)); with_reducible refine awp_seq ?_))
  rename_i X3 hX3 X6
  obtain ⟨h3, e3⟩ : ∃ h3, h3 = upd (mf (upd H X3 (some (.box [rows adj]))) F L R adj m f g z) X6 (some (.box [.ptr F 0 0])) := ⟨_, rfl⟩
  rw [← e3]
  have b3 : h3 X3 = some (.box [rows adj]) := by rw [e3]; exact upd_free hg (mf_ne d (upd_same _ _ _))
  have bF : h3 F = some (.box [rows adj, .ref L 0 adj.length adj.length, .ref R 0 m m, z]) := by rw [e3]; exact upd_free hg mf_F
  have bR : h3 R = some (.arr 1 3 (labI m g) m) := by rw [e3]; exact upd_free hg (mf_R d)
  have bL : h3 L = some (.arr 1 3 (labI adj.length f) adj.length) := by rw [e3]; exact upd_free hg (mf_L d)
  have b6 : h3 X6 = some (.box [.ptr F 0 0]) := by rw [e3, upd_same]
  have s3 : Sub H h3 := by rw [e3]; exact ((sub_new hX3).trans (mf_sub d)).trans (sub_new hg)
  have hF0 : H F = none := free_of_sub (sub_new hX3) d.hF
  have hFX6 : X6 ≠ F := ne_of_free hg mf_F
  have hFX3 : F ≠ X3 := ne_of_free d.hF (upd_same _ _ _)
  have hFR : R ≠ F := d.rf
  have hFL : L ≠ F := d.lf
  clear e3 hg hX3 d
  refine v_draw_perm mixed [11, 12] [24] [0, 1, 3, 4, 2, 5] (by kernel_rfl) (fun K hK => ?_)
  simp only [List.filterMap_cons, List.filterMap_nil, List.getElem?_cons_succ, List.getElem?_cons_zero]
  repeat' (first
    | (with_reducible refine awp_skip ?_)
    | (with_reducible refine then_any ?_)
    | (with_reducible refine then_ret ?_)
    | (with_reducible refine then_exit ?_)
    | (with_reducible refine inBlock_normal ?_)
    | (with_reducible refine inBlock_ret ?_)
    | (with_reducible refine inBlock_hit ?_)
    | (with_reducible refine inBlock_miss (by decide) ?_)
    | (with_reducible refine awp_ret ?_)
    | (with_reducible refine awp_exit ?_)
    | (with_reducible refine post_ret ?_)
    | (with_reducible refine post_normal ?_)
    | (with_reducible refine awp_block ?_)
    | ((fail_if_success (with_reducible refine at_reg 5 ?_)); with_reducible refine v_reg [11, 12] (fun K hK => ?_))
    | (with_reducible refine v_reg1 [11, 12] (fun K hK => ?_))
    | ((fail_if_success (with_reducible refine at_reg 5 ?_)); with_reducible refine v_draw mixed [11, 12] [24] (by kernel_rfl) (fun K hK => ?_))
    | (with_reducible refine v_draw1 mixed [11, 12] [24] (by kernel_rfl) (fun K hK => ?_))
    | (with_reducible refine ev_nil (hK _ _ ?_); clear hK K)
    | (with_reducible refine ed_nil (hK _ _ ?_); clear hK K)
    | ((first | with_reducible refine ev_cons (fun K' hK' => ?_) | with_reducible refine ed_cons (fun K' hK' => ?_) | (with_reducible refine ev_id ?_; refine ev_guard rfl (fun K' hK' => ?_)) | (with_reducible refine ed_id ?_; refine ed_guard rfl (fun K' hK' => ?_))); simp [boxes, Blk.isArr, b3, bF, bR, bL, b6]; repeat' (first | (with_reducible refine hK' _ _ ?_; clear hK' K') | (with_reducible refine And.intro ?_ ?_) | (with_reducible intro hg) | (clear hK' K'; omega)))
    | (with_reducible refine w_cond (fun A B hA hB => ?_); simp [boxes, Blk.isArr, b3, bF, bR, bL, b6]; repeat' (first | (with_reducible refine hA ?_; clear hA hB A B) | (with_reducible refine hB ?_; clear hA hB A B) | (with_reducible refine And.intro ?_ ?_) | (with_reducible intro hc)))
    | ((fail_if_success (with_reducible refine at_reg 5 ?_)); with_reducible refine awp_seq ?_))
  rename_i S
  have hFS : F ≠ S := Ne.symm (ne_of_free hg bF)
  simp [hFS, bF]
  with_reducible refine hK' _ _ ?_
  clear hK' K'
  with_reducible refine ed_nil (hK _ _ ?_)
  clear hK K
  obtain ⟨h4, e4⟩ : ∃ h4, h4 = upd (upd h3 S (some (.arr 1 4 (List.replicate m (.sc (.bool false))) m))) F (some (.box [rows adj, .ref L 0 adj.length adj.length, .ref R 0 m m, .ref S 0 m m])) := ⟨_, rfl⟩
  rw [← e4]
  have s4 : Sub H h4 := by rw [e4]; exact (s3.trans (sub_new hg)).upd hF0 _
  have c3 : h4 X3 = some (.box [rows adj]) := by rw [e4, upd_ne _ _ _ (Ne.symm hFX3)]; exact upd_free hg b3
  have c6 : h4 X6 = some (.box [.ptr F 0 0]) := by rw [e4, upd_ne _ _ _ hFX6]; exact upd_free hg b6
  have cR : h4 R = some (.arr 1 3 (labI m g) m) := by rw [e4, upd_ne _ _ _ hFR]; exact upd_free hg bR
  have cL : h4 L = some (.arr 1 3 (labI adj.length f) adj.length) := by rw [e4, upd_ne _ _ _ hFL]; exact upd_free hg bL
  have cS : h4 S = some (.arr 1 4 (List.replicate m (.sc (.bool false))) m) := by rw [e4, upd_ne _ _ _ (Ne.symm hFS), upd_same]
  have cF : h4 F = some (.box [rows adj, .ref L 0 adj.length adj.length, .ref R 0 m m, .ref S 0 m m]) := by rw [e4, upd_same]
  have hS0 : H S = none := free_of_sub s3 hg
  clear e4 hg b3 bF bR bL b6 s3 h3
  repeat' (first
    | (with_reducible refine awp_skip ?_)
    | (with_reducible refine then_any ?_)
    | (with_reducible refine then_ret ?_)
    | (with_reducible refine then_exit ?_)
    | (with_reducible refine inBlock_normal ?_)
    | (with_reducible refine inBlock_ret ?_)
    | (with_reducible refine inBlock_hit ?_)
    | (with_reducible refine inBlock_miss (by decide) ?_)
    | (with_reducible refine awp_ret ?_)
    | (with_reducible refine awp_exit ?_)
    | (with_reducible refine post_ret ?_)
    | (with_reducible refine post_normal ?_)
    | (with_reducible refine awp_block ?_)
    | ((fail_if_success (with_reducible refine at_reg 8 ?_)); with_reducible refine v_reg [11, 12] (fun K hK => ?_))
    | (with_reducible refine v_reg1 [11, 12] (fun K hK => ?_))
    | ((fail_if_success (with_reducible refine at_reg 8 ?_)); with_reducible refine v_draw mixed [11, 12] [] (by kernel_rfl) (fun K hK => ?_))
    | (with_reducible refine v_draw1 mixed [11, 12] [] (by kernel_rfl) (fun K hK => ?_))
    | (with_reducible refine ev_nil (hK _ _ ?_); clear hK K)
    | (with_reducible refine ed_nil (hK _ _ ?_); clear hK K)
    | ((first | with_reducible refine ev_cons (fun K' hK' => ?_) | with_reducible refine ed_cons (fun K' hK' => ?_) | (with_reducible refine ev_id ?_; refine ev_guard rfl (fun K' hK' => ?_)) | (with_reducible refine ed_id ?_; refine ed_guard rfl (fun K' hK' => ?_))); simp [c3, c6, rows]; repeat' (first | (with_reducible refine hK' _ _ ?_; clear hK' K') | (with_reducible refine And.intro ?_ ?_) | (with_reducible intro hg) | (clear hK' K'; omega)))
    | (with_reducible refine w_cond (fun A B hA hB => ?_); simp [c3, c6, rows]; repeat' (first | (with_reducible refine hA ?_; clear hA hB A B) | (with_reducible refine hB ?_; clear hA hB A B) | (with_reducible refine And.intro ?_ ?_) | (with_reducible intro hc)))
    | ((fail_if_success (with_reducible refine at_reg 8 ?_)); with_reducible refine awp_seq ?_))
  rename_i RD hRD X7 hX7 X8
  have hX7D : X7 ≠ RD := by rintro rfl; simp at hX7
  have hX70 : h4 X7 = none := by rw [if_neg hX7D] at hX7; exact hX7
  have hX87 : X8 ≠ X7 := by rintro rfl; simp at hg
  have hX8D : X8 ≠ RD := by rintro rfl; simp [hX87] at hg
  have hX80 : h4 X8 = none := by rw [if_neg hX87, if_neg hX8D] at hg; exact hg
  clear hg hX7
  obtain ⟨h5, e5⟩ : ∃ h5, h5 = upd (upd (upd h4 RD (some (.arr 1 4 (List.replicate adj.length (.sc (.bool false))) adj.length))) X7 (some (.box [.ref RD 0 adj.length adj.length]))) X8 (some (.box [cloW X3 X6 X7 X8])) := ⟨_, rfl⟩
  have look : ∀ {x : Nat} {k : Blk}, h4 x = some k → h5 x = some k := fun {x k} hx => by
    rw [e5, upd_ne _ _ _ (Ne.symm (ne_of_free hX80 hx)), upd_ne _ _ _ (Ne.symm (ne_of_free hX70 hx)), upd_ne _ _ _ (Ne.symm (ne_of_free hRD hx)), hx]
  have dD : h5 RD = some (.arr 1 4 (List.replicate adj.length (.sc (.bool false))) adj.length) := by rw [e5, upd_ne _ _ _ (Ne.symm hX8D), upd_ne _ _ _ (Ne.symm hX7D), upd_same]
  have d7 : h5 X7 = some (.box [.ref RD 0 adj.length adj.length]) := by rw [e5, upd_ne _ _ _ (Ne.symm hX87), upd_same]
  have d8 : h5 X8 = some (.box [cloW X3 X6 X7 X8]) := by rw [e5, upd_same]
  have d3 := look c3
  have d6 := look c6
  have dR := look cR
  have dL := look cL
  have dS := look cS
  have dF := look cF
  have hRD0 : H RD = none := free_of_sub s4 hRD
  have s5 : Sub H h5 := by rw [e5]; exact ((s4.upd hRD0 _).upd (free_of_sub s4 hX70) _).upd (free_of_sub s4 hX80) _
  have hSD : S ≠ RD := Ne.symm (ne_of_free hRD cS)
  rw [← e5]
  clear e5 look c3 c6 cR cL cS cF hRD hX80 hX70 s4 h4
  obtain ⟨G, eG⟩ : ∃ G, G = upd (upd h5 S none) RD none := ⟨_, rfl⟩
  have hcw : h5 = cw G S RD m adj.length (fun _ => false) (fun _ => false) := by
    rw [eG]
    funext x
    unfold cw
    by_cases e1 : x = RD
    · subst e1; rw [upd_same, dD, ← labB_rep]
    · rw [upd_ne _ _ _ e1]
      by_cases e2 : x = S
      · subst e2; rw [upd_same, dS, ← labB_rep]
      · rw [upd_ne _ _ _ e2, upd_ne _ _ _ e1, upd_ne _ _ _ e2]
  have gl : ∀ {x : Nat} {k : Blk}, h5 x = some k → (∀ c n, k ≠ .arr 1 4 c n) → G x = some k := fun {x k} hx hk => by
    rw [eG, upd_ne _ _ _ (ne_of_look hx dD (hk _ _)), upd_ne _ _ _ (ne_of_look hx dS (hk _ _)), hx]
  have wh : Wh G S RD F L R X3 X6 X7 X8 m adj g :=
    ⟨gl d3 (by simp), gl d6 (by simp), gl d7 (by simp), gl d8 (by simp), gl dF (by simp), gl dR (by simp), by rw [eG, upd_ne _ _ _ hSD, upd_same], by rw [eG, upd_same], hSD⟩
  have gL := gl dL (by simp)
  have sG : Sub H G := by rw [eG]; exact (s5.upd hS0 none).upd hRD0 none
  rw [hcw]
  clear eG hcw gl d3 d6 d7 d8 dF dR dL dS dD s5 h5
  have hL : ∀ (s rd : Int → Bool), cw G S RD m adj.length s rd L = some (.arr 1 3 (labI adj.length f) adj.length) := fun s rd => cw_G gL wh.gS wh.gD
  have hi' := hi
  obtain ⟨hgood, _, Z, hZ, hwhy⟩ := hi
  repeat' (first
    | (with_reducible refine awp_skip ?_)
    | (with_reducible refine then_any ?_)
    | (with_reducible refine then_ret ?_)
    | (with_reducible refine then_exit ?_)
    | (with_reducible refine inBlock_normal ?_)
    | (with_reducible refine inBlock_ret ?_)
    | (with_reducible refine inBlock_hit ?_)
    | (with_reducible refine inBlock_miss (by decide) ?_)
    | (with_reducible refine awp_ret ?_)
    | (with_reducible refine awp_exit ?_)
    | (with_reducible refine post_ret ?_)
    | (with_reducible refine post_normal ?_)
    | (with_reducible refine awp_block ?_)
    | (with_reducible refine v_reg [11, 12] (fun K hK => ?_))
    | (with_reducible refine v_reg1 [11, 12] (fun K hK => ?_))
    | (with_reducible refine v_draw mixed [11, 12] [] (by kernel_rfl) (fun K hK => ?_))
    | (with_reducible refine v_draw1 mixed [11, 12] [] (by kernel_rfl) (fun K hK => ?_))
    | (with_reducible refine ev_nil (hK _ _ ?_); clear hK K)
    | (with_reducible refine ed_nil (hK _ _ ?_); clear hK K)
    | ((first | with_reducible refine ev_cons (fun K' hK' => ?_) | with_reducible refine ed_cons (fun K' hK' => ?_) | (with_reducible refine ev_id ?_; refine ev_guard rfl (fun K' hK' => ?_)) | (with_reducible refine ed_id ?_; refine ed_guard rfl (fun K' hK' => ?_))); simp [w6 wh, wF wh, hL]; repeat' (first | (with_reducible refine hK' _ _ ?_; clear hK' K') | (with_reducible refine And.intro ?_ ?_) | (with_reducible intro hg) | (clear hK' K'; omega)))
    | (with_reducible refine w_cond (fun A B hA hB => ?_); simp [w6 wh, wF wh, hL]; repeat' (first | (with_reducible refine hA ?_; clear hA hB A B) | (with_reducible refine hB ?_; clear hA hB A B) | (with_reducible refine And.intro ?_ ?_) | (with_reducible intro hc)))
    | (with_reducible refine awp_seq ?_))
  refine awp_loop (fun env h => ∃ (q : Nat) (s rd : Int → Bool), q ≤ adj.length ∧ CI m adj f g q rd s ∧ env 38 = I q ∧ env 37 = I adj.length ∧ env 36 = .ref L 0 adj.length adj.length ∧ env 6 = .ptr X6 0 0 ∧ env 7 = .ptr X7 0 0 ∧ env 8 = .ptr X8 0 0 ∧ h = cw G S RD m adj.length s rd) (fun env _ => adj.length - natA (env 38)) ?_ ?_
  · exact ⟨0, _, _, by omega, .start, by simp, by simp, by simp, by simp, by simp, by simp, rfl⟩
  rintro env h ⟨q, s, rd, hq, hci, h38, h37, h36, h6, h7, h8, rfl⟩
  have hnat : natA (env 38) = q := by simp [h38]
  rw [hnat]; clear hnat
  by_cases hlt : q < adj.length
  · have hLq : ∀ h, (labI adj.length f)[q]'h = I (f q) := fun h => labI_at (x := (q : Int)) (by omega) (by simpa using h)
    have hqL : q < (labI adj.length f).length := by rw [labI_length]; exact hlt
    have hBq : ∀ h, (labB adj.length rd)[q]'h = B (rd q) := fun h => labB_at (x := (q : Int)) (by omega) (by simpa using h)
    have hqB : q < (labB adj.length rd).length := by rw [labB_length]; exact hlt
    by_cases hfq : f q = -1
    · cases hrq : rd q with
      | true =>
        repeat' (first
          | (with_reducible refine awp_skip ?_)
          | (with_reducible refine then_any ?_)
          | (with_reducible refine then_ret ?_)
          | (with_reducible refine then_exit ?_)
          | (with_reducible refine inBlock_normal ?_)
          | (with_reducible refine inBlock_ret ?_)
          | (with_reducible refine inBlock_hit ?_)
          | (with_reducible refine inBlock_miss (by decide) ?_)
          | (with_reducible refine awp_ret ?_)
          | (with_reducible refine awp_exit ?_)
          | (with_reducible refine post_ret ?_)
          | (with_reducible refine post_normal ?_)
          | (with_reducible refine awp_block ?_)
          | (with_reducible refine v_reg [] (fun K hK => ?_))
          | (with_reducible refine v_reg1 [] (fun K hK => ?_))
          | (with_reducible refine v_draw mixed [] [] (by kernel_rfl) (fun K hK => ?_))
          | (with_reducible refine v_draw1 mixed [] [] (by kernel_rfl) (fun K hK => ?_))
          | (with_reducible refine ev_nil (hK _ _ ?_); clear hK K)
          | (with_reducible refine ed_nil (hK _ _ ?_); clear hK K)
          | ((first | with_reducible refine ev_cons (fun K' hK' => ?_) | with_reducible refine ed_cons (fun K' hK' => ?_) | (with_reducible refine ev_id ?_; refine ev_guard rfl (fun K' hK' => ?_)) | (with_reducible refine ed_id ?_; refine ed_guard rfl (fun K' hK' => ?_))); simp [h38, h37, h36, h6, h7, h8, w7 wh, cw_D, hL, hlt, hLq, hqL, hBq, hqB, hfq, hrq, labI_length, labB_length]; repeat' (first | (with_reducible refine hK' _ _ ?_; clear hK' K') | (with_reducible refine And.intro ?_ ?_) | (with_reducible intro hg) | (clear hK' K'; omega)))
          | (with_reducible refine w_cond (fun A B hA hB => ?_); simp [h38, h37, h36, h6, h7, h8, w7 wh, cw_D, hL, hlt, hLq, hqL, hBq, hqB, hfq, hrq, labI_length, labB_length]; repeat' (first | (with_reducible refine hA ?_; clear hA hB A B) | (with_reducible refine hB ?_; clear hA hB A B) | (with_reducible refine And.intro ?_ ?_) | (with_reducible intro hc)))
          | (with_reducible refine awp_seq ?_))
        all_goals try omega
        exact ⟨⟨q + 1, s, rd, by omega, hci.stay (fun _ => hrq) hgood, by simp, by simp [h37], by simp [h36], by simp [h6], by simp [h7], by simp [h8], rfl⟩, by simp; omega⟩
      | false =>
        have hwalk := fun K => walk_use (w0 := w0) wh hG hgood hZ (unseen m s) (i := q) (s := s) (rd := rd) (K := K) (by omega) (by omega) (hwhy q (by omega) (by omega) hfq) (Nat.le_refl _)
        repeat' (first
          | (with_reducible refine awp_skip ?_)
          | (with_reducible refine then_any ?_)
          | (with_reducible refine then_ret ?_)
          | (with_reducible refine then_exit ?_)
          | (with_reducible refine inBlock_normal ?_)
          | (with_reducible refine inBlock_ret ?_)
          | (with_reducible refine inBlock_hit ?_)
          | (with_reducible refine inBlock_miss (by decide) ?_)
          | (with_reducible refine awp_ret ?_)
          | (with_reducible refine awp_exit ?_)
          | (with_reducible refine post_ret ?_)
          | (with_reducible refine post_normal ?_)
          | (with_reducible refine awp_block ?_)
          | (with_reducible refine v_reg [] (fun K hK => ?_))
          | (with_reducible refine v_reg1 [] (fun K hK => ?_))
          | (with_reducible refine v_draw mixed [] [] (by kernel_rfl) (fun K hK => ?_))
          | (with_reducible refine v_draw1 mixed [] [] (by kernel_rfl) (fun K hK => ?_))
          | (with_reducible refine ev_nil (hK _ _ ?_); clear hK K)
          | (with_reducible refine ed_nil (hK _ _ ?_); clear hK K)
          | ((first | with_reducible refine ev_cons (fun K' hK' => ?_) | with_reducible refine ed_cons (fun K' hK' => ?_) | (with_reducible refine ev_id ?_; refine ev_guard rfl (fun K' hK' => ?_)) | (with_reducible refine ed_id ?_; refine ed_guard rfl (fun K' hK' => ?_))); simp [h38, h37, h36, h6, h7, h8, w7 wh, w8 wh, cw_D, hL, hlt, hLq, hqL, hBq, hqB, hfq, hrq, labI_length, labB_length]; repeat' (first | (with_reducible refine hK' _ _ ?_; clear hK' K') | ((with_reducible refine hwalk _ (fun s2 rd2 w2 => ?_)); try simp [h38, h37, h36, h6, h7, h8, w7 wh, w8 wh, cw_D, hL, hlt, hLq, hqL, hBq, hqB, hfq, hrq, labI_length, labB_length]) | (with_reducible refine And.intro ?_ ?_) | (with_reducible intro hg) | (clear hK' K'; omega)))
          | (with_reducible refine w_cond (fun A B hA hB => ?_); simp [h38, h37, h36, h6, h7, h8, w7 wh, w8 wh, cw_D, hL, hlt, hLq, hqL, hBq, hqB, hfq, hrq, labI_length, labB_length]; repeat' (first | (with_reducible refine hA ?_; clear hA hB A B) | (with_reducible refine hB ?_; clear hA hB A B) | (with_reducible refine And.intro ?_ ?_) | (with_reducible intro hc)))
          | (with_reducible refine awp_seq ?_))
        all_goals try omega
        exact ⟨⟨q + 1, s2, rd2, by omega, hci.go hfq w2, by simp, by simp [h37], by simp [h36], by simp [h6], by simp [h7], by simp [h8], rfl⟩, by simp; omega⟩
    · repeat' (first
        | (with_reducible refine awp_skip ?_)
        | (with_reducible refine then_any ?_)
        | (with_reducible refine then_ret ?_)
        | (with_reducible refine then_exit ?_)
        | (with_reducible refine inBlock_normal ?_)
        | (with_reducible refine inBlock_ret ?_)
        | (with_reducible refine inBlock_hit ?_)
        | (with_reducible refine inBlock_miss (by decide) ?_)
        | (with_reducible refine awp_ret ?_)
        | (with_reducible refine awp_exit ?_)
        | (with_reducible refine post_ret ?_)
        | (with_reducible refine post_normal ?_)
        | (with_reducible refine awp_block ?_)
        | (with_reducible refine v_reg [] (fun K hK => ?_))
        | (with_reducible refine v_reg1 [] (fun K hK => ?_))
        | (with_reducible refine v_draw mixed [] [] (by kernel_rfl) (fun K hK => ?_))
        | (with_reducible refine v_draw1 mixed [] [] (by kernel_rfl) (fun K hK => ?_))
        | (with_reducible refine ev_nil (hK _ _ ?_); clear hK K)
        | (with_reducible refine ed_nil (hK _ _ ?_); clear hK K)
        | ((first | with_reducible refine ev_cons (fun K' hK' => ?_) | with_reducible refine ed_cons (fun K' hK' => ?_) | (with_reducible refine ev_id ?_; refine ev_guard rfl (fun K' hK' => ?_)) | (with_reducible refine ed_id ?_; refine ed_guard rfl (fun K' hK' => ?_))); simp [h38, h37, h36, h6, h7, h8, w7 wh, cw_D, hL, hlt, hLq, hqL, hBq, hqB, hfq, labI_length, labB_length]; repeat' (first | (with_reducible refine hK' _ _ ?_; clear hK' K') | (with_reducible refine And.intro ?_ ?_) | (with_reducible intro hg) | (clear hK' K'; omega)))
        | (with_reducible refine w_cond (fun A B hA hB => ?_); simp [h38, h37, h36, h6, h7, h8, w7 wh, cw_D, hL, hlt, hLq, hqL, hBq, hqB, hfq, labI_length, labB_length]; repeat' (first | (with_reducible refine hA ?_; clear hA hB A B) | (with_reducible refine hB ?_; clear hA hB A B) | (with_reducible refine And.intro ?_ ?_) | (with_reducible intro hc)))
        | (with_reducible refine awp_seq ?_))
      all_goals try omega
      exact ⟨⟨q + 1, s, rd, by omega, hci.stay (fun e => absurd e hfq) hgood, by simp, by simp [h37], by simp [h36], by simp [h6], by simp [h7], by simp [h8], rfl⟩, by simp; omega⟩
  · have : q = adj.length := by omega
    subst this
    obtain ⟨hcv, hsz⟩ := Rch.cover hG hgood hci.rch
    obtain ⟨h2, e2⟩ : ∃ h2, h2 = cw G S RD m adj.length s rd := ⟨_, rfl⟩
    have k6 : h2 X6 = some (.box [.ptr F 0 0]) := by rw [e2]; exact w6 wh
    have k7 : h2 X7 = some (.box [.ref RD 0 adj.length adj.length]) := by rw [e2]; exact w7 wh
    have kF : h2 F = some (.box [rows adj, .ref L 0 adj.length adj.length, .ref R 0 m m, .ref S 0 m m]) := by rw [e2]; exact wF wh
    have kD : h2 RD = some (.arr 1 4 (labB adj.length rd) adj.length) := by rw [e2]; exact cw_D
    have kS : h2 S = some (.arr 1 4 (labB m s) m) := by rw [e2]; exact cw_S wh
    have s2 : Sub H h2 := by rw [e2]; exact (sG.upd hS0 _).upd hRD0 _
    rw [← e2]
    clear e2 wh gL sG hL hci hwhy hZ hgood
    repeat' (first
      | (with_reducible refine awp_skip ?_)
      | (with_reducible refine then_any ?_)
      | (with_reducible refine then_ret ?_)
      | (with_reducible refine then_exit ?_)
      | (with_reducible refine inBlock_normal ?_)
      | (with_reducible refine inBlock_ret ?_)
      | (with_reducible refine inBlock_hit ?_)
      | (with_reducible refine inBlock_miss (by decide) ?_)
      | (with_reducible refine awp_ret ?_)
      | (with_reducible refine awp_exit ?_)
      | (with_reducible refine post_ret ?_)
      | (with_reducible refine post_normal ?_)
      | (with_reducible refine awp_block ?_)
      | ((fail_if_success (with_reducible refine at_reg 15 ?_)); with_reducible refine v_reg [11, 12] (fun K hK => ?_))
      | (with_reducible refine v_reg1 [11, 12] (fun K hK => ?_))
      | ((fail_if_success (with_reducible refine at_reg 15 ?_)); with_reducible refine v_draw mixed [11, 12] [] (by kernel_rfl) (fun K hK => ?_))
      | (with_reducible refine v_draw1 mixed [11, 12] [] (by kernel_rfl) (fun K hK => ?_))
      | (with_reducible refine ev_nil (hK _ _ ?_); clear hK K)
      | (with_reducible refine ed_nil (hK _ _ ?_); clear hK K)
      | ((first | with_reducible refine ev_cons (fun K' hK' => ?_) | with_reducible refine ed_cons (fun K' hK' => ?_) | (with_reducible refine ev_id ?_; refine ev_guard rfl (fun K' hK' => ?_)) | (with_reducible refine ed_id ?_; refine ed_guard rfl (fun K' hK' => ?_))); simp [h38, h37, h36, h6, h7, h8]; repeat' (first | (with_reducible refine hK' _ _ ?_; clear hK' K') | (with_reducible refine And.intro ?_ ?_) | (with_reducible intro hg) | (clear hK' K'; omega)))
      | (with_reducible refine w_cond (fun A B hA hB => ?_); simp [h38, h37, h36, h6, h7, h8]; repeat' (first | (with_reducible refine hA ?_; clear hA hB A B) | (with_reducible refine hB ?_; clear hA hB A B) | (with_reducible refine And.intro ?_ ?_) | (with_reducible intro hc)))
      | ((fail_if_success (with_reducible refine at_reg 15 ?_)); with_reducible refine awp_seq ?_))
    rename_i A hA Bq
    have hBA : Bq ≠ A := by rintro rfl; simp at hg
    have hB : h2 Bq = none := by rw [if_neg hBA] at hg; exact hg
    clear hg
    have hAB : A ≠ Bq := Ne.symm hBA
    have hkeep : ∀ {x : Nat} {k : Blk} (a b : Option Blk), h2 x = some k → upd (upd h2 A a) Bq b x = some k := fun a b hx => by
      rw [upd_ne _ _ _ (Ne.symm (ne_of_free hB hx)), upd_ne _ _ _ (Ne.symm (ne_of_free hA hx)), hx]
    have kA : ∀ a b : Option Blk, upd (upd h2 A a) Bq b A = a := fun a b => by rw [upd_ne _ _ _ hAB, upd_same]
    have kB : ∀ a b : Option Blk, upd (upd h2 A a) Bq b Bq = b := fun a b => by rw [upd_same]
    have cA : ∀ a b c : Option Blk, upd (upd (upd h2 A a) Bq b) A c = upd (upd h2 A c) Bq b := fun a b c => by rw [upd_comm _ _ _ hBA, upd_upd]
    have cB : ∀ a b c : Option Blk, upd (upd (upd h2 A a) Bq b) Bq c = upd (upd h2 A a) Bq c := fun a b c => by rw [upd_upd]
    obtain ⟨V, eV⟩ : ∃ V : List Int → List Int → Heap, V = fun l r => upd (upd h2 A (some (.arr 1 3 (l.map I) l.length))) Bq (some (.arr 1 3 (r.map I) r.length)) := ⟨_, rfl⟩
    have v6 : ∀ l r, V l r X6 = some (.box [.ptr F 0 0]) := fun l r => by rw [eV]; exact hkeep _ _ k6
    have v7 : ∀ l r, V l r X7 = some (.box [.ref RD 0 adj.length adj.length]) := fun l r => by rw [eV]; exact hkeep _ _ k7
    have vF : ∀ l r, V l r F = some (.box [rows adj, .ref L 0 adj.length adj.length, .ref R 0 m m, .ref S 0 m m]) := fun l r => by rw [eV]; exact hkeep _ _ kF
    have vD : ∀ l r, V l r RD = some (.arr 1 4 (labB adj.length rd) adj.length) := fun l r => by rw [eV]; exact hkeep _ _ kD
    have vS : ∀ l r, V l r S = some (.arr 1 4 (labB m s) m) := fun l r => by rw [eV]; exact hkeep _ _ kS
    have vA : ∀ l r, V l r A = some (.arr 1 3 (l.map I) l.length) := fun l r => by rw [eV]; exact kA _ _
    have vB : ∀ l r, V l r Bq = some (.arr 1 3 (r.map I) r.length) := fun l r => by rw [eV]; exact kB _ _
    have uA : ∀ l r l', upd (V l r) A (some (.arr 1 3 (l'.map I) l'.length)) = V l' r := fun l r l' => by rw [eV]; exact cA _ _ _
    have uB : ∀ l r r', upd (V l r) Bq (some (.arr 1 3 (r'.map I) r'.length)) = V l r' := fun l r l' => by rw [eV]; exact cB _ _ _
    have e0 : upd (upd h2 A (some (.arr 1 3 [] 0))) Bq (some (.arr 1 3 [] 0)) = V [] [] := by rw [eV]; rfl
    have sV : ∀ l r, Sub H (upd (upd (V l r) Bq none) A none) := fun l r => by
      rw [eV]
      exact ((((s2.upd (free_of_sub s2 hA) _).upd (free_of_sub s2 hB) _).upd (free_of_sub s2 hB) _).upd (free_of_sub s2 hA) _)
    rw [e0]
    clear e0 eV hkeep kA kB cA cB k6 k7 kF kD kS s2 hA hB h2
    repeat' (first
      | (with_reducible refine awp_skip ?_)
      | (with_reducible refine then_any ?_)
      | (with_reducible refine then_ret ?_)
      | (with_reducible refine then_exit ?_)
      | (with_reducible refine inBlock_normal ?_)
      | (with_reducible refine inBlock_ret ?_)
      | (with_reducible refine inBlock_hit ?_)
      | (with_reducible refine inBlock_miss (by decide) ?_)
      | (with_reducible refine awp_ret ?_)
      | (with_reducible refine awp_exit ?_)
      | (with_reducible refine post_ret ?_)
      | (with_reducible refine post_normal ?_)
      | (with_reducible refine awp_block ?_)
      | (with_reducible refine v_reg [] (fun K hK => ?_))
      | (with_reducible refine v_reg1 [] (fun K hK => ?_))
      | (with_reducible refine v_draw mixed [] [] (by kernel_rfl) (fun K hK => ?_))
      | (with_reducible refine v_draw1 mixed [] [] (by kernel_rfl) (fun K hK => ?_))
      | (with_reducible refine ev_nil (hK _ _ ?_); clear hK K)
      | (with_reducible refine ed_nil (hK _ _ ?_); clear hK K)
      | ((first | with_reducible refine ev_cons (fun K' hK' => ?_) | with_reducible refine ed_cons (fun K' hK' => ?_) | (with_reducible refine ev_id ?_; refine ev_guard rfl (fun K' hK' => ?_)) | (with_reducible refine ed_id ?_; refine ed_guard rfl (fun K' hK' => ?_))); simp [h38, h37, h36, h6, h7, h8, v7, vD]; repeat' (first | (with_reducible refine hK' _ _ ?_; clear hK' K') | (with_reducible refine And.intro ?_ ?_) | (with_reducible intro hg) | (clear hK' K'; omega)))
      | (with_reducible refine w_cond (fun A B hA hB => ?_); simp [h38, h37, h36, h6, h7, h8, v7, vD]; repeat' (first | (with_reducible refine hA ?_; clear hA hB A B) | (with_reducible refine hB ?_; clear hA hB A B) | (with_reducible refine And.intro ?_ ?_) | (with_reducible intro hc)))
      | (with_reducible refine awp_seq ?_))
    refine awp_loop (fun env h => ∃ (q : Nat) (l : List Int), q ≤ adj.length ∧ l = ((upto adj.length).take q).filter (fun i => !rd i) ∧ env 58 = I q ∧ env 57 = I adj.length ∧ env 56 = .ref RD 0 adj.length adj.length ∧ env 6 = .ptr X6 0 0 ∧ env 11 = .ref A 0 l.length l.length ∧ env 12 = .ref Bq 0 0 0 ∧ h = V l []) (fun env _ => adj.length - natA (env 58)) ?_ ?_
    · exact ⟨0, [], by omega, by simp, by simp, by simp, by simp, by simp [h6], by simp, by simp, rfl⟩
    clear h38 h37 h36 h6 h7 h8
    rintro env h ⟨q, l, hq, hle, h58, h57, h56, h6, h11, h12, rfl⟩
    have hnat : natA (env 58) = q := by simp [h58]
    rw [hnat]; clear hnat
    have hll : l.length ≤ 64 := by
      rw [hle]
      refine Nat.le_trans (List.length_filter_le _ _) ?_
      rw [List.length_take]; omega
    by_cases hlt : q < adj.length
    · have htk := take_filter (n := adj.length) (p := fun i => !rd i) hlt
      have hBq : ∀ h, (labB adj.length rd)[q]'h = B (rd q) := fun h => labB_at (x := (q : Int)) (by omega) (by simpa using h)
      have hqB : q < (labB adj.length rd).length := by rw [labB_length]; exact hlt
      cases hrq : rd q with
      | true =>
        simp only [hrq, Bool.not_true, if_neg Bool.false_ne_true, List.append_nil] at htk
        repeat' (first
          | (with_reducible refine awp_skip ?_)
          | (with_reducible refine then_any ?_)
          | (with_reducible refine then_ret ?_)
          | (with_reducible refine then_exit ?_)
          | (with_reducible refine inBlock_normal ?_)
          | (with_reducible refine inBlock_ret ?_)
          | (with_reducible refine inBlock_hit ?_)
          | (with_reducible refine inBlock_miss (by decide) ?_)
          | (with_reducible refine awp_ret ?_)
          | (with_reducible refine awp_exit ?_)
          | (with_reducible refine post_ret ?_)
          | (with_reducible refine post_normal ?_)
          | (with_reducible refine awp_block ?_)
          | (with_reducible refine v_reg [] (fun K hK => ?_))
          | (with_reducible refine v_reg1 [] (fun K hK => ?_))
          | (with_reducible refine v_draw mixed [] [] (by kernel_rfl) (fun K hK => ?_))
          | (with_reducible refine v_draw1 mixed [] [] (by kernel_rfl) (fun K hK => ?_))
          | (with_reducible refine ev_nil (hK _ _ ?_); clear hK K)
          | (with_reducible refine ed_nil (hK _ _ ?_); clear hK K)
          | ((first | with_reducible refine ev_cons (fun K' hK' => ?_) | with_reducible refine ed_cons (fun K' hK' => ?_) | (with_reducible refine ev_id ?_; refine ev_guard rfl (fun K' hK' => ?_)) | (with_reducible refine ed_id ?_; refine ed_guard rfl (fun K' hK' => ?_))); simp [h58, h57, h56, h6, h11, h12, vD, hlt, hBq, hqB, hrq, labB_length]; repeat' (first | (with_reducible refine hK' _ _ ?_; clear hK' K') | (with_reducible refine And.intro ?_ ?_) | (with_reducible intro hg) | (clear hK' K'; omega)))
          | (with_reducible refine w_cond (fun A B hA hB => ?_); simp [h58, h57, h56, h6, h11, h12, vD, hlt, hBq, hqB, hrq, labB_length]; repeat' (first | (with_reducible refine hA ?_; clear hA hB A B) | (with_reducible refine hB ?_; clear hA hB A B) | (with_reducible refine And.intro ?_ ?_) | (with_reducible intro hc)))
          | (with_reducible refine awp_seq ?_))
        all_goals try omega
        exact ⟨⟨q + 1, l, by omega, by rw [htk]; exact hle, by simp, by simp [h57], by simp [h56], by simp [h6], by simp [h11], by simp [h12], rfl⟩, by simp; omega⟩
      | false =>
        simp only [hrq, Bool.not_false, if_true] at htk
        have hu := uA l [] (l ++ [(q : Int)])
        simp only [List.map_append, List.map_cons, List.map_nil, List.length_append, List.length_cons, List.length_nil, Nat.zero_add] at hu
        repeat' (first
          | (with_reducible refine awp_skip ?_)
          | (with_reducible refine then_any ?_)
          | (with_reducible refine then_ret ?_)
          | (with_reducible refine then_exit ?_)
          | (with_reducible refine inBlock_normal ?_)
          | (with_reducible refine inBlock_ret ?_)
          | (with_reducible refine inBlock_hit ?_)
          | (with_reducible refine inBlock_miss (by decide) ?_)
          | (with_reducible refine awp_ret ?_)
          | (with_reducible refine awp_exit ?_)
          | (with_reducible refine post_ret ?_)
          | (with_reducible refine post_normal ?_)
          | (with_reducible refine awp_block ?_)
          | (with_reducible refine v_reg [] (fun K hK => ?_))
          | (with_reducible refine v_reg1 [] (fun K hK => ?_))
          | (with_reducible refine v_draw mixed [] [] (by kernel_rfl) (fun K hK => ?_))
          | (with_reducible refine v_draw1 mixed [] [] (by kernel_rfl) (fun K hK => ?_))
          | (with_reducible refine ev_nil (hK _ _ ?_); clear hK K)
          | (with_reducible refine ed_nil (hK _ _ ?_); clear hK K)
          | ((first | with_reducible refine ev_cons (fun K' hK' => ?_) | with_reducible refine ed_cons (fun K' hK' => ?_) | (with_reducible refine ev_id ?_; refine ev_guard rfl (fun K' hK' => ?_)) | (with_reducible refine ed_id ?_; refine ed_guard rfl (fun K' hK' => ?_))); simp [h58, h57, h56, h6, h11, h12, vD, vA, hu, hlt, hBq, hqB, hrq, labB_length]; repeat' (first | (with_reducible refine hK' _ _ ?_; clear hK' K') | (with_reducible refine And.intro ?_ ?_) | (with_reducible intro hg) | (clear hK' K'; omega)))
          | (with_reducible refine w_cond (fun A B hA hB => ?_); simp [h58, h57, h56, h6, h11, h12, vD, vA, hu, hlt, hBq, hqB, hrq, labB_length]; repeat' (first | (with_reducible refine hA ?_; clear hA hB A B) | (with_reducible refine hB ?_; clear hA hB A B) | (with_reducible refine And.intro ?_ ?_) | (with_reducible intro hc)))
          | (with_reducible refine awp_seq ?_))
        all_goals try omega
        exact ⟨⟨q + 1, l ++ [(q : Int)], by omega, by rw [htk, hle], by simp, by simp [h57], by simp [h56], by simp [h6], by simp, by simp [h12], rfl⟩, by simp; omega⟩
    · have : q = adj.length := by omega
      subst this
      have htk : (upto adj.length).take adj.length = upto adj.length := List.take_of_length_le (by simp)
      rw [htk] at hle
      rw [← hle] at hcv hsz
      repeat' (first
        | (with_reducible refine awp_skip ?_)
        | (with_reducible refine then_any ?_)
        | (with_reducible refine then_ret ?_)
        | (with_reducible refine then_exit ?_)
        | (with_reducible refine inBlock_normal ?_)
        | (with_reducible refine inBlock_ret ?_)
        | (with_reducible refine inBlock_hit ?_)
        | (with_reducible refine inBlock_miss (by decide) ?_)
        | (with_reducible refine awp_ret ?_)
        | (with_reducible refine awp_exit ?_)
        | (with_reducible refine post_ret ?_)
        | (with_reducible refine post_normal ?_)
        | (with_reducible refine awp_block ?_)
        | (with_reducible refine v_reg [] (fun K hK => ?_))
        | (with_reducible refine v_reg1 [] (fun K hK => ?_))
        | (with_reducible refine v_draw mixed [] [] (by kernel_rfl) (fun K hK => ?_))
        | (with_reducible refine v_draw1 mixed [] [] (by kernel_rfl) (fun K hK => ?_))
        | (with_reducible refine ev_nil (hK _ _ ?_); clear hK K)
        | (with_reducible refine ed_nil (hK _ _ ?_); clear hK K)
        | ((first | with_reducible refine ev_cons (fun K' hK' => ?_) | with_reducible refine ed_cons (fun K' hK' => ?_) | (with_reducible refine ev_id ?_; refine ev_guard rfl (fun K' hK' => ?_)) | (with_reducible refine ed_id ?_; refine ed_guard rfl (fun K' hK' => ?_))); simp [h58, h57, h56, h6, h11, h12, v6, vF, vS]; repeat' (first | (with_reducible refine hK' _ _ ?_; clear hK' K') | (with_reducible refine And.intro ?_ ?_) | (with_reducible intro hg) | (clear hK' K'; omega)))
        | (with_reducible refine w_cond (fun A B hA hB => ?_); simp [h58, h57, h56, h6, h11, h12, v6, vF, vS]; repeat' (first | (with_reducible refine hA ?_; clear hA hB A B) | (with_reducible refine hB ?_; clear hA hB A B) | (with_reducible refine And.intro ?_ ?_) | (with_reducible intro hc)))
        | (with_reducible refine awp_seq ?_))
      refine awp_loop (fun env h => ∃ (q : Nat) (r : List Int), q ≤ m ∧ r = ((upto m).take q).filter s ∧ env 75 = I q ∧ env 74 = I m ∧ env 73 = .ref S 0 m m ∧ env 11 = .ref A 0 l.length l.length ∧ env 12 = .ref Bq 0 r.length r.length ∧ h = V l r) (fun env _ => m - natA (env 75)) ?_ ?_
      · exact ⟨0, [], by omega, by simp, by simp, by simp, by simp, by simp [h11], by simp [h12], rfl⟩
      clear h58 h57 h56 h6 h11 h12
      rintro env h ⟨q, r, hq, hre, h75, h74, h73, h11, h12, rfl⟩
      have hnat : natA (env 75) = q := by simp [h75]
      rw [hnat]; clear hnat
      have hrl : r.length ≤ 64 := by
        rw [hre]
        refine Nat.le_trans (List.length_filter_le _ _) ?_
        rw [List.length_take]; omega
      by_cases hlt : q < m
      · have htk := take_filter (n := m) (p := s) hlt
        have hBq : ∀ h, (labB m s)[q]'h = B (s q) := fun h => labB_at (x := (q : Int)) (by omega) (by simpa using h)
        have hqB : q < (labB m s).length := by rw [labB_length]; exact hlt
        cases hrq : s q with
        | false =>
          simp only [hrq, if_neg Bool.false_ne_true, List.append_nil] at htk
          repeat' (first
            | (with_reducible refine awp_skip ?_)
            | (with_reducible refine then_any ?_)
            | (with_reducible refine then_ret ?_)
            | (with_reducible refine then_exit ?_)
            | (with_reducible refine inBlock_normal ?_)
            | (with_reducible refine inBlock_ret ?_)
            | (with_reducible refine inBlock_hit ?_)
            | (with_reducible refine inBlock_miss (by decide) ?_)
            | (with_reducible refine awp_ret ?_)
            | (with_reducible refine awp_exit ?_)
            | (with_reducible refine post_ret ?_)
            | (with_reducible refine post_normal ?_)
            | (with_reducible refine awp_block ?_)
            | (with_reducible refine v_reg [] (fun K hK => ?_))
            | (with_reducible refine v_reg1 [] (fun K hK => ?_))
            | (with_reducible refine v_draw mixed [] [] (by kernel_rfl) (fun K hK => ?_))
            | (with_reducible refine v_draw1 mixed [] [] (by kernel_rfl) (fun K hK => ?_))
            | (with_reducible refine ev_nil (hK _ _ ?_); clear hK K)
            | (with_reducible refine ed_nil (hK _ _ ?_); clear hK K)
            | ((first | with_reducible refine ev_cons (fun K' hK' => ?_) | with_reducible refine ed_cons (fun K' hK' => ?_) | (with_reducible refine ev_id ?_; refine ev_guard rfl (fun K' hK' => ?_)) | (with_reducible refine ed_id ?_; refine ed_guard rfl (fun K' hK' => ?_))); simp [h75, h74, h73, h11, h12, vS, hlt, hBq, hqB, hrq, labB_length]; repeat' (first | (with_reducible refine hK' _ _ ?_; clear hK' K') | (with_reducible refine And.intro ?_ ?_) | (with_reducible intro hg) | (clear hK' K'; omega)))
            | (with_reducible refine w_cond (fun A B hA hB => ?_); simp [h75, h74, h73, h11, h12, vS, hlt, hBq, hqB, hrq, labB_length]; repeat' (first | (with_reducible refine hA ?_; clear hA hB A B) | (with_reducible refine hB ?_; clear hA hB A B) | (with_reducible refine And.intro ?_ ?_) | (with_reducible intro hc)))
            | (with_reducible refine awp_seq ?_))
          all_goals try omega
          exact ⟨⟨q + 1, r, by omega, by rw [htk]; exact hre, by simp, by simp [h74], by simp [h73], by simp [h11], by simp [h12], rfl⟩, by simp; omega⟩
        | true =>
          simp only [hrq, if_true] at htk
          have hu := uB l r (r ++ [(q : Int)])
          simp only [List.map_append, List.map_cons, List.map_nil, List.length_append, List.length_cons, List.length_nil, Nat.zero_add] at hu
          repeat' (first
            | (with_reducible refine awp_skip ?_)
            | (with_reducible refine then_any ?_)
            | (with_reducible refine then_ret ?_)
            | (with_reducible refine then_exit ?_)
            | (with_reducible refine inBlock_normal ?_)
            | (with_reducible refine inBlock_ret ?_)
            | (with_reducible refine inBlock_hit ?_)
            | (with_reducible refine inBlock_miss (by decide) ?_)
            | (with_reducible refine awp_ret ?_)
            | (with_reducible refine awp_exit ?_)
            | (with_reducible refine post_ret ?_)
            | (with_reducible refine post_normal ?_)
            | (with_reducible refine awp_block ?_)
            | (with_reducible refine v_reg [] (fun K hK => ?_))
            | (with_reducible refine v_reg1 [] (fun K hK => ?_))
            | (with_reducible refine v_draw mixed [] [] (by kernel_rfl) (fun K hK => ?_))
            | (with_reducible refine v_draw1 mixed [] [] (by kernel_rfl) (fun K hK => ?_))
            | (with_reducible refine ev_nil (hK _ _ ?_); clear hK K)
            | (with_reducible refine ed_nil (hK _ _ ?_); clear hK K)
            | ((first | with_reducible refine ev_cons (fun K' hK' => ?_) | with_reducible refine ed_cons (fun K' hK' => ?_) | (with_reducible refine ev_id ?_; refine ev_guard rfl (fun K' hK' => ?_)) | (with_reducible refine ed_id ?_; refine ed_guard rfl (fun K' hK' => ?_))); simp [h75, h74, h73, h11, h12, vS, vB, hu, hlt, hBq, hqB, hrq, labB_length]; repeat' (first | (with_reducible refine hK' _ _ ?_; clear hK' K') | (with_reducible refine And.intro ?_ ?_) | (with_reducible intro hg) | (clear hK' K'; omega)))
            | (with_reducible refine w_cond (fun A B hA hB => ?_); simp [h75, h74, h73, h11, h12, vS, vB, hu, hlt, hBq, hqB, hrq, labB_length]; repeat' (first | (with_reducible refine hA ?_; clear hA hB A B) | (with_reducible refine hB ?_; clear hA hB A B) | (with_reducible refine And.intro ?_ ?_) | (with_reducible intro hc)))
            | (with_reducible refine awp_seq ?_))
          all_goals try omega
          exact ⟨⟨q + 1, r ++ [(q : Int)], by omega, by rw [htk, hre], by simp, by simp [h74], by simp [h73], by simp [h11], by simp, rfl⟩, by simp; omega⟩
      · have : q = m := by omega
        subst this
        have htk : (upto q).take q = upto q := List.take_of_length_le (by simp)
        rw [htk] at hre
        rw [← hre] at hcv hsz
        repeat' (first
          | (with_reducible refine awp_skip ?_)
          | (with_reducible refine then_any ?_)
          | (with_reducible refine then_ret ?_)
          | (with_reducible refine then_exit ?_)
          | (with_reducible refine inBlock_normal ?_)
          | (with_reducible refine inBlock_ret ?_)
          | (with_reducible refine inBlock_hit ?_)
          | (with_reducible refine inBlock_miss (by decide) ?_)
          | (with_reducible refine awp_ret ?_)
          | (with_reducible refine awp_exit ?_)
          | (with_reducible refine post_ret ?_)
          | (with_reducible refine post_normal ?_)
          | (with_reducible refine awp_block ?_)
          | ((fail_if_success (with_reducible refine at_reg 27 ?_)); with_reducible refine v_reg [] (fun K hK => ?_))
          | (with_reducible refine v_reg1 [] (fun K hK => ?_))
          | ((fail_if_success (with_reducible refine at_reg 27 ?_)); with_reducible refine v_draw mixed [] [] (by kernel_rfl) (fun K hK => ?_))
          | (with_reducible refine v_draw1 mixed [] [] (by kernel_rfl) (fun K hK => ?_))
          | (with_reducible refine ev_nil (hK _ _ ?_); clear hK K)
          | (with_reducible refine ed_nil (hK _ _ ?_); clear hK K)
          | ((first | with_reducible refine ev_cons (fun K' hK' => ?_) | with_reducible refine ed_cons (fun K' hK' => ?_) | (with_reducible refine ev_id ?_; refine ev_guard rfl (fun K' hK' => ?_)) | (with_reducible refine ed_id ?_; refine ed_guard rfl (fun K' hK' => ?_))); simp [h75, h74, h73]; repeat' (first | (with_reducible refine hK' _ _ ?_; clear hK' K') | (with_reducible refine And.intro ?_ ?_) | (with_reducible intro hg) | (clear hK' K'; omega)))
          | (with_reducible refine w_cond (fun A B hA hB => ?_); simp [h75, h74, h73]; repeat' (first | (with_reducible refine hA ?_; clear hA hB A B) | (with_reducible refine hB ?_; clear hA hB A B) | (with_reducible refine And.intro ?_ ?_) | (with_reducible intro hc)))
          | ((fail_if_success (with_reducible refine at_reg 27 ?_)); with_reducible refine awp_seq ?_))
        refine awp_freeze 12 (r := Bq) (off := 0) (len := r.length) (top := r.length) (by simp [h12]) (vB l r) ?_
        refine awp_freeze 11 (r := A) (off := 0) (len := l.length) (top := l.length) (by simp [h11]) (by rw [upd_ne _ _ _ hAB]; exact vA l r) ?_
        repeat' (first
          | (with_reducible refine awp_skip ?_)
          | (with_reducible refine then_any ?_)
          | (with_reducible refine then_ret ?_)
          | (with_reducible refine then_exit ?_)
          | (with_reducible refine inBlock_normal ?_)
          | (with_reducible refine inBlock_ret ?_)
          | (with_reducible refine inBlock_hit ?_)
          | (with_reducible refine inBlock_miss (by decide) ?_)
          | (with_reducible refine awp_ret ?_)
          | (with_reducible refine awp_exit ?_)
          | (with_reducible refine post_ret ?_)
          | (with_reducible refine post_normal ?_)
          | (with_reducible refine awp_block ?_)
          | (with_reducible refine v_reg [] (fun K hK => ?_))
          | (with_reducible refine v_reg1 [] (fun K hK => ?_))
          | (with_reducible refine v_draw mixed [] [] (by kernel_rfl) (fun K hK => ?_))
          | (with_reducible refine v_draw1 mixed [] [] (by kernel_rfl) (fun K hK => ?_))
          | (with_reducible refine ev_nil (hK _ _ ?_); clear hK K)
          | (with_reducible refine ed_nil (hK _ _ ?_); clear hK K)
          | ((first | with_reducible refine ev_cons (fun K' hK' => ?_) | with_reducible refine ed_cons (fun K' hK' => ?_) | (with_reducible refine ev_id ?_; refine ev_guard rfl (fun K' hK' => ?_)) | (with_reducible refine ed_id ?_; refine ed_guard rfl (fun K' hK' => ?_))); simp; repeat' (first | (with_reducible refine hK' _ _ ?_; clear hK' K') | (with_reducible refine And.intro ?_ ?_) | (with_reducible intro hg) | (clear hK' K'; omega)))
          | (with_reducible refine w_cond (fun A B hA hB => ?_); simp; repeat' (first | (with_reducible refine hA ?_; clear hA hB A B) | (with_reducible refine hB ?_; clear hA hB A B) | (with_reducible refine And.intro ?_ ?_) | (with_reducible intro hc)))
          | (with_reducible refine awp_seq ?_))
        exact ⟨f, g, l, r, hi', hcv, hsz, by simp [ints], sV l r⟩
#print axioms cover_use
end Go.Am
