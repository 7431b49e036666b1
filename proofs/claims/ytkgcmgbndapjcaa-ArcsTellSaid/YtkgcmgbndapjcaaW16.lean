/- Contracts: how far each point is. -/
import Derived.Test.YtkgcmgbndapjcaaW15
namespace Go.Am
open Go Go.Proofs
set_option linter.unusedVariables false
set_option linter.unusedSimpArgs false
variable {w0 : World}
attribute [local irreducible] AWP ACalls
attribute [local congr] acalls_congr

/-- Numbers of the points below n, as cells. -/
def labI (n : Nat) (f : Int → Int) : List AV := (upto n).map fun x => I (f x)
theorem labI_length (n : Nat) (f : Int → Int) : (labI n f).length = n := by simp [labI]
theorem labI_at {n : Nat} {f : Int → Int} {x : Int} (h0 : 0 ≤ x) (h : x.toNat < (labI n f).length) : (labI n f)[x.toNat] = I (f x) := by
  simp only [labI, List.getElem_map, upto_get]
  rw [show ((x.toNat : Nat) : Int) = x by omega]
theorem labI_congr {n : Nat} {f g : Int → Int} (h : ∀ x : Int, 0 ≤ x → x < n → f x = g x) : labI n f = labI n g := by
  apply List.map_congr_left
  intro x hx
  rw [h x (mem_upto.1 hx).1 (mem_upto.1 hx).2]
theorem labI_set {n : Nat} {f : Int → Int} {w x : Int} (h0 : 0 ≤ w) : (labI n f).set w.toNat (I x) = labI n (fun y => if y = w then x else f y) := by
  refine List.ext_getElem? fun i => ?_
  rw [List.getElem?_set, labI_length]
  simp only [labI, List.getElem?_map]
  by_cases hi : i < n
  · have hu : (upto n)[i]? = some (i : Int) := by rw [List.getElem?_eq_getElem (by simpa using hi), upto_get]
    rw [hu]
    simp only [Option.map_some]
    by_cases e : w.toNat = i
    · rw [if_pos e, if_pos (by omega), if_pos (by omega)]
    · rw [if_neg e, if_neg (by omega)]
  · have hu : (upto n)[i]? = none := List.getElem?_eq_none (by simpa using hi)
    rw [hu]
    by_cases e : w.toNat = i
    · rw [if_pos e, if_neg (by omega)]; rfl
    · rw [if_neg e]; rfl

/-- The search's two arrays. -/
def bh (H : Heap) (r b n : Nat) (f : Int → Int) (cells : List AV) (top : Nat) : Heap := upd (upd H r (some (.arr 1 3 (labI n f) n))) b (some (.arr 1 3 cells top))
section
variable {H : Heap} {r b n top : Nat} {f : Int → Int} {cells : List AV}
theorem bh_b : bh H r b n f cells top b = some (.arr 1 3 cells top) := by simp [bh]
theorem bh_r (h : r ≠ b) : bh H r b n f cells top r = some (.arr 1 3 (labI n f) n) := by simp [bh, h]
theorem bh_set (h : r ≠ b) {w x : Int} (h0 : 0 ≤ w) : upd (bh H r b n f cells top) r (some (.arr 1 3 ((labI n f).set w.toNat (I x)) n)) = bh H r b n (fun y => if y = w then x else f y) cells top := by
  unfold bh
  rw [upd_comm _ _ _ (fun e => h e.symm), upd_upd, labI_set h0]
theorem bh_app {cells' : List AV} {top' : Nat} : upd (bh H r b n f cells top) b (some (.arr 1 3 cells' top')) = bh H r b n f cells' top' := by simp [bh]
theorem bh_new {b' : Nat} (hb : H b = none) (h : r ≠ b) {cells' : List AV} {top' : Nat} : upd (upd (bh H r b n f cells top) b none) b' (some (.arr 1 3 cells' top')) = bh H r b' n f cells' top' := by
  unfold bh
  rw [upd_upd]
  congr 1
  exact upd_none_self (by rw [upd_ne _ _ _ (fun e => h e.symm)]; exact hb)
theorem bh_none {b' : Nat} (h : bh H r b n f cells top b' = none) : b' ≠ b ∧ b' ≠ r ∧ H b' = none := by
  unfold bh at h
  by_cases e1 : b' = b
  · subst e1; simp [upd_same] at h
  · rw [upd_ne _ _ _ e1] at h
    by_cases e2 : b' = r
    · subst e2; simp [upd_same] at h
    · rw [upd_ne _ _ _ e2] at h; exact ⟨e1, e2, h⟩
end

theorem filter_parts {α : Type} (p : α → Bool) (l : List α) : (l.filter p).length + (l.filter fun x => !p x).length = l.length := by
  induction l with
  | nil => rfl
  | cons x l ih => rw [List.filter_cons, List.filter_cons]; cases p x <;> simp <;> omega
theorem unfound_start {n : Nat} {l : List Int} (hl : Pts n l) : unfound n (fun x => if x ∈ l then 0 else -1) + l.length = n := by
  have h := filter_parts (fun x => decide (x ∈ l)) (upto n)
  have h1 : (upto n).filter (fun x => decide (x ∈ l)) = l := up_ext ((up_upto n).filter _) hl.set.up fun x => by
    rw [List.mem_filter, mem_upto]
    exact ⟨fun h => by simpa using h.2, fun h => ⟨hl.lt x h, by simpa using h⟩⟩
  have h2 : (upto n).filter (fun x => decide ((if x ∈ l then (0 : Int) else -1) = -1)) = (upto n).filter (fun x => !decide (x ∈ l)) := by
    apply List.filter_congr
    intro x _
    by_cases hx : x ∈ l <;> simp [hx]
  rw [h1, upto_length] at h
  unfold unfound
  rw [h2]
  omega

theorem far_new {adj : List (List Int)} {l : List Int} (hg : Gr adj) (hl : Pts adj.length l) : RetNew Try.prog w0 81 [rows adj, ints l] 1 3 (labI adj.length (distL adj l)) adj.length := by
  intro H
  have hlen := hg.len
  have hll := hl.length
  have hrep : ((List.replicate adj.length (-1 : Int)).map I) = labI adj.length (fun x => if x ∈ l.take 0 then 0 else -1) := by
    simp only [labI, List.take_zero, List.not_mem_nil, if_false, List.map_const', List.map_replicate, upto_length]
  refine w_enter Try.func81 rfl Try.ntmps81 (ts := [4]) rfl (by simp) (by kernel_rfl) ?_
  repeat' (first
    | (with_reducible refine awp_skip ?_)
    | (with_reducible refine then_any ?_)
    | (with_reducible refine then_ret ?_)
    | (with_reducible refine then_exit ?_)
    | (with_reducible refine inBlock_normal ?_)
    | (with_reducible refine inBlock_ret ?_)
    | (with_reducible refine inBlock_hit ?_)
    | (with_reducible refine inBlock_miss (by decide) ?_)
    | (with_reducible refine awp_ret ?_)
    | (with_reducible refine awp_exit ?_)
    | (with_reducible refine post_ret ?_)
    | (with_reducible refine post_normal ?_)
    | (with_reducible refine awp_block ?_)
    | (with_reducible refine v_reg [] (fun K hK => ?_))
    | (with_reducible refine v_reg1 [] (fun K hK => ?_))
    | (with_reducible refine v_draw mixed [] [] (by kernel_rfl) (fun K hK => ?_))
    | (with_reducible refine v_draw1 mixed [] [] (by kernel_rfl) (fun K hK => ?_))
    | (with_reducible refine ev_nil (hK _ _ ?_); clear hK K)
    | (with_reducible refine ed_nil (hK _ _ ?_); clear hK K)
    | ((first | with_reducible refine ev_cons (fun K' hK' => ?_) | with_reducible refine ed_cons (fun K' hK' => ?_) | (with_reducible refine ev_id ?_; refine ev_guard rfl (fun K' hK' => ?_)) | (with_reducible refine ed_id ?_; refine ed_guard rfl (fun K' hK' => ?_))); simp [rows, ints]; repeat' (first | (with_reducible refine hK' _ _ ?_; clear hK' K') | ((with_reducible refine RetNew.use (repeat_new (x := -1) (n := adj.length) (by omega)) (fun r hr => ?_); simp only [hrep]); try simp [rows, ints]) | (with_reducible refine And.intro ?_ ?_) | (with_reducible intro hg) | (clear hK' K'; omega)))
    | (with_reducible refine w_cond (fun A B hA hB => ?_); simp [rows, ints]; repeat' (first | (with_reducible refine hA ?_; clear hA hB A B) | (with_reducible refine hB ?_; clear hA hB A B) | (with_reducible refine And.intro ?_ ?_) | (with_reducible intro hc)))
    | (with_reducible refine awp_seq ?_))
  refine awp_loop (fun env h => ∃ i : Nat, i ≤ l.length ∧ env 18 = I i ∧ env 17 = I l.length ∧ env 16 = ints l ∧ env 0 = rows adj ∧ env 1 = ints l ∧ env 5 = .ref r 0 adj.length adj.length ∧ h = upd H r (some (.arr 1 3 (labI adj.length (fun x => if x ∈ l.take i then 0 else -1)) adj.length))) (fun env _ => l.length - natA (env 18)) ?_ ?_
  · exact ⟨0, by omega, by simp, by simp, by simp [ints], by simp [rows], by simp [ints], by simp, by simp⟩
  rintro env h ⟨i, hi, h18, h17, h16, h0, h1, h5, rfl⟩
  have hnat : natA (env 18) = i := by simp [h18]
  rw [hnat]; clear hnat
  by_cases hlt : i < l.length
  · have hx := hl.lt l[i] (List.getElem_mem _)
    have hset := labI_set (n := adj.length) (f := fun x => if x ∈ l.take i then 0 else -1) (x := 0) hx.1
    have hf : (fun y => if y = l[i] then (0 : Int) else if y ∈ l.take i then 0 else -1) = fun x => if x ∈ l.take (i + 1) then 0 else -1 := by
      funext y
      rw [List.take_succ_eq_append_getElem hlt]
      simp only [List.mem_append, List.mem_singleton]
      by_cases h1 : y = l[i] <;> by_cases h2 : y ∈ l.take i <;> simp [h1, h2]
    rw [hf] at hset
    have hx2 : l[i].toNat < adj.length := by omega
    have hlab := labI_length adj.length (fun x => if x ∈ l.take i then 0 else -1)
    generalize labI adj.length (fun x => if x ∈ l.take i then 0 else -1) = cells at *
    repeat' (first
      | (with_reducible refine awp_skip ?_)
      | (with_reducible refine then_any ?_)
      | (with_reducible refine then_ret ?_)
      | (with_reducible refine then_exit ?_)
      | (with_reducible refine inBlock_normal ?_)
      | (with_reducible refine inBlock_ret ?_)
      | (with_reducible refine inBlock_hit ?_)
      | (with_reducible refine inBlock_miss (by decide) ?_)
      | (with_reducible refine awp_ret ?_)
      | (with_reducible refine awp_exit ?_)
      | (with_reducible refine post_ret ?_)
      | (with_reducible refine post_normal ?_)
      | (with_reducible refine awp_block ?_)
      | (with_reducible refine v_reg [] (fun K hK => ?_))
      | (with_reducible refine v_reg1 [] (fun K hK => ?_))
      | (with_reducible refine v_draw mixed [] [] (by kernel_rfl) (fun K hK => ?_))
      | (with_reducible refine v_draw1 mixed [] [] (by kernel_rfl) (fun K hK => ?_))
      | (with_reducible refine ev_nil (hK _ _ ?_); clear hK K)
      | (with_reducible refine ed_nil (hK _ _ ?_); clear hK K)
      | ((first | with_reducible refine ev_cons (fun K' hK' => ?_) | with_reducible refine ed_cons (fun K' hK' => ?_) | (with_reducible refine ev_id ?_; refine ev_guard rfl (fun K' hK' => ?_)) | (with_reducible refine ed_id ?_; refine ed_guard rfl (fun K' hK' => ?_))); simp [h18, h17, h16, h0, h1, h5, ints, rows, hlt, hx.1, hx2, hlab]; repeat' (first | (with_reducible refine hK' _ _ ?_; clear hK' K') | (with_reducible refine And.intro ?_ ?_) | (with_reducible intro hg) | (clear hK' K'; omega)))
      | (with_reducible refine w_cond (fun A B hA hB => ?_); simp [h18, h17, h16, h0, h1, h5, ints, rows, hlt, hx.1, hx2, hlab]; repeat' (first | (with_reducible refine hA ?_; clear hA hB A B) | (with_reducible refine hB ?_; clear hA hB A B) | (with_reducible refine And.intro ?_ ?_) | (with_reducible intro hc)))
      | (with_reducible refine awp_seq ?_))
    exact ⟨⟨i + 1, by omega, by simp, by simp [h17], by simp [h16], by simp [h0], by simp [h1], by simp [h5], by rw [← hset]⟩, by simp; omega⟩
  · have : i = l.length := by omega
    subst this
    rw [List.take_length]
    have hB := BInv.start hl
    have hn0 : l = [] → labI adj.length (fun x => if x ∈ l then 0 else -1) = labI adj.length (distL adj l) := by
      intro e
      subst e
      exact labI_congr fun x h0 h1 => hB.fin hg hl h0 h1
    repeat' (first
      | (with_reducible refine awp_skip ?_)
      | (with_reducible refine then_any ?_)
      | (with_reducible refine then_ret ?_)
      | (with_reducible refine then_exit ?_)
      | (with_reducible refine inBlock_normal ?_)
      | (with_reducible refine inBlock_ret ?_)
      | (with_reducible refine inBlock_hit ?_)
      | (with_reducible refine inBlock_miss (by decide) ?_)
      | (with_reducible refine awp_ret ?_)
      | (with_reducible refine awp_exit ?_)
      | (with_reducible refine post_ret ?_)
      | (with_reducible refine post_normal ?_)
      | (with_reducible refine awp_block ?_)
      | (with_reducible refine v_reg [] (fun K hK => ?_))
      | (with_reducible refine v_reg1 [] (fun K hK => ?_))
      | (with_reducible refine v_draw mixed [] [] (by kernel_rfl) (fun K hK => ?_))
      | (with_reducible refine v_draw1 mixed [] [] (by kernel_rfl) (fun K hK => ?_))
      | (with_reducible refine ev_nil (hK _ _ ?_); clear hK K)
      | (with_reducible refine ed_nil (hK _ _ ?_); clear hK K)
      | ((first | with_reducible refine ev_cons (fun K' hK' => ?_) | with_reducible refine ed_cons (fun K' hK' => ?_) | (with_reducible refine ev_id ?_; refine ev_guard rfl (fun K' hK' => ?_)) | (with_reducible refine ed_id ?_; refine ed_guard rfl (fun K' hK' => ?_))); simp [h18, h17, h16, h0, h1, h5, ints, rows]; repeat' (first | (with_reducible refine hK' _ _ ?_; clear hK' K') | ((with_reducible refine clone_use (l := l) (by omega) (fun hnil => ?_) (fun q hq => ?_)); try simp [h18, h17, h16, h0, h1, h5, ints, rows]) | (with_reducible refine And.intro ?_ ?_) | (with_reducible intro hg) | (clear hK' K'; omega)))
      | (with_reducible refine w_cond (fun A B hA hB => ?_); simp [h18, h17, h16, h0, h1, h5, ints, rows]; repeat' (first | (with_reducible refine hA ?_; clear hA hB A B) | (with_reducible refine hB ?_; clear hA hB A B) | (with_reducible refine And.intro ?_ ?_) | (with_reducible intro hc)))
      | (with_reducible refine awp_seq ?_))
    · -- nothing to begin with
      have hl0 := hn0 hnil
      refine awp_loop (fun env h => env 8 = .sl [] 0 ∧ env 5 = .ref r 0 adj.length adj.length ∧ h = upd H r (some (.arr 1 3 (labI adj.length (distL adj l)) adj.length))) (fun _ _ => 0) ?_ ?_
      · exact ⟨by simp, by simp [h5], by rw [hl0]⟩
      rintro env h ⟨h8, h5, rfl⟩
      repeat' (first
        | (with_reducible refine awp_skip ?_)
        | (with_reducible refine then_any ?_)
        | (with_reducible refine then_ret ?_)
        | (with_reducible refine then_exit ?_)
        | (with_reducible refine inBlock_normal ?_)
        | (with_reducible refine inBlock_ret ?_)
        | (with_reducible refine inBlock_hit ?_)
        | (with_reducible refine inBlock_miss (by decide) ?_)
        | (with_reducible refine awp_ret ?_)
        | (with_reducible refine awp_exit ?_)
        | (with_reducible refine post_ret ?_)
        | (with_reducible refine post_normal ?_)
        | (with_reducible refine awp_block ?_)
        | (with_reducible refine v_reg [] (fun K hK => ?_))
        | (with_reducible refine v_reg1 [] (fun K hK => ?_))
        | (with_reducible refine v_draw mixed [] [] (by kernel_rfl) (fun K hK => ?_))
        | (with_reducible refine v_draw1 mixed [] [] (by kernel_rfl) (fun K hK => ?_))
        | (with_reducible refine ev_nil (hK _ _ ?_); clear hK K)
        | (with_reducible refine ed_nil (hK _ _ ?_); clear hK K)
        | ((first | with_reducible refine ev_cons (fun K' hK' => ?_) | with_reducible refine ed_cons (fun K' hK' => ?_) | (with_reducible refine ev_id ?_; refine ev_guard rfl (fun K' hK' => ?_)) | (with_reducible refine ed_id ?_; refine ed_guard rfl (fun K' hK' => ?_))); simp [h8, h5]; repeat' (first | (with_reducible refine hK' _ _ ?_; clear hK' K') | (with_reducible refine And.intro ?_ ?_) | (with_reducible intro hg) | (clear hK' K'; omega)))
        | (with_reducible refine w_cond (fun A B hA hB => ?_); simp [h8, h5]; repeat' (first | (with_reducible refine hA ?_; clear hA hB A B) | (with_reducible refine hB ?_; clear hA hB A B) | (with_reducible refine And.intro ?_ ?_) | (with_reducible intro hc)))
        | (with_reducible refine awp_seq ?_))
      exact ⟨r, hr, by simp, by simp⟩
    · have hqr : q ≠ r := by rintro rfl; simp at hq
      have hrq : r ≠ q := fun e => hqr e.symm
      have hq0 : H q = none := by rw [upd_ne _ _ _ hqr] at hq; exact hq
      clear hq
      refine awp_loop_g (fun N env h => ∃ (f : Int → Int) (qu : List Int) (b off : Nat) (cells : List AV), BInv adj l f qu ∧ N = unfound adj.length f + qu.length ∧ N ≤ adj.length ∧ (∀ x, f x + N ≤ adj.length) ∧ env 0 = rows adj ∧ env 5 = .ref r 0 adj.length adj.length ∧
          b ≠ r ∧ H b = none ∧ env 8 = .ref b off qu.length (off + qu.length) ∧ cells.length = off + qu.length ∧ cells.drop off = qu.map I ∧ h = bh H r b adj.length f cells (off + qu.length)) ?_ ?_
      · exact ⟨_, _, l, q, 0, l.map I, hB, rfl, by rw [unfound_start hl]; omega, fun x => by have := unfound_start hl; split <;> omega, by simp [h0], by simp [h5], hqr, hq0, by simp, by simp, by simp, by simp [bh]⟩
      clear h18 h17 h16 h0 h1 h5 hB hqr hrq hq0
      rintro N env h ⟨f, qu, b, off, cells, hB, hN, hNn, hfN, h0, h5, hbr, hb0, h8, hcl, hcd, rfl⟩
      have hrb : r ≠ b := fun e => hbr e.symm
      cases qu with
      | nil =>
        have hfin : labI adj.length f = labI adj.length (distL adj l) := labI_congr fun x h0 h1 => hB.fin hg hl h0 h1
        simp only [List.length_nil, Nat.add_zero] at *
        repeat' (first
          | (with_reducible refine awp_skip ?_)
          | (with_reducible refine then_any ?_)
          | (with_reducible refine then_ret ?_)
          | (with_reducible refine then_exit ?_)
          | (with_reducible refine inBlock_normal ?_)
          | (with_reducible refine inBlock_ret ?_)
          | (with_reducible refine inBlock_hit ?_)
          | (with_reducible refine inBlock_miss (by decide) ?_)
          | (with_reducible refine awp_ret ?_)
          | (with_reducible refine awp_exit ?_)
          | (with_reducible refine post_ret ?_)
          | (with_reducible refine post_normal ?_)
          | (with_reducible refine awp_block ?_)
          | (with_reducible refine v_reg [] (fun K hK => ?_))
          | (with_reducible refine v_reg1 [] (fun K hK => ?_))
          | (with_reducible refine v_draw mixed [] [] (by kernel_rfl) (fun K hK => ?_))
          | (with_reducible refine v_draw1 mixed [] [] (by kernel_rfl) (fun K hK => ?_))
          | (with_reducible refine ev_nil (hK _ _ ?_); clear hK K)
          | (with_reducible refine ed_nil (hK _ _ ?_); clear hK K)
          | ((first | with_reducible refine ev_cons (fun K' hK' => ?_) | with_reducible refine ed_cons (fun K' hK' => ?_) | (with_reducible refine ev_id ?_; refine ev_guard rfl (fun K' hK' => ?_)) | (with_reducible refine ed_id ?_; refine ed_guard rfl (fun K' hK' => ?_))); simp [h0, h5, h8, rows]; repeat' (first | (with_reducible refine hK' _ _ ?_; clear hK' K') | (with_reducible refine And.intro ?_ ?_) | (with_reducible intro hg) | (clear hK' K'; omega)))
          | (with_reducible refine w_cond (fun A B hA hB => ?_); simp [h0, h5, h8, rows]; repeat' (first | (with_reducible refine hA ?_; clear hA hB A B) | (with_reducible refine hB ?_; clear hA hB A B) | (with_reducible refine And.intro ?_ ?_) | (with_reducible intro hc)))
          | (with_reducible refine awp_seq ?_))
        refine ⟨r, hr, by simp, ?_⟩
        unfold bh
        rw [hfin]
        exact sub_new (by rw [upd_ne _ _ _ hbr]; exact hb0)
      | cons v qu =>
        have hM := hB.pop
        have hv := hM.vv
        have hvn : v.toNat < adj.length := by omega
        have hout : ∀ h, adj[v.toNat]'h = out adj v := fun h => (out_eq h).symm
        have hop := out_pts hg v
        have hol := hop.length
        have hc0 : cells[off]? = some (I v) := by
          have := congrArg (·[0]?) hcd
          simpa [List.getElem?_drop] using this
        have hlt : off < cells.length := by rw [hcl]; simp
        have hc0' : ∀ h, cells[off]'h = I v := fun h => by rw [List.getElem?_eq_getElem h] at hc0; simpa using hc0
        have hcd1 : cells.drop (off + 1) = qu.map I := by
          have := congrArg (List.drop 1) hcd
          simpa [List.drop_drop] using this
        clear hcd hc0 hB
        simp only [List.length_cons] at *
        repeat' (first
          | (with_reducible refine awp_skip ?_)
          | (with_reducible refine then_any ?_)
          | (with_reducible refine then_ret ?_)
          | (with_reducible refine then_exit ?_)
          | (with_reducible refine inBlock_normal ?_)
          | (with_reducible refine inBlock_ret ?_)
          | (with_reducible refine inBlock_hit ?_)
          | (with_reducible refine inBlock_miss (by decide) ?_)
          | (with_reducible refine awp_ret ?_)
          | (with_reducible refine awp_exit ?_)
          | (with_reducible refine post_ret ?_)
          | (with_reducible refine post_normal ?_)
          | (with_reducible refine awp_block ?_)
          | (with_reducible refine v_reg [] (fun K hK => ?_))
          | (with_reducible refine v_reg1 [] (fun K hK => ?_))
          | (with_reducible refine v_draw mixed [] [] (by kernel_rfl) (fun K hK => ?_))
          | (with_reducible refine v_draw1 mixed [] [] (by kernel_rfl) (fun K hK => ?_))
          | (with_reducible refine ev_nil (hK _ _ ?_); clear hK K)
          | (with_reducible refine ed_nil (hK _ _ ?_); clear hK K)
          | ((first | with_reducible refine ev_cons (fun K' hK' => ?_) | with_reducible refine ed_cons (fun K' hK' => ?_) | (with_reducible refine ev_id ?_; refine ev_guard rfl (fun K' hK' => ?_)) | (with_reducible refine ed_id ?_; refine ed_guard rfl (fun K' hK' => ?_))); simp [h0, h5, h8, rows, ints, bh_b, bh_r hrb, hlt, hc0', hvn, hout, hv.1]; repeat' (first | (with_reducible refine hK' _ _ ?_; clear hK' K') | (with_reducible refine And.intro ?_ ?_) | (with_reducible intro hg) | (clear hK' K'; omega)))
          | (with_reducible refine w_cond (fun A B hA hB => ?_); simp [h0, h5, h8, rows, ints, bh_b, bh_r hrb, hlt, hc0', hvn, hout, hv.1]; repeat' (first | (with_reducible refine hA ?_; clear hA hB A B) | (with_reducible refine hB ?_; clear hA hB A B) | (with_reducible refine And.intro ?_ ?_) | (with_reducible intro hc)))
          | (with_reducible refine awp_seq ?_))
        generalize hws : out adj v = ws at *
        refine awp_loop (fun env h => ∃ (j : Nat) (f' : Int → Int) (q' : List Int) (b' off' : Nat) (cells' : List AV), j ≤ ws.length ∧ BMid adj l v (ws.take j) f' q' ∧ unfound adj.length f' + q'.length = unfound adj.length f + qu.length ∧ f' v = f v ∧ (∀ x, f' x + N ≤ adj.length + 1) ∧
            env 41 = I j ∧ env 40 = I ws.length ∧ env 39 = ints ws ∧ env 9 = I v ∧ env 0 = rows adj ∧ env 5 = .ref r 0 adj.length adj.length ∧
            b' ≠ r ∧ H b' = none ∧ env 8 = .ref b' off' q'.length (off' + q'.length) ∧ cells'.length = off' + q'.length ∧ cells'.drop off' = q'.map I ∧ h = bh H r b' adj.length f' cells' (off' + q'.length)) (fun env _ => ws.length - natA (env 41)) ?_ ?_
        · have e : off + (qu.length + 1) = off + 1 + qu.length := by omega
          exact ⟨0, f, qu, b, off + 1, cells, by omega, by simpa using hM, rfl, rfl, fun x => by have := hfN x; omega, by simp, by simp, by simp [ints], by simp, by simp [h0], by simp [h5], hbr, hb0, by simp [e], by omega, hcd1, by rw [e]⟩
        clear h0 h5 h8 hM hc0' hcl hcd1 hlt hbr hb0 hrb cells off b
        rintro env h ⟨j, f', q', b, off, cells, hj, hM, hsum, hfv, hfb, h41, h40, h39, h9, h0, h5, hbr, hb0, h8, hcl, hcd, rfl⟩
        have hrb : r ≠ b := fun e => hbr e.symm
        have hnat : natA (env 41) = j := by simp [h41]
        rw [hnat]; clear hnat
        by_cases hjl : j < ws.length
        · have hw := hop.lt ws[j] (List.getElem_mem _)
          have hwm : ws[j] ∈ out adj v := by rw [hws]; exact List.getElem_mem _
          have hwn : ws[j].toNat < adj.length := by omega
          have hlab := labI_length adj.length f'
          have hlw : ∀ h : ws[j].toNat < (labI adj.length f').length, (labI adj.length f')[ws[j].toNat]'h = I (f' ws[j]) := fun h => labI_at hw.1 h
          have hlv : ∀ h, (labI adj.length f')[v.toNat]'h = I (f' v) := fun h => labI_at hv.1 h
          have hts : ws.take (j + 1) = ws.take j ++ [ws[j]] := List.take_succ_eq_append_getElem hjl
          by_cases hfw : f' ws[j] = -1
          · have hM2 := hM.new hg hl hwm hfw
            have hun := unfound_new (y := f' v + 1) hw hfw (by have := hM.vis v hv.1 hv.2.1 hM.vv.2.2; omega)
            have hfv2 : 0 ≤ f' v ∧ f' v + N ≤ adj.length := by
              have := hM.vis v hv.1 hv.2.1 hM.vv.2.2
              have := hfN v
              omega
            have hset := bh_set (H := H) (b := b) (n := adj.length) (top := off + q'.length) (f := f') (cells := cells) hrb (x := f' v + 1) hw.1
            have hql : q'.length ≤ 4096 := by omega
            have hvw : v ≠ ws[j] := fun e => by rw [← e] at hfw; have := hM.vv.2.2; exact this hfw
            by_cases hoff : off = 0
            · subst hoff
              simp only [Nat.zero_add, List.drop_zero] at *
              repeat' (first
                | (with_reducible refine awp_skip ?_)
                | (with_reducible refine then_any ?_)
                | (with_reducible refine then_ret ?_)
                | (with_reducible refine then_exit ?_)
                | (with_reducible refine inBlock_normal ?_)
                | (with_reducible refine inBlock_ret ?_)
                | (with_reducible refine inBlock_hit ?_)
                | (with_reducible refine inBlock_miss (by decide) ?_)
                | (with_reducible refine awp_ret ?_)
                | (with_reducible refine awp_exit ?_)
                | (with_reducible refine post_ret ?_)
                | (with_reducible refine post_normal ?_)
                | (with_reducible refine awp_block ?_)
                | (with_reducible refine v_reg [] (fun K hK => ?_))
                | (with_reducible refine v_reg1 [] (fun K hK => ?_))
                | (with_reducible refine v_draw mixed [] [] (by kernel_rfl) (fun K hK => ?_))
                | (with_reducible refine v_draw1 mixed [] [] (by kernel_rfl) (fun K hK => ?_))
                | (with_reducible refine ev_nil (hK _ _ ?_); clear hK K)
                | (with_reducible refine ed_nil (hK _ _ ?_); clear hK K)
                | ((first | with_reducible refine ev_cons (fun K' hK' => ?_) | with_reducible refine ed_cons (fun K' hK' => ?_) | (with_reducible refine ev_id ?_; refine ev_guard rfl (fun K' hK' => ?_)) | (with_reducible refine ed_id ?_; refine ed_guard rfl (fun K' hK' => ?_))); simp [h41, h40, h39, h9, h0, h5, h8, ints, rows, hjl, bh_b, bh_r hrb, hwn, hvn, hlab, hlw, hlv, hfw, hw.1, hv.1, hset, bh_app]; repeat' (first | (with_reducible refine hK' _ _ ?_; clear hK' K') | (with_reducible refine And.intro ?_ ?_) | (with_reducible intro hg) | (clear hK' K'; omega)))
                | (with_reducible refine w_cond (fun A B hA hB => ?_); simp [h41, h40, h39, h9, h0, h5, h8, ints, rows, hjl, bh_b, bh_r hrb, hwn, hvn, hlab, hlw, hlv, hfw, hw.1, hv.1, hset, bh_app]; repeat' (first | (with_reducible refine hA ?_; clear hA hB A B) | (with_reducible refine hB ?_; clear hA hB A B) | (with_reducible refine And.intro ?_ ?_) | (with_reducible intro hc)))
                | (with_reducible refine awp_seq ?_))
              exact ⟨⟨j + 1, _, q' ++ [ws[j]], b, 0, cells ++ [I ws[j]], by omega, by rw [hts]; exact hM2, by simp only [List.length_append, List.length_singleton]; omega, by rw [if_neg hvw]; exact hfv,
                fun x => by have := hfb x; split <;> omega, by simp, by simp [h40], by simp [h39], by simp [h9], by simp [h0], by simp [h5], hbr, hb0, by simp, by simp [hcl], by simp [hcd], by simp⟩, by simp; omega⟩
            · repeat' (first
                | (with_reducible refine awp_skip ?_)
                | (with_reducible refine then_any ?_)
                | (with_reducible refine then_ret ?_)
                | (with_reducible refine then_exit ?_)
                | (with_reducible refine inBlock_normal ?_)
                | (with_reducible refine inBlock_ret ?_)
                | (with_reducible refine inBlock_hit ?_)
                | (with_reducible refine inBlock_miss (by decide) ?_)
                | (with_reducible refine awp_ret ?_)
                | (with_reducible refine awp_exit ?_)
                | (with_reducible refine post_ret ?_)
                | (with_reducible refine post_normal ?_)
                | (with_reducible refine awp_block ?_)
                | (with_reducible refine v_reg [] (fun K hK => ?_))
                | (with_reducible refine v_reg1 [] (fun K hK => ?_))
                | (with_reducible refine v_draw mixed [] [] (by kernel_rfl) (fun K hK => ?_))
                | (with_reducible refine v_draw1 mixed [] [] (by kernel_rfl) (fun K hK => ?_))
                | (with_reducible refine ev_nil (hK _ _ ?_); clear hK K)
                | (with_reducible refine ed_nil (hK _ _ ?_); clear hK K)
                | ((first | with_reducible refine ev_cons (fun K' hK' => ?_) | with_reducible refine ed_cons (fun K' hK' => ?_) | (with_reducible refine ev_id ?_; refine ev_guard rfl (fun K' hK' => ?_)) | (with_reducible refine ed_id ?_; refine ed_guard rfl (fun K' hK' => ?_))); simp [h41, h40, h39, h9, h0, h5, h8, ints, rows, hjl, bh_b, bh_r hrb, hwn, hvn, hlab, hlw, hlv, hfw, hw.1, hv.1, hset, hoff]; repeat' (first | (with_reducible refine hK' _ _ ?_; clear hK' K') | (with_reducible refine And.intro ?_ ?_) | (with_reducible intro hg) | (clear hK' K'; omega)))
                | (with_reducible refine w_cond (fun A B hA hB => ?_); simp [h41, h40, h39, h9, h0, h5, h8, ints, rows, hjl, bh_b, bh_r hrb, hwn, hvn, hlab, hlw, hlv, hfw, hw.1, hv.1, hset, hoff]; repeat' (first | (with_reducible refine hA ?_; clear hA hB A B) | (with_reducible refine hB ?_; clear hA hB A B) | (with_reducible refine And.intro ?_ ?_) | (with_reducible intro hc)))
                | (with_reducible refine awp_seq ?_))
              rename_i r2
              obtain ⟨n1, n2, n3⟩ := bh_none hg
              exact ⟨⟨j + 1, _, q' ++ [ws[j]], r2, 0, q'.map I ++ [I ws[j]], by omega, by rw [hts]; exact hM2, by simp only [List.length_append, List.length_singleton]; omega, by rw [if_neg hvw]; exact hfv,
                fun x => by have := hfb x; split <;> omega, by simp, by simp [h40], by simp [h39], by simp [h9], by simp [h0], by simp [h5], n2, n3, by simp, by simp, by simp, by simp [bh_new hb0 hrb, hcd]⟩, by simp; omega⟩
          · repeat' (first
              | (with_reducible refine awp_skip ?_)
              | (with_reducible refine then_any ?_)
              | (with_reducible refine then_ret ?_)
              | (with_reducible refine then_exit ?_)
              | (with_reducible refine inBlock_normal ?_)
              | (with_reducible refine inBlock_ret ?_)
              | (with_reducible refine inBlock_hit ?_)
              | (with_reducible refine inBlock_miss (by decide) ?_)
              | (with_reducible refine awp_ret ?_)
              | (with_reducible refine awp_exit ?_)
              | (with_reducible refine post_ret ?_)
              | (with_reducible refine post_normal ?_)
              | (with_reducible refine awp_block ?_)
              | (with_reducible refine v_reg [] (fun K hK => ?_))
              | (with_reducible refine v_reg1 [] (fun K hK => ?_))
              | (with_reducible refine v_draw mixed [] [] (by kernel_rfl) (fun K hK => ?_))
              | (with_reducible refine v_draw1 mixed [] [] (by kernel_rfl) (fun K hK => ?_))
              | (with_reducible refine ev_nil (hK _ _ ?_); clear hK K)
              | (with_reducible refine ed_nil (hK _ _ ?_); clear hK K)
              | ((first | with_reducible refine ev_cons (fun K' hK' => ?_) | with_reducible refine ed_cons (fun K' hK' => ?_) | (with_reducible refine ev_id ?_; refine ev_guard rfl (fun K' hK' => ?_)) | (with_reducible refine ed_id ?_; refine ed_guard rfl (fun K' hK' => ?_))); simp [h41, h40, h39, h9, h0, h5, h8, ints, rows, hjl, bh_b, bh_r hrb, hwn, hlab, hlw, hfw, hw.1]; repeat' (first | (with_reducible refine hK' _ _ ?_; clear hK' K') | (with_reducible refine And.intro ?_ ?_) | (with_reducible intro hg) | (clear hK' K'; omega)))
              | (with_reducible refine w_cond (fun A B hA hB => ?_); simp [h41, h40, h39, h9, h0, h5, h8, ints, rows, hjl, bh_b, bh_r hrb, hwn, hlab, hlw, hfw, hw.1]; repeat' (first | (with_reducible refine hA ?_; clear hA hB A B) | (with_reducible refine hB ?_; clear hA hB A B) | (with_reducible refine And.intro ?_ ?_) | (with_reducible intro hc)))
              | (with_reducible refine awp_seq ?_))
            exact ⟨⟨j + 1, f', q', b, off, cells, by omega, by rw [hts]; exact hM.old hw hfw, hsum, hfv, hfb, by simp, by simp [h40], by simp [h39], by simp [h9], by simp [h0], by simp [h5], hbr, hb0, by simp [h8], hcl, hcd, rfl⟩, by simp; omega⟩
        · have : j = ws.length := by omega
          subst this
          rw [List.take_length] at hM
          repeat' (first
            | (with_reducible refine awp_skip ?_)
            | (with_reducible refine then_any ?_)
            | (with_reducible refine then_ret ?_)
            | (with_reducible refine then_exit ?_)
            | (with_reducible refine inBlock_normal ?_)
            | (with_reducible refine inBlock_ret ?_)
            | (with_reducible refine inBlock_hit ?_)
            | (with_reducible refine inBlock_miss (by decide) ?_)
            | (with_reducible refine awp_ret ?_)
            | (with_reducible refine awp_exit ?_)
            | (with_reducible refine post_ret ?_)
            | (with_reducible refine post_normal ?_)
            | (with_reducible refine awp_block ?_)
            | (with_reducible refine v_reg [] (fun K hK => ?_))
            | (with_reducible refine v_reg1 [] (fun K hK => ?_))
            | (with_reducible refine v_draw mixed [] [] (by kernel_rfl) (fun K hK => ?_))
            | (with_reducible refine v_draw1 mixed [] [] (by kernel_rfl) (fun K hK => ?_))
            | (with_reducible refine ev_nil (hK _ _ ?_); clear hK K)
            | (with_reducible refine ed_nil (hK _ _ ?_); clear hK K)
            | ((first | with_reducible refine ev_cons (fun K' hK' => ?_) | with_reducible refine ed_cons (fun K' hK' => ?_) | (with_reducible refine ev_id ?_; refine ev_guard rfl (fun K' hK' => ?_)) | (with_reducible refine ed_id ?_; refine ed_guard rfl (fun K' hK' => ?_))); simp [h41, h40, h39]; repeat' (first | (with_reducible refine hK' _ _ ?_; clear hK' K') | (with_reducible refine And.intro ?_ ?_) | (with_reducible intro hg) | (clear hK' K'; omega)))
            | (with_reducible refine w_cond (fun A B hA hB => ?_); simp [h41, h40, h39]; repeat' (first | (with_reducible refine hA ?_; clear hA hB A B) | (with_reducible refine hB ?_; clear hA hB A B) | (with_reducible refine And.intro ?_ ?_) | (with_reducible intro hc)))
            | (with_reducible refine awp_seq ?_))
          exact ⟨unfound adj.length f' + q'.length, by omega, f', q', b, off, cells, (by rw [← hws] at hM; exact hM.end), rfl, by omega, fun x => by have := hfb x; omega, by simp [h0], by simp [h5], hbr, hb0, by simp [h8], hcl, hcd, rfl⟩
end Go.Am
