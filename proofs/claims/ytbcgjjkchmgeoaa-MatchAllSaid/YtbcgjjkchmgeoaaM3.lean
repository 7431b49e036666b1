/- Plain: digraphs: what one comes to step by step; how far each point is; a queue finds it. -/
import Derived.Test.YtbcgjjkchmgeoaaM2
import Derived.Test.YtbcgjjkchmgeoaaM1
namespace Go.Am
open Go
set_option linter.unusedVariables false
set_option linter.unusedSimpArgs false

/-- A set of points below n. -/
structure Pts (n : Nat) (l : List Int) : Prop where
  set : IsSet l
  lt : ∀ x ∈ l, 0 ≤ x ∧ x < n
/-- A digraph. -/
structure Gr (adj : List (List Int)) : Prop where
  len : adj.length ≤ 4096
  pts : ∀ l ∈ adj, Pts adj.length l

/-- Where arcs lead to. -/
def out (adj : List (List Int)) (x : Int) : List Int := adj.getD x.toNat []
theorem out_eq {adj : List (List Int)} {x : Int} (h : x.toNat < adj.length) : out adj x = adj[x.toNat] := by simp [out, h]
theorem out_pts {adj : List (List Int)} (h : Gr adj) (x : Int) : Pts adj.length (out adj x) := by
  unfold out
  by_cases hx : x.toNat < adj.length
  · rw [List.getD_eq_getElem?_getD, List.getElem?_eq_getElem hx]
    exact h.pts _ (List.getElem_mem _)
  · rw [List.getD_eq_getElem?_getD, List.getElem?_eq_none (by omega)]
    exact ⟨.nil, by simp⟩

theorem Pts.nil {n : Nat} : Pts n [] := ⟨.nil, by simp⟩
theorem Pts.length {n : Nat} {l : List Int} (h : Pts n l) : l.length ≤ n := up_length h.set.up h.lt
theorem Pts.union {n : Nat} {a b : List Int} (ha : Pts n a) (hb : Pts n b) : Pts n (unionR a b) :=
  ⟨(unionR_spec ha.set hb.set).1, fun x hx => by rcases ((unionR_spec ha.set hb.set).2 x).1 hx with h | h; (· exact ha.lt x h); (· exact hb.lt x h)⟩

/-- A set, and what an arc leads to from it. -/
def nearL (adj : List (List Int)) (l : List Int) : List Int := l.foldl (fun o x => unionR o (out adj x)) l

theorem near_fold {adj : List (List Int)} (hg : Gr adj) (l : List Int) : ∀ o, Pts adj.length o → Pts adj.length (l.foldl (fun o x => unionR o (out adj x)) o) ∧
    ∀ x, x ∈ l.foldl (fun o x => unionR o (out adj x)) o ↔ x ∈ o ∨ ∃ y ∈ l, x ∈ out adj y := by
  induction l with
  | nil => intro o h; exact ⟨h, by simp⟩
  | cons y l ih =>
    intro o h
    have hy := out_pts hg y
    obtain ⟨h1, h2⟩ := ih _ (h.union hy)
    refine ⟨h1, fun x => ?_⟩
    rw [List.foldl_cons, h2, (unionR_spec h.set hy.set).2]
    simp only [List.mem_cons, exists_eq_or_imp]
    exact or_assoc

theorem near_pts {adj : List (List Int)} (hg : Gr adj) {l : List Int} (h : Pts adj.length l) : Pts adj.length (nearL adj l) := (near_fold hg l l h).1
theorem mem_near {adj : List (List Int)} (hg : Gr adj) {l : List Int} (h : Pts adj.length l) {x : Int} : x ∈ nearL adj l ↔ x ∈ l ∨ ∃ y ∈ l, x ∈ out adj y := (near_fold hg l l h).2 x

def levL (adj : List (List Int)) (l : List Int) : Nat → List Int
  | 0 => l
  | k + 1 => nearL adj (levL adj l k)

section
variable {adj : List (List Int)} (hg : Gr adj) {l : List Int} (hl : Pts adj.length l)
include hg hl
theorem lev_pts (k : Nat) : Pts adj.length (levL adj l k) := by
  induction k with
  | zero => exact hl
  | succ k ih => exact near_pts hg ih
theorem mem_lev {k : Nat} {x : Int} : x ∈ levL adj l (k + 1) ↔ x ∈ levL adj l k ∨ ∃ y ∈ levL adj l k, x ∈ out adj y := mem_near hg (lev_pts hg hl k)
theorem lev_mono {j k : Nat} (h : j ≤ k) {x : Int} (hx : x ∈ levL adj l j) : x ∈ levL adj l k := by
  induction k with
  | zero => have : j = 0 := by omega
            subst this; exact hx
  | succ k ih =>
    by_cases e : j = k + 1
    · subst e; exact hx
    · exact (mem_lev hg hl).2 (.inl (ih (by omega)))
omit hg hl in
theorem lev_stop {k : Nat} (h : levL adj l (k + 1) = levL adj l k) (j : Nat) : levL adj l (k + j) = levL adj l k := by
  induction j with
  | zero => rfl
  | succ j ih =>
    show nearL adj (levL adj l (k + j)) = _
    rw [ih]; exact h
theorem lev_grow (k : Nat) : (∃ j, j < k ∧ levL adj l (j + 1) = levL adj l j) ∨ l.length + k ≤ (levL adj l k).length := by
  induction k with
  | zero => exact .inr (by simp [levL])
  | succ k ih =>
    rcases ih with ⟨j, hj, h⟩ | h
    · exact .inl ⟨j, by omega, h⟩
    · by_cases e : levL adj l (k + 1) = levL adj l k
      · exact .inl ⟨k, by omega, e⟩
      · refine .inr ?_
        have hp := lev_pts hg hl k
        have hp' := lev_pts hg hl (k + 1)
        have : ∃ x, x ∈ levL adj l (k + 1) ∧ x ∉ levL adj l k := by
          refine Classical.byContradiction fun hno => e (hp'.set.ext hp.set fun x => ⟨fun hx => Classical.byContradiction fun hx' => hno ⟨x, hx, hx'⟩, fun hx => lev_mono hg hl (by omega) hx⟩)
        obtain ⟨x, hx, hx'⟩ := this
        have h1 := filter_grow (p := fun x => decide (x ∈ levL adj l k)) (q := fun _ => true) (l := levL adj l (k + 1)) (x := x) (fun _ _ => rfl) hx (by simpa using hx') rfl
        have h2 : (levL adj l (k + 1)).filter (fun x => decide (x ∈ levL adj l k)) = levL adj l k :=
          (hp'.set.filter _).ext hp.set fun y => by
            rw [List.mem_filter]
            exact ⟨fun h => by simpa using h.2, fun h => ⟨lev_mono hg hl (by omega) h, by simpa using h⟩⟩
        rw [h2, List.filter_eq_self.2 (fun _ _ => rfl)] at h1
        omega
theorem lev_all {k : Nat} (hk : adj.length ≤ k) : levL adj l k = levL adj l adj.length := by
  by_cases hnil : l = []
  · subst hnil
    have : ∀ k, levL adj [] k = [] := by
      intro k
      induction k with
      | zero => rfl
      | succ k ih => show nearL adj (levL adj [] k) = []; rw [ih]; rfl
    rw [this, this]
  · have hpos := List.length_pos_iff.2 hnil
    have hlen := (lev_pts hg hl adj.length).length
    rcases lev_grow hg hl adj.length with ⟨j, hj, h⟩ | h
    · have h1 := lev_stop h (k - j)
      have h2 := lev_stop h (adj.length - j)
      rw [show j + (k - j) = k by omega] at h1
      rw [show j + (adj.length - j) = adj.length by omega] at h2
      rw [h1, h2]
    · omega
theorem lev_le {k : Nat} {x : Int} (h : x ∈ levL adj l k) : x ∈ levL adj l adj.length := by
  rcases Nat.le_total k adj.length with hk | hk
  · exact lev_mono hg hl hk h
  · rwa [lev_all hg hl hk] at h
end

/-- How far a point is away from some; -1: one does not come to it. -/
def distL (adj : List (List Int)) (l : List Int) (v : Int) : Int :=
  match (List.range (adj.length + 1)).find? fun k => decide (v ∈ levL adj l k) with
  | some k => k
  | none => -1

theorem find_range {p : Nat → Bool} {n : Nat} : (∃ k, k < n ∧ (List.range n).find? p = some k ∧ p k = true ∧ ∀ j, j < k → p j = false) ∨ ((List.range n).find? p = none ∧ ∀ j, j < n → p j = false) := by
  induction n with
  | zero => exact .inr ⟨rfl, by omega⟩
  | succ n ih =>
    rw [List.range_succ, List.find?_append]
    rcases ih with ⟨k, h1, h2, h3, h4⟩ | ⟨h1, h2⟩
    · exact .inl ⟨k, by omega, by rw [h2]; rfl, h3, h4⟩
    · rw [h1]
      cases hp : p n with
      | true => exact .inl ⟨n, by omega, by simp [hp], hp, h2⟩
      | false => exact .inr ⟨by simp [hp], fun j hj => by by_cases e : j = n; (· subst e; exact hp); (· exact h2 j (by omega))⟩

section
variable {adj : List (List Int)} (hg : Gr adj) {l : List Int} (hl : Pts adj.length l) {v : Int}
include hg hl
theorem dist_cases : (∃ d : Nat, d ≤ adj.length ∧ distL adj l v = d ∧ v ∈ levL adj l d ∧ ∀ j, j < d → v ∉ levL adj l j) ∨ (distL adj l v = -1 ∧ ∀ j, v ∉ levL adj l j) := by
  unfold distL
  rcases find_range (p := fun k => decide (v ∈ levL adj l k)) (n := adj.length + 1) with ⟨k, h1, h2, h3, h4⟩ | ⟨h1, h2⟩
  · rw [h2]
    exact .inl ⟨k, by omega, rfl, by simpa using h3, fun j hj => by simpa using h4 j hj⟩
  · rw [h1]
    refine .inr ⟨rfl, fun j hj => ?_⟩
    have := h2 adj.length (by omega)
    simp only [decide_eq_false_iff_not] at this
    exact this (lev_le hg hl hj)
theorem dist_le {k : Nat} (h : v ∈ levL adj l k) : 0 ≤ distL adj l v ∧ distL adj l v ≤ k := by
  rcases dist_cases hg hl (v := v) with ⟨d, h1, h2, h3, h4⟩ | ⟨h1, h2⟩
  · rw [h2]
    refine ⟨by omega, ?_⟩
    rcases Nat.lt_or_ge k d with hk | hk
    · exact absurd h (h4 k hk)
    · omega
  · exact absurd h (h2 k)
theorem dist_neg : distL adj l v = -1 ↔ v ∉ levL adj l adj.length := by
  rcases dist_cases hg hl (v := v) with ⟨d, h1, h2, h3, h4⟩ | ⟨h1, h2⟩
  · rw [h2]
    constructor
    · intro h; omega
    · intro h; exact absurd (lev_mono hg hl h1 h3) h
  · rw [h1]; simp [h2]

/-- Numbers that a search ends with are the distances. -/
theorem dist_of {f : Int → Int} (ha : ∀ x : Int, 0 ≤ x → x < adj.length → f x ≠ -1 → 0 ≤ f x ∧ x ∈ levL adj l (f x).toNat) (hb : ∀ x ∈ l, f x = 0)
    (hc : ∀ x : Int, 0 ≤ x → x < adj.length → f x ≠ -1 → ∀ y ∈ out adj x, f y ≠ -1 ∧ f y ≤ f x + 1) (h0 : 0 ≤ v) (h1 : v < adj.length) : f v = distL adj l v := by
  have key : ∀ k x, x ∈ levL adj l k → f x ≠ -1 ∧ f x ≤ k := by
    intro k
    induction k with
    | zero => intro x hx; have := hb x hx; omega
    | succ k ih =>
      intro x hx
      rcases (mem_lev hg hl).1 hx with hx | ⟨y, hy, hx⟩
      · have := ih x hx; omega
      · have hy' := ih y hy
        have hp := (lev_pts hg hl k).lt y hy
        have := hc y hp.1 hp.2 hy'.1 x hx
        omega
  rcases dist_cases hg hl (v := v) with ⟨d, h2, h3, h4, h5⟩ | ⟨h2, h3⟩
  · have hk := key d v h4
    obtain ⟨p, q⟩ := ha v h0 h1 hk.1
    have := dist_le hg hl q
    rw [h3] at this ⊢
    omega
  · rw [h2]
    refine Classical.byContradiction fun h => ?_
    exact h3 _ (ha v h0 h1 h).2
end

/-- The state of a search by a queue. -/
structure BInv (adj : List (List Int)) (l : List Int) (f : Int → Int) (q : List Int) : Prop where
  vis : ∀ x : Int, 0 ≤ x → x < adj.length → f x ≠ -1 → 0 ≤ f x ∧ x ∈ levL adj l (f x).toNat
  src : ∀ x ∈ l, f x = 0
  qv : ∀ x ∈ q, 0 ≤ x ∧ x < adj.length ∧ f x ≠ -1
  up : q.Pairwise fun x y => f x ≤ f y
  near : ∀ x ∈ q, ∀ y ∈ q, f y ≤ f x + 1
  done : ∀ x : Int, 0 ≤ x → x < adj.length → f x ≠ -1 → x ∉ q → (∀ y ∈ q, f x ≤ f y) ∧ ∀ w ∈ out adj x, f w ≠ -1 ∧ f w ≤ f x + 1

/-- The same while the arcs of v are gone through, ws of them so far. -/
structure BMid (adj : List (List Int)) (l : List Int) (v : Int) (ws : List Int) (f : Int → Int) (q : List Int) : Prop where
  vis : ∀ x : Int, 0 ≤ x → x < adj.length → f x ≠ -1 → 0 ≤ f x ∧ x ∈ levL adj l (f x).toNat
  src : ∀ x ∈ l, f x = 0
  qv : ∀ x ∈ q, 0 ≤ x ∧ x < adj.length ∧ f x ≠ -1
  up : q.Pairwise fun x y => f x ≤ f y
  vv : 0 ≤ v ∧ v < adj.length ∧ f v ≠ -1
  near : ∀ y ∈ q, f v ≤ f y ∧ f y ≤ f v + 1
  done : ∀ x : Int, 0 ≤ x → x < adj.length → f x ≠ -1 → x ∉ q → x ≠ v → f x ≤ f v ∧ ∀ w ∈ out adj x, f w ≠ -1 ∧ f w ≤ f x + 1
  ws : ∀ w ∈ ws, f w ≠ -1 ∧ f w ≤ f v + 1

theorem BInv.pop {adj : List (List Int)} {l : List Int} {f : Int → Int} {v : Int} {q : List Int} (h : BInv adj l f (v :: q)) : BMid adj l v [] f q := by
  refine ⟨h.vis, h.src, fun x hx => h.qv x (by simp [hx]), (List.pairwise_cons.1 h.up).2, h.qv v (by simp), fun y hy => ⟨(List.pairwise_cons.1 h.up).1 y hy, h.near v (by simp) y (by simp [hy])⟩, fun x h0 h1 h2 h3 h4 => ?_, by simp⟩
  have := h.done x h0 h1 h2 (by simp [h3, h4])
  exact ⟨this.1 v (by simp), this.2⟩

theorem BMid.end {adj : List (List Int)} {l : List Int} {f : Int → Int} {v : Int} {q : List Int} (h : BMid adj l v (out adj v) f q) : BInv adj l f q := by
  refine ⟨h.vis, h.src, h.qv, h.up, fun x hx y hy => by have := h.near x hx; have := h.near y hy; omega, fun x h0 h1 h2 h3 => ?_⟩
  by_cases e : x = v
  · subst e
    exact ⟨fun y hy => (h.near y hy).1, h.ws⟩
  · have := h.done x h0 h1 h2 h3 e
    exact ⟨fun y hy => by have := h.near y hy; omega, this.2⟩

theorem BMid.old {adj : List (List Int)} {l : List Int} {f : Int → Int} {v w : Int} {ws q : List Int} (h : BMid adj l v ws f q) (hw : 0 ≤ w ∧ w < adj.length) (hf : f w ≠ -1) : BMid adj l v (ws ++ [w]) f q := by
  refine ⟨h.vis, h.src, h.qv, h.up, h.vv, h.near, h.done, fun x hx => ?_⟩
  rcases List.mem_append.1 hx with hx | hx
  · exact h.ws x hx
  · simp at hx; subst hx
    refine ⟨hf, ?_⟩
    by_cases hq : x ∈ q
    · exact (h.near x hq).2
    · by_cases e : x = v
      · subst e; omega
      · have := (h.done x hw.1 hw.2 hf hq e).1; omega

theorem BMid.new {adj : List (List Int)} (hg : Gr adj) {l : List Int} (hl : Pts adj.length l) {f : Int → Int} {v w : Int} {ws q : List Int} (h : BMid adj l v ws f q) (hw : w ∈ out adj v) (hf : f w = -1) :
    BMid adj l v (ws ++ [w]) (fun x => if x = w then f v + 1 else f x) (q ++ [w]) := by
  have hwp := (out_pts hg v).lt w hw
  have hwq : w ∉ q := fun hq => (h.qv w hq).2.2 hf
  have hwv : v ≠ w := fun e => h.vv.2.2 (e ▸ hf)
  have hne : ∀ x, f x ≠ -1 → (if x = w then f v + 1 else f x) = f x := fun x hx => by rw [if_neg]; rintro rfl; exact hx hf
  have hfv := hne v h.vv.2.2
  have hv0 := (h.vis v h.vv.1 h.vv.2.1 h.vv.2.2)
  refine ⟨fun x h0 h1 h2 => ?_, fun x hx => ?_, fun x hx => ?_, ?_, ⟨h.vv.1, h.vv.2.1, by rw [hfv]; exact h.vv.2.2⟩, fun y hy => ?_, fun x h0 h1 h2 h3 h4 => ?_, fun x hx => ?_⟩
  · (try simp only at h2 ⊢)
    by_cases e : x = w
    · subst e
      rw [if_pos rfl]
      refine ⟨by omega, ?_⟩
      rw [show (f v + 1).toNat = (f v).toNat + 1 by omega]
      exact (mem_lev hg hl).2 (.inr ⟨v, hv0.2, hw⟩)
    · rw [if_neg e] at h2 ⊢; exact h.vis x h0 h1 h2
  · have := h.src x hx
    rw [hne x (by omega)]; exact this
  · rcases List.mem_append.1 hx with hx | hx
    · have := h.qv x hx
      rw [hne x this.2.2]; exact this
    · simp at hx; subst hx
      rw [if_pos rfl]; exact ⟨hwp.1, hwp.2, by omega⟩
  · rw [List.pairwise_append]
    refine ⟨h.up.imp_of_mem ?_, by simp, ?_⟩
    · intro x y hx hy hxy
      rw [hne x (h.qv x hx).2.2, hne y (h.qv y hy).2.2]; exact hxy
    · intro x hx y hy
      simp at hy; subst hy
      rw [hne x (h.qv x hx).2.2, if_pos rfl]
      exact (h.near x hx).2
  · rw [hfv]
    rcases List.mem_append.1 hy with hy | hy
    · rw [hne y (h.qv y hy).2.2]; exact h.near y hy
    · simp at hy; subst hy
      rw [if_pos rfl]; omega
  · (try simp only at h2 ⊢)
    have hxw : x ≠ w := fun e => h3 (by simp [e])
    rw [if_neg hxw] at h2 ⊢
    have := h.done x h0 h1 h2 (fun hq => h3 (by simp [hq])) h4
    rw [hfv]
    exact ⟨this.1, fun z hz => by have := this.2 z hz; rw [hne z this.1]; exact this⟩
  · rw [hfv]
    rcases List.mem_append.1 hx with hx | hx
    · have := h.ws x hx; rw [hne x this.1]; exact this
    · simp at hx; subst hx
      rw [if_pos rfl]
      exact ⟨by omega, by omega⟩

theorem BInv.start {adj : List (List Int)} {l : List Int} (hl : Pts adj.length l) : BInv adj l (fun x => if x ∈ l then 0 else -1) l := by
  refine ⟨fun x h0 h1 h2 => ?_, fun x hx => by simp [hx], fun x hx => ⟨(hl.lt x hx).1, (hl.lt x hx).2, by simp [hx]⟩, ?_, fun x hx y hy => by simp [hx, hy], fun x h0 h1 h2 h3 => by simp [h3] at h2⟩
  · by_cases hx : x ∈ l
    · simp [hx, levL]
    · simp [hx] at h2
  · exact List.pairwise_iff_forall_sublist.2 fun {a b} h => by
      have ha := h.subset (show a ∈ [a, b] by simp)
      have hb := h.subset (show b ∈ [a, b] by simp)
      simp [ha, hb]

theorem BInv.fin {adj : List (List Int)} (hg : Gr adj) {l : List Int} (hl : Pts adj.length l) {f : Int → Int} (h : BInv adj l f []) {x : Int} (h0 : 0 ≤ x) (h1 : x < adj.length) : f x = distL adj l x :=
  dist_of hg hl h.vis h.src (fun x h0 h1 h2 => (h.done x h0 h1 h2 (by simp)).2) h0 h1

/-- How many points are not found yet. -/
def unfound (n : Nat) (f : Int → Int) : Nat := ((upto n).filter fun x => decide (f x = -1)).length
theorem unfound_new {n : Nat} {f : Int → Int} {w y : Int} (hw : 0 ≤ w ∧ w < n) (hf : f w = -1) (hy : y ≠ -1) : unfound n (fun x => if x = w then y else f x) + 1 = unfound n f := by
  have : ∀ l : List Int, l.Nodup → w ∈ l → (l.filter fun x => decide ((if x = w then y else f x) = -1)).length + 1 = (l.filter fun x => decide (f x = -1)).length := by
    intro l
    induction l with
    | nil => intro _ h; simp at h
    | cons z l ih =>
      intro hd hm
      rw [List.nodup_cons] at hd
      rw [List.filter_cons, List.filter_cons]
      by_cases e : z = w
      · subst e
        rw [if_pos rfl, hf]
        have hc : l.filter (fun x => decide ((if x = z then y else f x) = -1)) = l.filter fun x => decide (f x = -1) := by
          apply List.filter_congr
          intro x hx
          have : x ≠ z := fun e => hd.1 (e ▸ hx)
          rw [if_neg this]
        rw [hc]
        simp [hy]
      · rw [if_neg e]
        have := ih hd.2 ((List.mem_cons.1 hm).resolve_left fun h => e h.symm)
        by_cases hz : f z = -1
        · simp only [hz, decide_true, if_true, List.length_cons]; omega
        · simp only [hz, decide_false, Bool.false_eq_true, if_false]; omega
  exact this _ ((up_upto n).imp fun h e => by omega) (mem_upto.2 hw)
end Go.Am
