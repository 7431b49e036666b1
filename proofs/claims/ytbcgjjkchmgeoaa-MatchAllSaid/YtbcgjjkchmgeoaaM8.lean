/- Plain law: matchings, greatest ones, covers. -/
import Derived.Test.YtbcgjjkchmgeoaaM7
namespace Go.Am
set_option linter.unusedVariables false

/-- The first i have been asked: some set shows why who has none has none. -/
structure MInv (m : Nat) (adj : List (List Int)) (i : Nat) (f g : Int → Int) : Prop where
  good : Good m adj f g
  later : ∀ j : Int, (i : Int) ≤ j → j < adj.length → f j = -1
  why : ∃ Z, Closed adj g Z ∧ ∀ j : Int, 0 ≤ j → j < i → f j = -1 → ∀ y ∈ nbM adj j, Z y

theorem MInv.start (m : Nat) (adj : List (List Int)) : MInv m adj 0 (fun _ => -1) (fun _ => -1) :=
  ⟨⟨fun _ _ _ => .inl rfl, fun _ _ _ => .inl rfl⟩, fun _ _ _ => rfl, fun _ => False, fun _ h => h.elim, fun j h0 h1 => by omega⟩

section
variable {m : Nat} {adj : List (List Int)} {i : Nat} {f g : Int → Int} {s' : Int → Bool}
theorem MInv.no (h : MInv m adj i f g) (hi : i < adj.length) (r : RF adj g (fun _ => false) s') (hn : ∀ y ∈ nbM adj i, s' y = true) : MInv m adj (i + 1) f g := by
  obtain ⟨Z, z1, z2⟩ := h.why
  refine ⟨h.good, fun j a b => h.later j (by omega) b, fun k => Z k ∨ s' k = true, fun k hk => ?_, fun j a b c y hy => ?_⟩
  · rcases hk with hk | hk
    · exact ⟨(z1 k hk).1, fun y hy => .inl ((z1 k hk).2 y hy)⟩
    · obtain ⟨p, q⟩ := r.new k hk rfl
      exact ⟨p, fun y hy => .inr (q y hy)⟩
  · by_cases e : j = i
    · subst e; exact .inr (hn y hy)
    · exact .inl (z2 j a (by omega) c y hy)
theorem MInv.yes {f' g' : Int → Int} (h : MInv m adj i f g) (hi : i < adj.length) (r : RT m adj i f g (fun _ => false) f' g' s') : MInv m adj (i + 1) f' g' := by
  obtain ⟨Z, z1, z2⟩ := h.why
  have hfi := h.later i (Int.le_refl _) (by omega)
  have hg := r.good
  have e : (fun k => if f i ≠ -1 ∧ k = f i then -1 else g' k) = g' := by
    funext k
    rw [if_neg (fun h => h.1 hfi)]
  rw [e] at hg
  have hz := (r.closed Z z1).1
  refine ⟨hg, fun j a b => (r.same j (by omega) b (by omega)).2 (h.later j (by omega) b), Z, fun k hk => ?_, fun j a b c y hy => ?_⟩
  · rw [hz k hk]; exact z1 k hk
  · have hji : j ≠ i := fun e => by subst e; exact r.has c
    exact z2 j a (by omega) ((r.same j a (by omega) hji).1 c) y hy
end

/-- How many on the left have one. -/
def cntM (n : Nat) (f : Int → Int) : Nat := (upto n).countP fun j => decide (f j ≠ -1)

/-- Pairs, each with one other at most. -/
structure Mtc (adj : List (List Int)) (f : Int → Int) : Prop where
  nb : ∀ i : Int, 0 ≤ i → i < adj.length → f i ≠ -1 → f i ∈ nbM adj i
  inj : ∀ i j : Int, 0 ≤ i → i < adj.length → 0 ≤ j → j < adj.length → f i ≠ -1 → f i = f j → i = j
theorem Good.mtc {m : Nat} {adj : List (List Int)} {f g : Int → Int} (h : Good m adj f g) : Mtc adj f := by
  refine ⟨fun i a b c => ?_, fun i j a b a' b' c e => ?_⟩
  · rcases h.l i a b with x | x
    · exact absurd x c
    · exact x.1
  · rcases h.l i a b with x | x
    · exact absurd x c
    rcases h.l j a' b' with y | y
    · rw [e] at c; exact absurd y c
    rw [← x.2, e, y.2]

/-- Each pair has one of these. -/
structure Cv (m : Nat) (adj : List (List Int)) (l r : List Int) : Prop where
  lset : IsSet l
  rset : IsSet r
  llt : ∀ x ∈ l, x < adj.length
  rlt : ∀ x ∈ r, x < m
  cover : ∀ i : Int, 0 ≤ i → i < adj.length → i ∉ l → ∀ y ∈ nbM adj i, y ∈ r

theorem nodup_le : ∀ (A B : List Int), A.Nodup → (∀ x ∈ A, x ∈ B) → A.length ≤ B.length := by
  intro A
  induction A with
  | nil => intro B _ _; simp
  | cons x A ih =>
    intro B hn hs
    have hx : x ∈ B := hs x (by simp)
    have h1 := ih (B.erase x) (List.nodup_cons.1 hn).2 fun y hy => by
      have hne : y ≠ x := fun e => by subst e; exact (List.nodup_cons.1 hn).1 hy
      exact (List.mem_erase_of_ne hne).2 (hs y (by simp [hy]))
    rw [List.length_erase_of_mem hx] at h1
    have := List.length_pos_of_mem hx
    simp only [List.length_cons]
    omega
theorem nodup_upto (n : Nat) : (upto n).Nodup := (up_upto n).imp fun h e => by omega
theorem nodup_mapF {A : List Int} {f : Int → Int} (h : A.Nodup) (hi : ∀ x ∈ A, ∀ y ∈ A, f x = f y → x = y) : (A.map f).Nodup := by
  induction A with
  | nil => simp
  | cons x A ih =>
    rw [List.map_cons, List.nodup_cons]
    refine ⟨fun hm => ?_, ih (List.nodup_cons.1 h).2 fun a ha b hb => hi a (by simp [ha]) b (by simp [hb])⟩
    obtain ⟨y, hy, e⟩ := List.mem_map.1 hm
    have := hi y (by simp [hy]) x (by simp) e
    subst this
    exact (List.nodup_cons.1 h).1 hy

theorem cnt_split (p q : Int → Bool) (l : List Int) : l.countP p = (l.filter fun x => p x && q x).length + (l.filter fun x => p x && !q x).length := by
  induction l with
  | nil => rfl
  | cons x l ih =>
    rw [List.countP_cons, List.filter_cons, List.filter_cons, ih]
    cases p x <;> cases q x <;> simp <;> omega

/-- No pairs are more than what has one of each. -/
theorem Mtc.le {m : Nat} {adj : List (List Int)} {f : Int → Int} {l r : List Int} (h : Mtc adj f) (c : Cv m adj l r) : cntM adj.length f ≤ l.length + r.length := by
  unfold cntM
  rw [cnt_split _ (fun x => decide (x ∈ l))]
  refine Nat.add_le_add ?_ ?_
  · refine nodup_le _ _ ((nodup_upto _).filter _) fun x hx => ?_
    have := (List.mem_filter.1 hx).2
    simp at this; exact this.2
  · have hm : ∀ x ∈ (upto adj.length).filter (fun x => decide (f x ≠ -1) && !decide (x ∈ l)), 0 ≤ x ∧ x < adj.length ∧ f x ≠ -1 ∧ x ∉ l := by
      intro x hx
      have h1 := mem_upto.1 (List.mem_filter.1 hx).1
      have h2 := (List.mem_filter.1 hx).2
      simp at h2
      exact ⟨h1.1, h1.2, h2.1, h2.2⟩
    rw [← List.length_map (f := f)]
    refine nodup_le _ _ (nodup_mapF ((nodup_upto _).filter _) fun x hx y hy e => ?_) fun x hx => ?_
    · obtain ⟨a, b, c1, _⟩ := hm x hx
      obtain ⟨a', b', _, _⟩ := hm y hy
      exact h.inj x y a b a' b' c1 e
    · obtain ⟨y, hy, rfl⟩ := List.mem_map.1 hx
      obtain ⟨a, b, c1, c2⟩ := hm y hy
      exact c.cover y a b c2 _ (h.nb y a b c1)

/-- As many as the greatest matching has. -/
def IsNu (m : Nat) (adj : List (List Int)) (v : Nat) : Prop := (∃ f, Mtc adj f ∧ cntM adj.length f = v) ∧ ∃ l r, Cv m adj l r ∧ l.length + r.length = v
theorem IsNu.uniq {m : Nat} {adj : List (List Int)} {v v' : Nat} (h : IsNu m adj v) (h' : IsNu m adj v') : v = v' := by
  obtain ⟨⟨f, a, rfl⟩, l, r, b, e⟩ := h
  obtain ⟨⟨f', a', rfl⟩, l', r', b', e'⟩ := h'
  have := a.le b'
  have := a'.le b
  omega

/-- What was reached from those who have none. -/
structure Rch (m : Nat) (adj : List (List Int)) (f g : Int → Int) (rd s : Int → Bool) : Prop where
  none : ∀ j : Int, 0 ≤ j → j < adj.length → f j = -1 → rd j = true ∧ ∀ y ∈ nbM adj j, s y = true
  only : ∀ j : Int, 0 ≤ j → j < adj.length → rd j = true → f j = -1 ∨ ∃ k : Int, 0 ≤ k ∧ k < m ∧ s k = true ∧ g k = j
  seen : ∀ k : Int, 0 ≤ k → k < m → s k = true → g k ≠ -1 ∧ rd (g k) = true ∧ ∀ y ∈ nbM adj (g k), s y = true

theorem Rch.cover {m : Nat} {adj : List (List Int)} {f g : Int → Int} {rd s : Int → Bool} (hG : GrM m adj) (hf : Good m adj f g) (h : Rch m adj f g rd s) :
    Cv m adj ((upto adj.length).filter fun i => !rd i) ((upto m).filter s) ∧ ((upto adj.length).filter fun i => !rd i).length + ((upto m).filter s).length = cntM adj.length f := by
  have hnl := hG.nle
  have hml := hG.mle
  refine ⟨⟨(isSet_upto (by omega)).filter _, (isSet_upto (by omega)).filter _, fun x hx => (mem_upto.1 (List.mem_filter.1 hx).1).2, fun x hx => (mem_upto.1 (List.mem_filter.1 hx).1).2, fun i a b c y hy => ?_⟩, ?_⟩
  · have hr : rd i = true := by
      cases e : rd i with
      | true => rfl
      | false => exact absurd (List.mem_filter.2 ⟨mem_upto.2 ⟨a, b⟩, by simp [e]⟩) c
    have hy2 := hG.nb hy
    refine List.mem_filter.2 ⟨mem_upto.2 hy2, ?_⟩
    rcases h.only i a b hr with h1 | ⟨k, k0, km, hs, rfl⟩
    · exact (h.none i a b h1).2 y hy
    · exact (h.seen k k0 km hs).2.2 y hy
  · rw [cntM, cnt_split _ rd]
    have e1 : ((upto adj.length).filter fun x => decide (f x ≠ -1) && !rd x) = (upto adj.length).filter fun i => !rd i := by
      refine List.filter_congr fun x hx => ?_
      obtain ⟨a, b⟩ := mem_upto.1 hx
      cases e : rd x with
      | true => simp
      | false =>
        have : f x ≠ -1 := fun h1 => by rw [(h.none x a b h1).1] at e; cases e
        simp [this]
    rw [e1, Nat.add_comm]
    congr 1
    have hs : ∀ k ∈ (upto m).filter s, 0 ≤ k ∧ k < m ∧ s k = true := fun k hk => ⟨(mem_upto.1 (List.mem_filter.1 hk).1).1, (mem_upto.1 (List.mem_filter.1 hk).1).2, (List.mem_filter.1 hk).2⟩
    have hg : ∀ k ∈ (upto m).filter s, 0 ≤ g k ∧ g k < adj.length ∧ f (g k) = k := by
      intro k hk
      obtain ⟨a, b, c⟩ := hs k hk
      rcases hf.r k a b with h1 | h1
      · exact absurd h1 (h.seen k a b c).1
      · exact h1
    refine Nat.le_antisymm ?_ ?_
    · rw [← List.length_map (f := g)]
      refine nodup_le _ _ (nodup_mapF ((nodup_upto _).filter _) fun x hx y hy e => ?_) fun x hx => ?_
      · rw [← (hg x hx).2.2, e, (hg y hy).2.2]
      · obtain ⟨k, hk, rfl⟩ := List.mem_map.1 hx
        obtain ⟨a, b, c⟩ := hs k hk
        obtain ⟨a', b', c'⟩ := hg k hk
        refine List.mem_filter.2 ⟨mem_upto.2 ⟨a', b'⟩, ?_⟩
        rw [(h.seen k a b c).2.1, c']
        simp; omega
    · have hm : ∀ x ∈ (upto adj.length).filter (fun x => decide (f x ≠ -1) && rd x), 0 ≤ x ∧ x < adj.length ∧ f x ≠ -1 ∧ rd x = true := by
        intro x hx
        have h1 := mem_upto.1 (List.mem_filter.1 hx).1
        have h2 := (List.mem_filter.1 hx).2
        simp at h2
        exact ⟨h1.1, h1.2, h2.1, h2.2⟩
      have hlm : (((upto adj.length).filter fun x => decide (f x ≠ -1) && rd x).map f).length = ((upto adj.length).filter fun x => decide (f x ≠ -1) && rd x).length := List.length_map f
      rw [← hlm]
      refine nodup_le _ _ (nodup_mapF ((nodup_upto _).filter _) fun x hx y hy e => ?_) fun x hx => ?_
      · obtain ⟨a, b, c, _⟩ := hm x hx
        obtain ⟨a', b', _, _⟩ := hm y hy
        exact hf.mtc.inj x y a b a' b' c e
      · obtain ⟨y, hy, rfl⟩ := List.mem_map.1 hx
        obtain ⟨a, b, c, d⟩ := hm y hy
        rcases h.only y a b d with h1 | ⟨k, k0, km, hk, rfl⟩
        · exact absurd h1 c
        · have := hg k (List.mem_filter.2 ⟨mem_upto.2 ⟨k0, km⟩, hk⟩)
          rw [this.2.2]
          exact List.mem_filter.2 ⟨mem_upto.2 ⟨k0, km⟩, hk⟩
end Go.Am
