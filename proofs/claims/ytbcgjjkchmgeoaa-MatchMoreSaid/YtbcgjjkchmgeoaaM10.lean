/- Plain law: one more on the left. -/
import Derived.Test.YtbcgjjkchmgeoaaM9
namespace Go.Am
set_option linter.unusedVariables false

theorem nbM_app {adj : List (List Int)} {l : List Int} {i : Int} (h0 : 0 ≤ i) (h : i < adj.length) : nbM (adj ++ [l]) i = nbM adj i := by
  unfold nbM
  rw [List.getD_eq_getElem?_getD, List.getD_eq_getElem?_getD, List.getElem?_append_left (by omega)]
theorem nbM_last {adj : List (List Int)} {l : List Int} : nbM (adj ++ [l]) adj.length = l := by
  unfold nbM
  rw [List.getD_eq_getElem?_getD, Int.toNat_natCast, List.getElem?_append_right (Nat.le_refl _)]
  simp
theorem app_len (adj : List (List Int)) (l : List Int) : (adj ++ [l]).length = adj.length + 1 := by simp

theorem cnt_succ {n : Nat} {f g : Int → Int} (h : ∀ i : Int, 0 ≤ i → i < n → f i = g i) : cntM (n + 1) f = cntM n g + if f n = -1 then 0 else 1 := by
  have e : upto (n + 1) = upto n ++ [(n : Int)] := by simp [upto, List.range_succ]
  unfold cntM
  rw [e, List.countP_append]
  congr 1
  · refine List.countP_congr fun x hx => ?_
    obtain ⟨a, b⟩ := mem_upto.1 hx
    rw [h x a b]
  · by_cases hf : f n = -1 <;> simp [hf]

theorem nu_more {m v v' : Nat} {adj : List (List Int)} {l : List Int} (hn : adj.length ≤ 63) (hv : IsNu m adj v) (hv' : IsNu m (adj ++ [l]) v') : v ≤ v' ∧ v' ≤ v + 1 := by
  obtain ⟨⟨f, hf, rfl⟩, L, R, hc, he⟩ := hv
  obtain ⟨⟨f', hf', rfl⟩, L', R', hc', he'⟩ := hv'
  constructor
  · have hm : Mtc (adj ++ [l]) (fun i => if i < adj.length then f i else -1) := by
      refine ⟨fun i a b c => ?_, fun i j a b a' b' c e => ?_⟩
      · by_cases h : i < adj.length
        · simp only [h, if_true] at c ⊢
          rw [nbM_app a h]; exact hf.nb i a h c
        · simp only [h, if_false] at c; exact absurd rfl c
      · by_cases h : i < adj.length
        · simp only [h, if_true] at c e
          by_cases h' : j < adj.length
          · simp only [h', if_true] at e; exact hf.inj i j a h a' h' c e
          · simp only [h', if_false] at e; exact absurd e c
        · simp only [h, if_false] at c; exact absurd rfl c
    have := hm.le hc'
    rw [app_len, cnt_succ (g := f) (fun i a b => by simp only [b, if_true])] at this
    omega
  · have hset : IsSet [(adj.length : Int)] := .one ⟨by omega, by omega⟩
    obtain ⟨u1, u2⟩ := unionR_spec hc.lset hset
    have hcv : Cv m (adj ++ [l]) (unionR L [(adj.length : Int)]) R := by
      refine ⟨u1, hc.rset, fun x hx => ?_, hc.rlt, fun i a b c y hy => ?_⟩
      · rw [app_len]
        rcases (u2 x).1 hx with h | h
        · have := hc.llt x h; omega
        · simp at h; omega
      · rw [app_len] at b
        have h1 : i ≠ adj.length := fun e => c ((u2 i).2 (.inr (by simp [e])))
        have h2 : i < adj.length := by omega
        rw [nbM_app a h2] at hy
        exact hc.cover i a h2 (fun h => c ((u2 i).2 (.inl h))) y hy
    have hle := hf'.le hcv
    have hul : (unionR L [(adj.length : Int)]).length ≤ L.length + 1 := by
      have := nodup_le (unionR L [(adj.length : Int)]) ((adj.length : Int) :: L) u1.nodup fun y hy => by
        rcases (u2 y).1 hy with h | h
        · simp [h]
        · simp at h; simp [h]
      simpa using this
    omega

/-- There is somebody left, and whoever may go with all takes one. -/
theorem nu_all {m v v' : Nat} {adj : List (List Int)} (hn : adj.length ≤ 63) (hm : v ≤ m) (hm' : v' ≤ m) (hv : IsNu m adj v) (hv' : IsNu m (adj ++ [upto m]) v') : v' = min (v + 1) m := by
  obtain ⟨h1, h2⟩ := nu_more hn hv hv'
  by_cases hlt : v < m
  · obtain ⟨⟨f, hf, rfl⟩, L, R, hc, he⟩ := hv
    obtain ⟨⟨f', hf', rfl⟩, L', R', hc', he'⟩ := hv'
    obtain ⟨k, k0, km, hk⟩ : ∃ k : Int, 0 ≤ k ∧ k < m ∧ ∀ i : Int, 0 ≤ i → i < adj.length → f i ≠ k := by
      refine Classical.byContradiction fun hno => ?_
      have := nodup_le (upto m) (((upto adj.length).filter fun j => decide (f j ≠ -1)).map f) (nodup_upto m) fun k hk => ?_
      · rw [List.length_map, ← List.countP_eq_length_filter, upto_length] at this
        have e : cntM adj.length f = (upto adj.length).countP fun j => decide (f j ≠ -1) := rfl
        omega
      · obtain ⟨a, b⟩ := mem_upto.1 hk
        refine Classical.byContradiction fun hnot => hno ⟨k, a, b, fun i i0 i1 e => hnot ?_⟩
        exact List.mem_map.2 ⟨i, List.mem_filter.2 ⟨mem_upto.2 ⟨i0, i1⟩, by rw [e]; simp; omega⟩, e⟩
    have hmt : Mtc (adj ++ [upto m]) (fun i => if i < adj.length then f i else k) := by
      refine ⟨fun i a b c => ?_, fun i j a b a' b' c e => ?_⟩
      · by_cases h : i < adj.length
        · simp only [h, if_true] at c ⊢
          rw [nbM_app a h]; exact hf.nb i a h c
        · simp only [h, if_false]
          rw [app_len] at b
          have : i = adj.length := by omega
          subst this
          rw [nbM_last]; exact mem_upto.2 ⟨k0, km⟩
      · rw [app_len] at b b'
        by_cases h : i < adj.length
        · simp only [h, if_true] at c e
          by_cases h' : j < adj.length
          · simp only [h', if_true] at e; exact hf.inj i j a h a' h' c e
          · simp only [h', if_false] at e; exact absurd e (hk i a h)
        · simp only [h, if_false] at c e
          by_cases h' : j < adj.length
          · simp only [h', if_true] at e; exact absurd e.symm (hk j a' h')
          · omega
    have := hmt.le hc'
    rw [app_len, cnt_succ (g := f) (fun i a b => by simp only [b, if_true])] at this
    have hne : ¬ (if ((adj.length : Nat) : Int) < adj.length then f adj.length else k) = -1 := by simp; omega
    rw [if_neg hne] at this
    omega
  · omega
end Go.Am
