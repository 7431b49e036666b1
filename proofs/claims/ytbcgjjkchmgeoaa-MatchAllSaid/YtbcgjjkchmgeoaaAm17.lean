/- The abstract machine, part 17: an array becomes a list that never changes; contracts that tell one answer. -/
import Derived.Test.YtbcgjjkchmgeoaaAm16
namespace Go.Am
open Go
set_option linter.unusedVariables false
set_option linter.unusedSimpArgs false

section
variable {P : Program} {w0 : World} {nt : Nat}

/-- The cells of a row in a block, as a list that never changes. -/
def cut (es : Nat) (cells : List AV) (off len : Nat) : AV := .sl ((cells.drop (off * es)).take (len * es)) len

/-- The same with the cells told in another way. -/
theorem Rel.freezeAs {w : World} {F : Ft} {M : Mt} {H : Heap} (h : Rel w0 w F M H) {r es top : Nat} {e : TypeId} {cells cells' : List AV} (hr : H r = some (.arr es e cells top)) (hl : cells'.length = cells.length)
    (conv : ∀ (i : Nat) (av av' : AV), cells[i]? = some av → cells'[i]? = some av' → av'.one = true ∧ ∀ cv, VR F M av cv → VR F M av' cv) :
    ∃ F', Ext F F' M M ∧ Rel w0 w F' M (upd H r none) ∧ ∀ off len cv, VR F M (.ref r off len top) cv → VR F' M (cut es cells' off len) cv := by
  obtain ⟨hcl, hes, a, cap, hM, hn, hmax, hz⟩ := h.blk r _ hr
  by_cases hcap : cap = 0
  · refine ⟨F, Ext.refl _ _, h.sub ?_, ?_⟩
    · intro s k hs
      by_cases e : s = r
      · subst e; simp [upd_same] at hs
      · rw [upd_ne _ _ _ e] at hs; exact hs
    · intro off len cv hv
      cases hv with
      | ref hM' hl hc hz' =>
        rw [hM] at hM'; cases hM'
        have : len = 0 := by omega
        subst this
        simpa [cut] using VR.sl0
  · rcases hz with hz | ⟨g, o, cs, ha, hFg, hg, hsz, hv⟩
    · exact absurd hz hcap
    · subst ha
      have hown : Owns M r (.arr es e cells top) g := ⟨o, cap, es, hM, fun _ => hcap⟩
      obtain ⟨x, hr'⟩ := h.freeze r _ hr g hown _ hg
      refine ⟨_, x, hr', ?_⟩
      intro off len cv hvr
      cases hvr with
      | ref hM' hl' hc hz' =>
        rw [hM] at hM'; cases hM'
        by_cases h0 : len = 0
        · subst h0; simpa [cut] using VR.sl0
        rcases hz' with hz' | ⟨g', o', h1, h2⟩
        · omega
        · cases h1; subst h2
          have hvc : VRC (upd F g (some (.cells cs e (0, 0)))) M ((cells'.drop (off * es)).take (len * es)) cs (o + off * es) := by
            intro i av' hi
            have hi' : cells'[off * es + i]? = some av' := by
              rw [List.getElem?_take] at hi
              split at hi
              · rwa [List.getElem?_drop] at hi
              · simp at hi
            have hlt : off * es + i < cells.length := by rw [← hl]; exact (List.getElem?_eq_some_iff.1 hi').1
            have ha : cells[off * es + i]? = some cells[off * es + i] := by simp [hlt]
            obtain ⟨p, cv, q, r'⟩ := hv _ _ ha
            obtain ⟨o1, c1⟩ := conv _ _ _ ha hi'
            exact ⟨o1, cv, by rw [Nat.add_assoc]; exact q, (c1 cv r').mono x⟩
          obtain ⟨fn, h1, h2, h3⟩ := hvc.fn
          exact VR.sl (fz := (0, 0)) fn (upd_same _ _ _) hl' h1 h2 h3

theorem Rel.freezeArr {w : World} {F : Ft} {M : Mt} {H : Heap} (h : Rel w0 w F M H) {r es top : Nat} {e : TypeId} {cells : List AV} (hr : H r = some (.arr es e cells top)) :
    ∃ F', Ext F F' M M ∧ Rel w0 w F' M (upd H r none) ∧ ∀ off len cv, VR F M (.ref r off len top) cv → VR F' M (cut es cells off len) cv := by
  obtain ⟨hcl, hes, a, cap, hM, hn, hmax, hz⟩ := h.blk r _ hr
  by_cases hcap : cap = 0
  · refine ⟨F, Ext.refl _ _, h.sub ?_, ?_⟩
    · intro s k hs
      by_cases e : s = r
      · subst e; simp [upd_same] at hs
      · rw [upd_ne _ _ _ e] at hs; exact hs
    · intro off len cv hv
      cases hv with
      | ref hM' hl hc hz' =>
        rw [hM] at hM'; cases hM'
        have : len = 0 := by omega
        subst this
        simpa [cut] using VR.sl0
  · have hone : ∀ (i : Nat) (av : AV), cells[i]? = some av → av.one = true := by
      rcases hz with hz | ⟨g, o, cs, ha, hFg, hg, hsz, hv⟩
      · exact absurd hz hcap
      · exact fun i av hi => (hv i av hi).1
    exact h.freezeAs hr rfl fun i av av' h1 h2 => by rw [h1] at h2; cases h2; exact ⟨hone i av h1, fun _ h => h⟩

theorem awp_freeze {c : Code} {Q : Exit → Env → Heap → Prop} {env : Env} {H : Heap} (s : Nat) {r off len top es : Nat} {e : TypeId} {cells : List AV} (hs : env s = .ref r off len top)
    (hr : H r = some (.arr es e cells top)) (h : AWP P w0 nt c Q (upd env s (cut es cells off len)) (upd H r none)) : AWP P w0 nt c Q env H := by
  intro w F M a rel er
  obtain ⟨F', x, rel', hv⟩ := rel.freezeArr hr
  have er' : EnvR F' M nt (upd env s (cut es cells off len)) a := by
    have := er.mono x
    refine ⟨this.size, this.defers, fun i => ?_⟩
    by_cases hi : i = s
    · subst hi
      rw [upd_same]
      have := er.slot i
      rw [hs] at this
      exact hv _ _ _ this
    · rw [upd_ne _ _ _ hi]; exact this.slot i
  exact Code.wp_mono (fun _ _ _ p => p.mono x fun _ _ _ q => q) (h w F' M a rel' er')

/-- The same at a call's end. -/
theorem ACalls.freeze {f : FuncId} {args : List AV} {H : Heap} {K : AV → Heap → Prop}
    (h : ACalls P w0 f args H (fun v H' => K v H' ∨ ∃ r off len top es e cells, v = .ref r off len top ∧ H' r = some (.arr es e cells top) ∧ K (cut es cells off len) (upd H' r none))) : ACalls P w0 f args H K := by
  refine ⟨h.1, fun w F M cargs hr hv => (h.2 w F M cargs hr hv).mono ?_⟩
  rintro e w' ⟨v, cv, H', F', M', a, b, c, d, k⟩
  rcases k with k | ⟨r, off, len, top, es, e', cells, rfl, hb, k⟩
  · exact ⟨v, cv, H', F', M', a, b, c, d, k⟩
  · obtain ⟨F2, x, rel', hv'⟩ := c.freezeArr hb
    exact ⟨_, cv, _, F2, M', a, b.trans x, rel', hv' _ _ _ d, k⟩

/-- The call answers x, and leaves all blocks as they are. -/
def Ret (P : Program) (w0 : World) (f : FuncId) (args : List AV) (x : AV) : Prop := ∀ H, ACalls P w0 f args H (fun v H' => v = x ∧ Sub H H')

theorem Ret.use {f : FuncId} {args : List AV} {x : AV} (h : Ret P w0 f args x) {H : Heap} {K : AV → Heap → Prop} (k : K x H) : ACalls P w0 f args H K := by
  refine (h H).drop ?_
  rintro v H' ⟨rfl, s⟩
  exact ⟨H, s, k⟩

theorem acalls_congr {f f' : FuncId} {args args' : List AV} {H : Heap} {K : AV → Heap → Prop} (hf : f = f') (h : args = args') : ACalls P w0 f args H K = ACalls P w0 f' args' H K := by rw [hf, h]

theorem KeepsBox.refl' (H : Heap) : KeepsBox H H = True := by simp [KeepsBox.refl]

theorem sub_upd_none {H H' : Heap} (a : Sub H H') {r : Nat} (h : H r = none) : Sub H (Am.upd H' r none) := a.upd h _
theorem upd_none_self {H : Heap} {r : Nat} (h : H r = none) : Am.upd H r none = H := by rw [← h, upd_self]
attribute [simp] KeepsBox.refl' Sub.refl
end
end Go.Am
