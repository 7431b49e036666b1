/- Contracts: the search for a partner. -/
import Derived.Test.YtkgcmgbndapjcaaW16
import Derived.Test.YtkgcmgbndapjcaaB4
namespace Go.Am
open Go Go.Proofs
set_option linter.unusedVariables false
set_option linter.unusedSimpArgs false
variable {w0 : World}
attribute [local irreducible] AWP ACalls
attribute [local congr] acalls_congr

/-- Flags of the points below n, as cells. -/
def labB (n : Nat) (s : Int → Bool) : List AV := (upto n).map fun x => B (s x)
theorem labB_length (n : Nat) (s : Int → Bool) : (labB n s).length = n := by simp [labB]
theorem labB_at {n : Nat} {s : Int → Bool} {x : Int} (h0 : 0 ≤ x) (h : x.toNat < (labB n s).length) : (labB n s)[x.toNat] = B (s x) := by
  simp only [labB, List.getElem_map, upto_get]
  rw [show ((x.toNat : Nat) : Int) = x by omega]
theorem labB_set {n : Nat} {s : Int → Bool} {w : Int} {x : Bool} (h0 : 0 ≤ w) : (labB n s).set w.toNat (B x) = labB n (setF s w x) := by
  refine List.ext_getElem? fun i => ?_
  rw [List.getElem?_set, labB_length]
  simp only [labB, List.getElem?_map]
  by_cases hi : i < n
  · have hu : (upto n)[i]? = some (i : Int) := by rw [List.getElem?_eq_getElem (by simpa using hi), upto_get]
    rw [hu]
    simp only [Option.map_some, setF]
    by_cases e : w.toNat = i
    · rw [if_pos e, if_pos (by omega), if_pos (by omega)]
    · rw [if_neg e, if_neg (by omega)]
  · have hu : (upto n)[i]? = none := List.getElem?_eq_none (by simpa using hi)
    rw [hu]
    by_cases e : w.toNat = i
    · rw [if_pos e, if_neg (by omega)]; rfl
    · rw [if_neg e]; rfl
theorem labI_setF {n : Nat} {f : Int → Int} {w x : Int} (h0 : 0 ≤ w) : (labI n f).set w.toNat (I x) = labI n (setF f w x) := labI_set h0

/-- The matching's blocks. -/
def ms (H : Heap) (F L R S : Nat) (adj : List (List Int)) (m : Nat) (f g : Int → Int) (s : Int → Bool) : Heap :=
  upd (upd (upd (upd H L (some (.arr 1 3 (labI adj.length f) adj.length))) R (some (.arr 1 3 (labI m g) m))) F (some (.box [rows adj, .ref L 0 adj.length adj.length, .ref R 0 m m, .ref S 0 m m]))) S (some (.arr 1 4 (labB m s) m))
structure Ds (F L R S : Nat) : Prop where
  lr : L ≠ R
  lf : L ≠ F
  ls : L ≠ S
  rf : R ≠ F
  rs : R ≠ S
  fs : F ≠ S

section
variable {H : Heap} {F L R S m : Nat} {adj : List (List Int)} {f g : Int → Int} {s : Int → Bool} (d : Ds F L R S)
theorem ms_S : ms H F L R S adj m f g s S = some (.arr 1 4 (labB m s) m) := by simp [ms]
include d
theorem ms_F : ms H F L R S adj m f g s F = some (.box [rows adj, .ref L 0 adj.length adj.length, .ref R 0 m m, .ref S 0 m m]) := by simp [ms, d.fs]
theorem ms_R : ms H F L R S adj m f g s R = some (.arr 1 3 (labI m g) m) := by simp [ms, d.rs, d.rf]
theorem ms_L : ms H F L R S adj m f g s L = some (.arr 1 3 (labI adj.length f) adj.length) := by simp [ms, d.ls, d.lf, d.lr]
omit d in
theorem ms_setS {w : Int} {x : Bool} (h0 : 0 ≤ w) : upd (ms H F L R S adj m f g s) S (some (.arr 1 4 ((labB m s).set w.toNat (B x)) m)) = ms H F L R S adj m f g (setF s w x) := by
  unfold ms; rw [upd_upd, labB_set h0]
theorem ms_setR {w x : Int} (h0 : 0 ≤ w) : upd (ms H F L R S adj m f g s) R (some (.arr 1 3 ((labI m g).set w.toNat (I x)) m)) = ms H F L R S adj m f (setF g w x) s := by
  unfold ms; rw [upd_comm _ _ _ (Ne.symm d.rs), upd_comm _ _ _ (Ne.symm d.rf), upd_upd, labI_setF h0]
theorem ms_setL {w x : Int} (h0 : 0 ≤ w) : upd (ms H F L R S adj m f g s) L (some (.arr 1 3 ((labI adj.length f).set w.toNat (I x)) adj.length)) = ms H F L R S adj m (setF f w x) g s := by
  unfold ms; rw [upd_comm _ _ _ (Ne.symm d.ls), upd_comm _ _ _ (Ne.symm d.lf), upd_comm _ _ _ (Ne.symm d.lr), upd_upd, labI_setF h0]
end

theorem GrM.nb_set {m : Nat} {adj : List (List Int)} (h : GrM m adj) (i : Int) : IsSet (nbM adj i) := by
  unfold nbM
  rw [List.getD_eq_getElem?_getD]
  cases hl : adj[i.toNat]? with
  | none => exact .nil
  | some l => exact h.set l (List.mem_of_getElem? hl)
theorem GrM.nb_len {m : Nat} {adj : List (List Int)} (h : GrM m adj) (i : Int) : (nbM adj i).length ≤ m := up_length (h.nb_set i).up fun x hx => h.nb hx

/-- How many are not seen. -/
def unseen (m : Nat) (s : Int → Bool) : Nat := (upto m).countP fun k => !s k
theorem unseen_le {m : Nat} {s s' : Int → Bool} (h : ∀ k, s k = true → s' k = true) : unseen m s' ≤ unseen m s := by
  unfold unseen
  refine List.countP_mono_left fun k _ hk => ?_
  cases e : s k with
  | false => rfl
  | true => rw [h k e] at hk; cases hk
theorem unseen_lt {m : Nat} {s : Int → Bool} {k : Int} (h0 : 0 ≤ k) (hm : k < m) (h : s k = false) : unseen m (setF s k true) < unseen m s := by
  unfold unseen
  have hk : k ∈ upto m := mem_upto.2 ⟨h0, hm⟩
  generalize upto m = l at hk
  induction l with
  | nil => cases hk
  | cons x l ih =>
    have hle : (l.countP fun y => !setF s k true y) ≤ l.countP fun y => !s y := by
      refine List.countP_mono_left fun y _ hy => ?_
      by_cases e : y = k
      · subst e; simp [setF_same] at hy
      · simpa [setF_ne _ _ e] using hy
    rw [List.countP_cons, List.countP_cons]
    by_cases e : x = k
    · subst e
      simp [setF_same, h]
      omega
    · have hk' : k ∈ l := by
        rcases List.mem_cons.1 hk with h | h
        · exact absurd h.symm e
        · exact h
      have := ih hk'
      rw [setF_ne _ _ e]
      omega

end Go.Am
