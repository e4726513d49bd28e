/-
  Plain lemmas on rows of cells: two cells of one element are stored; the row says the new element, the others as before.
-/
import Derived.Test.YtcldjdngfmakbaaDoorWApart
import Derived.Test.YtcldjdngfmakbaaDoorWKept
import Derived.Test.YtcldjdngfmakbaaDoorWArr
namespace Go.Proofs.YtcldjdngfmakbaaDoor
open Go.RowKit Go.Proofs.YtcldjdngfmakbaaDoorW.PrintWords
set_option linter.unusedVariables false
set_option linter.unusedSimpArgs false

theorem setCell_comm (w : World) (b i j : Nat) (h : i ≠ j) (u v : Value) : (w.setCell ⟨b, i, none⟩ u).setCell ⟨b, j, none⟩ v = (w.setCell ⟨b, j, none⟩ v).setCell ⟨b, i, none⟩ u := by
  unfold World.setCell
  congr 1
  apply Array.ext_getElem?
  intro k
  simp only [Array.getElem?_modify]
  by_cases hk : b = k
  · subst hk
    simp only [if_true]
    cases hw : w.heap[b]? with
    | none => rfl
    | some o =>
      cases o <;> simp
      rw [Array.setIfInBounds_comm _ _ h]
  · simp [hk]

/-- What one store into a row of one's own does. -/
theorem own_setAt {W : World} {base g n cap : Nat} {e : TypeId} {size : Nat} {xs : List Value} (h : W.ownsRow base e size (.slice (some ⟨g, 0, none⟩) n cap) n xs) (k : Nat) (hk : k < n * size) (u : Value) :
    (W.setCell ⟨g, k, none⟩ u).ownsRow base e size (.slice (some ⟨g, 0, none⟩) n cap) n (xs.set k u) := by
  obtain ⟨h1, h2⟩ := h
  refine ⟨by rw [List.length_set]; exact h1, ?_⟩
  rcases h2 with ⟨hv, _⟩ | ⟨g', cap', cur, hv, hb, hg, hn, hm, hs, ht⟩
  · cases hv
  · injection hv with ha hn' hc
    injection ha with ha
    injection ha with ha
    subst ha hc
    refine .inr ⟨g, cap, cur.setIfInBounds k u, rfl, hb, blk_set hg k u, hn, hm, by simpa using hs, ?_⟩
    rw [← ht]
    simp [List.take_set]

theorem seg_set (l : List Value) (i j o sz : Nat) (u : Value) (ho : o < sz) :
    ((l.set (i * sz + o) u).drop (j * sz)).take sz = if i = j then ((l.drop (j * sz)).take sz).set o u else (l.drop (j * sz)).take sz := by
  apply List.ext_getElem?
  intro k
  by_cases hij : i = j
  · subst hij
    rw [if_pos rfl]
    simp only [List.getElem?_take, List.getElem?_drop, List.getElem?_set]
    by_cases hk : k < sz
    · simp only [if_pos hk, List.length_take, List.length_drop]
      by_cases he : o = k
      · subst he
        simp
        by_cases hl : i * sz + o < l.length
        · simp [hl]; omega
        · simp [hl]; omega
      · have : ¬ (i * sz + o = i * sz + k) := by omega
        simp [this, he]
    · simp only [if_neg hk, List.length_take]
      by_cases he : o = k
      · omega
      · simp [he]
  · rw [if_neg hij]
    simp only [List.getElem?_take, List.getElem?_drop, List.getElem?_set]
    by_cases hk : k < sz
    · simp only [if_pos hk]
      have : ¬ (i * sz + o = j * sz + k) := by
        intro he
        rcases Nat.lt_or_gt_of_ne hij with h1 | h1
        · have : (i + 1) * sz ≤ j * sz := Nat.mul_le_mul_right _ h1
          rw [Nat.add_mul] at this
          omega
        · have : (j + 1) * sz ≤ i * sz := Nat.mul_le_mul_right _ h1
          rw [Nat.add_mul] at this
          omega
      simp [this]
    · simp [hk]

theorem reps_set2 {α : Type} {R R' : α → List Value → Prop} {size : Nat} {ps : List α} {cs : List Value} (h : Reps R size ps cs) (hR : ∀ p c, R p c → R' p c) (i o1 o2 : Nat) (h1 : o1 < size) (h2 : o2 < size) (u1 u2 : Value) (p' : α)
    (hp : ∀ p c, ps[i]? = some p → R p c → R' p' ((c.set o1 u1).set o2 u2)) : Reps R' size (ps.set i p') ((cs.set (i * size + o1) u1).set (i * size + o2) u2) := by
  refine ⟨by simp [h.1], fun j q hj => ?_⟩
  rw [seg_set _ i j o2 size u2 h2, seg_set _ i j o1 size u1 h1]
  rw [List.getElem?_set] at hj
  by_cases hij : i = j
  · subst hij
    simp only [if_true] at hj ⊢
    split at hj
    · rename_i hl
      injection hj with hj
      subst hj
      obtain ⟨p, hpj⟩ : ∃ p, ps[i]? = some p := ⟨_, List.getElem?_eq_getElem hl⟩
      exact hp p _ hpj (h.2 i p hpj)
    · cases hj
  · rw [if_neg hij] at hj
    simp only [if_neg hij]
    exact hR _ _ (h.2 j q hj)

namespace Kd
open Go.Proofs.YtcldjdngfmakbaaDoorW.PrintWords.Kd
/-- Two cells of element i are stored: the new element's blocks are okp, none of the others'. -/
theorem S_set2 {α : Type} {d : Kd α} {e base n cap g : Nat} {ok okp : Nat → Prop} {w : World} {xs : List α} (h : Kd.S d e w base (fun k => ok k ∧ ¬ okp k) (.slice (some ⟨g, 0, none⟩) n cap) xs) (i o1 o2 : Nat) (hi : i < xs.length) (h1 : o1 < d.sz) (h2 : o2 < d.sz) (u1 u2 : Value) (x' : α)
    (hokp : ∀ k, okp k → ok k ∧ k ≠ g)
    (hx : ∀ x c, xs[i]? = some x → d.K w x c → d.M ((w.setCell ⟨g, i * d.sz + o1, none⟩ u1).setCell ⟨g, i * d.sz + o2, none⟩ u2) base okp x' ((c.set o1 u1).set o2 u2)) :
    Kd.S d e ((w.setCell ⟨g, i * d.sz + o1, none⟩ u1).setCell ⟨g, i * d.sz + o2, none⟩ u2) base ok (.slice (some ⟨g, 0, none⟩) n cap) (xs.set i x') := by
  obtain ⟨f, hf, h0, inner, ho, hr⟩ := S_tag h i okp (fun _ hk h2 => h2.2 hk)
  have hn : n = xs.length := by
    have := (S_reads' h).1
    exact this
  subst hn
  rw [List.length_zipIdx] at ho
  have hg : ok g := (h0 g rfl).1
  have hk1 : i * d.sz + o1 < xs.length * d.sz := by
    have : (i + 1) * d.sz ≤ xs.length * d.sz := Nat.mul_le_mul_right _ hi
    rw [Nat.add_mul] at this
    omega
  have hk2 : i * d.sz + o2 < xs.length * d.sz := by
    have : (i + 1) * d.sz ≤ xs.length * d.sz := Nat.mul_le_mul_right _ hi
    rw [Nat.add_mul] at this
    omega
  refine ⟨f, fun k hk => by simp [Value.ownBlock] at hk; subst hk; exact hg, (inner.set (i * d.sz + o1) u1).set (i * d.sz + o2) u2, ?_, ?_⟩
  · rw [List.length_zipIdx, List.length_set]
    exact own_setAt (own_setAt ho _ hk1 u1) _ hk2 u2
  · have hz : (xs.set i x').zipIdx = xs.zipIdx.set i (x', i) := by
      apply List.ext_getElem?
      intro j
      simp only [List.getElem?_zipIdx, List.getElem?_set, Nat.zero_add, List.length_zipIdx]
      by_cases hij : i = j
      · subst hij
        simp [hi]
      · simp [hij]
    rw [hz]
    refine reps_set2 hr ?_ i o1 o2 h1 h2 u1 u2 (x', i) ?_
    · intro p c hp
      have hm := (tag f d).M_move (w1 := (w.setCell ⟨g, i * d.sz + o1, none⟩ u1).setCell ⟨g, i * d.sz + o2, none⟩ u2) (fun k hk => by
        have hkg : k ≠ g := fun e => hk.2 (by rw [e]; rfl)
        rw [Below.heap_setCell _ _ _ _ hkg, Below.heap_setCell _ _ _ _ hkg]) hp
      exact (tag f d).M_mono (fun k hk => ⟨hk.1.1, hk.2⟩) hm
    · intro p c hp hm
      have hp1 : xs[i]? = some p.1 := by
        rw [List.getElem?_zipIdx] at hp
        cases hxi : xs[i]? with
        | none => rw [hxi] at hp; cases hp
        | some y => rw [hxi] at hp; simp at hp; rw [← hp]
      have hK : d.K w p.1 c := d.K_of_M (d.M_mono (fun _ hk => hk) hm)
      have := hx p.1 c hp1 hK
      exact d.M_mono (fun k hk => ⟨⟨(hokp k hk).1, by simp [Value.ownBlock]; exact (hokp k hk).2⟩, hf k hk⟩) this
end Kd
end Go.Proofs.YtcldjdngfmakbaaDoor
