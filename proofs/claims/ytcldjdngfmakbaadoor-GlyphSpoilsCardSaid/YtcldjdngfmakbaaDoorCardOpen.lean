/-
  Arguments that are read, as rows of values: what a law's walk asks of them.
-/
import Derived.Test.YtcldjdngfmakbaaDoorCardBase
namespace Go.Proofs.YtcldjdngfmakbaaDoor
open Go.ChangeShapes Go.WideShapes Go.ChangeAt Go.RowKit Go.Proofs.YtcldjdngfmakbaaDoorW.PrintWords

set_option maxRecDepth 100000
theorem add_twice (a : Addr) (x i : Nat) : (a.add x).add i = a.add (x + i) := by
  cases a with
  | mk b o f =>
    simp only [Addr.add]
    by_cases h1 : x = 0 <;> by_cases h2 : i = 0 <;> simp_all [Nat.add_assoc]

section
variable {H : Type} {enc : TypeId × Value → H} {W : World}
/-- What is read at a type is a value of this kind, in its range. -/
def OpensAs {α : Type} (enc : TypeId × Value → H) (W : World) (e : TypeId) (d : Kd α) (wf : α → Prop) : Prop :=
  ∀ fuel cs x, DataW.trod enc Tryd.prog W 0 (fun _ => true) true fuel e cs = some x → ∃ a, d.K W a cs ∧ wf a

theorem opens_int {e : TypeId} {k : IntKind} (he : Tryd.prog.underlying e = some (.int k)) : OpensAs enc W e (Kd.int k) (fun n => (Lit.int k n).wf = true) := by
  intro fuel cs x h
  obtain ⟨n, rfl, _, hw⟩ := DataW.trod_int he h
  exact ⟨n, rfl, hw⟩
theorem opens_bool {e : TypeId} (he : Tryd.prog.underlying e = some .bool) : OpensAs enc W e Kd.bool (fun _ => True) := by
  intro fuel cs x h
  obtain ⟨b, rfl, _⟩ := DataW.trod_bool he h
  exact ⟨b, rfl, trivial⟩

theorem choose_list {α : Type} {Q : Nat → α → Prop} : ∀ (n : Nat), (∀ i, i < n → ∃ x, Q i x) → ∃ xs : List α, xs.length = n ∧ ∀ i x, xs[i]? = some x → Q i x
  | 0, _ => ⟨[], rfl, fun i x h => by simp at h⟩
  | n + 1, h => by
    obtain ⟨xs, hl, hx⟩ := choose_list n (fun i hi => h i (by omega))
    obtain ⟨y, hy⟩ := h n (by omega)
    refine ⟨xs ++ [y], by simp [hl], fun i x hi => ?_⟩
    by_cases hn : i < n
    · rw [List.getElem?_append_left (by omega)] at hi
      exact hx i x hi
    · rw [List.getElem?_append_right (by omega)] at hi
      have : i - xs.length = 0 := by
        have := (List.getElem?_eq_some_iff.1 hi).1
        simp at this
        omega
      rw [this] at hi
      obtain rfl : y = x := by simpa using hi
      obtain rfl : i = n := by omega
      exact hy

theorem open_row {α : Type} {t e : TypeId} {d : Kd α} {wf : α → Prop} {fuel : Nat} {cs : List Value} {x : DataW H × List MemPlace} (ht : Tryd.prog.underlying t = some (.slice e)) (hsz : Tryd.prog.cellsOf e = d.sz) (ho : OpensAs enc W e d wf)
    (h : DataW.trod enc Tryd.prog W 0 (fun _ => true) true fuel t cs = some x) : ∃ A c xs, cs = [.slice A xs.length c] ∧ xs.length ≤ c ∧ Kd.C d W A xs.length xs ∧ ∀ y ∈ xs, wf y := by
  rcases Deep.open_slice ht h with ⟨rfl, _⟩ | ⟨a, len, cap, m, n, D, Pl, rfl, _, hl, hm, rfl, _, hel⟩
  · exact ⟨none, 0, [], rfl, Nat.le_refl _, ⟨rfl, by simp, fun h => absurd h (by simp)⟩, fun y hy => by cases hy⟩
  obtain ⟨xs, hlen, hx⟩ := choose_list (Q := fun i y => ∃ cs', W.cells? 0 (a.add (i * Tryd.prog.cellsOf e)) (Tryd.prog.cellsOf e) = some cs' ∧ d.K W y cs' ∧ wf y) len (fun i hi => by
    obtain ⟨cs', h1, h2⟩ := hel i (show i < m by omega)
    obtain ⟨y, h3, h4⟩ := ho _ _ _ h2
    exact ⟨y, cs', h1, h3, h4⟩)
  refine ⟨some a, m, xs, by rw [hlen], by omega, ⟨rfl, ?_, fun _ => ⟨a, rfl, fun j y hj => ?_⟩⟩, fun y hy => ?_⟩
  · have : maxLen = 9223372036854775807 := rfl
    omega
  · obtain ⟨cs', h1, h2, _⟩ := hx j y hj
    obtain ⟨_, h3, h4⟩ := World.cells?_some h1
    refine ⟨cs', by rw [h3, hsz], h2, fun i u hu => ?_⟩
    have hi : i < Tryd.prog.cellsOf e := by rw [← h3]; exact (List.getElem?_eq_some_iff.1 hu).1
    have := h4 i hi
    rw [hu] at this
    rw [← this, ← hsz]
    rw [add_twice]
  · obtain ⟨i, hi⟩ := List.mem_iff_getElem?.1 hy
    obtain ⟨_, _, _, h5⟩ := hx i y hi
    exact h5

theorem opens_slice {α : Type} {t e : TypeId} {d : Kd α} {wf : α → Prop} (k : Nat) (ht : Tryd.prog.underlying t = some (.slice e)) (hsz : Tryd.prog.cellsOf e = d.sz) (ho : OpensAs enc W e d wf) :
    OpensAs enc W t (Kd.slice k d) (fun xs => ∀ y ∈ xs, wf y) := by
  intro fuel cs x h
  obtain ⟨A, c, xs, rfl, h1, h2, h3⟩ := open_row ht hsz ho h
  exact ⟨xs, ⟨A, c, rfl, h1, h2⟩, h3⟩

/-- An argument that is a slice. -/
theorem open_arg {α : Type} {r : Reach} {b0 : Nat} {t e : TypeId} {d : Kd α} {wf : α → Prop} {v : Value} {x : DataW H} {ps : List MemPlace} (ht : Tryd.prog.underlying t = some (.slice e)) (hsz : Tryd.prog.cellsOf e = d.sz) (ho : OpensAs enc W e d wf)
    (hval : Value.okWide Tryd.prog W r b0 t v) (h : DataW.Trod enc Tryd.prog W 0 (fun _ => true) true t v x ps) :
    ∃ A c xs, v = .slice A xs.length c ∧ xs.length ≤ c ∧ Kd.C d W A xs.length xs ∧ ∀ y ∈ xs, wf y := by
  obtain ⟨a, len, cap, rfl⟩ := okWide_slice ht hval
  obtain ⟨fuel, hf⟩ := h
  obtain ⟨A, c, xs, hcs, h1, h2, h3⟩ := open_row ht hsz ho hf
  simp only [Value.cells] at hcs
  obtain ⟨rfl, rfl, rfl⟩ : a = A ∧ len = xs.length ∧ cap = c := by simpa using hcs
  exact ⟨a, cap, xs, rfl, h1, h2, h3⟩

theorem opens_ints : OpensAs enc W 27 (Kd.slice 51 (Kd.int .u64)) (fun xs => ∀ y ∈ xs, (Lit.int .u64 y).wf = true) := opens_slice _ Tryd.underlying27 (by kernel_rfl) (opens_int Tryd.underlying51)
end
end Go.Proofs.YtcldjdngfmakbaaDoor
