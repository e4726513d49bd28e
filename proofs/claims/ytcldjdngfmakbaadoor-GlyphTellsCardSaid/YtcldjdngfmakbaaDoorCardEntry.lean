/-
  An argument that is a row of entries, opened: each number in its range, no row longer than its weight allows.
-/
import Derived.Test.YtcldjdngfmakbaaDoorCardOpen
namespace Go.Proofs.YtcldjdngfmakbaaDoor
open Go.ChangeShapes Go.WideShapes Go.ChangeAt Go.RowKit Go.Proofs.YtcldjdngfmakbaaDoorW.PrintWords Go.Proofs.YtcldjdngfmakbaaDoor.G
set_option maxRecDepth 100000

structure Entry_ok (x : S33) : Prop where
  op : (Lit.int .i32 x.f0).wf = true
  len : x.f1.length ≤ 140737488351232
  args : ∀ y ∈ x.f1, (Lit.int .u64 y).wf = true
  at_ : (Lit.int .i64 x.f3).wf = true

section
variable {H : Type} {enc : TypeId × Value → H} {W : World}
def OpensW {α : Type} (enc : TypeId × Value → H) (W : World) (e : TypeId) (d : Kd α) (wf : α → Prop) : Prop :=
  ∀ fuel cs x, DataW.trod enc Tryd.prog W 0 (fun _ => true) true fuel e cs = some x → (∀ n ∈ x.1.weights Tryd.prog e, n ≤ reachBytes) → ∃ a, d.K W a cs ∧ wf a

theorem opensW_u64s : OpensW enc W 27 (Kd.slice 51 (Kd.int .u64)) (fun xs => xs.length ≤ 140737488351232 ∧ ∀ y ∈ xs, (Lit.int .u64 y).wf = true) := by
  intro fuel cs x h hw
  have hb : Tryd.prog.bytesOf 51 = 8 := by kernel_rfl
  rcases Deep.open_slice Tryd.underlying27 h with ⟨rfl, _⟩ | ⟨a, len, cap, m, n, D, Pl, rfl, _, hl, hm, rfl, hx, hel⟩
  · obtain ⟨xs, hK, hwf⟩ := opens_ints fuel _ _ h
    refine ⟨xs, hK, ?_, hwf⟩
    obtain ⟨A, c, hc, _, _⟩ := hK
    have : xs.length = 0 := by
      injection hc with hc _
      injection hc with _ h2 _
      exact h2.symm
    omega
  · obtain ⟨xs, hK, hwf⟩ := opens_ints fuel _ _ h
    refine ⟨xs, hK, ?_, hwf⟩
    obtain ⟨A, c, hc, _, _⟩ := hK
    have h2 : len = xs.length := by
      injection hc with hc _
      injection hc
    subst hx
    have z := hw _ (by
      simp only [DataW.weights, Tryd.underlying27]
      exact List.mem_cons_self ..)
    rw [hb, List.length_map, List.length_range] at z
    have : reachBytes = 140737488351232 := rfl
    omega

theorem weightsEach_nth {P : Program} {ts : List TypeId} {ds : List (DataW H)} {j : Nat} {t : TypeId} {d : DataW H} (ht : ts[j]? = some t) (hd : ds[j]? = some d) (h : ∀ n ∈ DataW.weightsEach P ts ds, n ≤ reachBytes) : ∀ n ∈ d.weights P t, n ≤ reachBytes :=
  fun n hn => h n (DataW.weights_mem_each ht hd n hn)

theorem opensW_entry : OpensW enc W 33 k33 Entry_ok := by
  intro fuel cs x h hw
  obtain ⟨fs, hfs, hu⟩ : ∃ fs : Array Field, (fs.toList.map (fun f => (f.type, f.offset)) = [(21, 0), (27, 1), (4, 2), (3, 3)]) ∧ Tryd.prog.underlying 33 = some (.struct fs) :=
    ⟨_, by kernel_rfl, Tryd.underlying33⟩
  obtain ⟨xs, n, rfl, rfl, hl, hlen, hf⟩ := DataW.trod_struct hu h
  have hsz : fs.size = 4 := by
    have := congrArg List.length hfs
    simpa using this
  have hty : ∀ (i : Nat) (t : TypeId) (o : Nat), [(21, 0), (27, 1), (4, 2), (3, 3)][i]? = some (t, o) → ∃ f, fs[i]? = some f ∧ f.type = t ∧ f.offset = o := by
    intro i t o hi
    rw [← hfs, List.getElem?_map] at hi
    obtain ⟨f, h1, h2⟩ := Option.map_eq_some_iff.1 hi
    injection h2 with h3 h4
    exact ⟨f, by rw [← h1]; simp, h3, h4⟩
  have c4 : Tryd.prog.cellsOf 33 = 4 := by kernel_rfl
  have cI : Tryd.prog.cellsOf 21 = 1 := by kernel_rfl
  have cS : Tryd.prog.cellsOf 27 = 1 := by kernel_rfl
  have cB : Tryd.prog.cellsOf 4 = 1 := by kernel_rfl
  have cA : Tryd.prog.cellsOf 3 = 1 := by kernel_rfl
  rw [c4] at hl
  rw [hsz] at hlen
  match cs, hl, xs, hlen, hf, hw with
  | [u0, u1, u2, u3], _, [y0, y1, y2, y3], _, hf, hw =>
    obtain ⟨f0, g0, t0, o0⟩ := hty 0 _ _ rfl
    obtain ⟨f1, g1, t1, o1⟩ := hty 1 _ _ rfl
    obtain ⟨f2, g2, t2, o2⟩ := hty 2 _ _ rfl
    obtain ⟨f3, g3, t3, o3⟩ := hty 3 _ _ rfl
    have e0 := hf 0 f0 g0
    have e1 := hf 1 f1 g1
    have e2 := hf 2 f2 g2
    have e3 := hf 3 f3 g3
    rw [t0, o0, cI] at e0
    rw [t1, o1, cS] at e1
    rw [t2, o2, cB] at e2
    rw [t3, o3, cA] at e3
    have e0' : DataW.trod enc Tryd.prog W 0 (fun _ => true) true n 21 [u0] = some y0 := e0
    have e1' : DataW.trod enc Tryd.prog W 0 (fun _ => true) true n 27 [u1] = some y1 := e1
    have e2' : DataW.trod enc Tryd.prog W 0 (fun _ => true) true n 4 [u2] = some y2 := e2
    have e3' : DataW.trod enc Tryd.prog W 0 (fun _ => true) true n 3 [u3] = some y3 := e3
    have hw1 : ∀ q ∈ y1.1.weights Tryd.prog 27, q ≤ reachBytes := by
      refine weightsEach_nth (ts := fs.toList.map (·.type)) (ds := [y0.1, y1.1, y2.1, y3.1]) (j := 1) ?_ rfl ?_
      · rw [List.getElem?_map]
        have : fs.toList[1]? = some f1 := by rw [← g1]; simp
        rw [this, ← t1]
        rfl
      · intro q hq
        refine hw q ?_
        simp only [DataW.weights, hu]
        exact hq
    obtain ⟨z0, q0, _, w0⟩ := DataW.trod_int Tryd.underlying21 e0'
    obtain ⟨z1, ⟨A, c, q1, hc, hC⟩, w1, w1'⟩ := opensW_u64s n _ _ e1' hw1
    obtain ⟨z2, q2, _⟩ := DataW.trod_bool Tryd.underlying4 e2'
    obtain ⟨z3, q3, _, w3⟩ := DataW.trod_int Tryd.underlying3 e3'
    refine ⟨⟨z0, z1, z2, z3⟩, ?_, ⟨w0, w1, w1', w3⟩⟩
    have : [u0, u1, u2, u3] = [.int .i32 z0, .slice A z1.length c, .bool z2, .int .i64 z3] := by
      injection q0 with q0
      injection q1 with q1
      injection q2 with q2
      injection q3 with q3
      rw [q0, q1, q2, q3]
    rw [this]
    exact k33_mk W ⟨z0, z1, z2, z3⟩ hc hC

/-- An argument that is a row of entries. -/
theorem open_entries {r : Reach} {b0 : Nat} {v : Value} {x : DataW H} {ps : List MemPlace} (hval : Value.okWide Tryd.prog W r b0 25 v) (h : DataW.Trod enc Tryd.prog W 0 (fun _ => true) true 25 v x ps)
    (hw : ∀ n ∈ x.weights Tryd.prog 25, n ≤ reachBytes) : ∃ A c xs, v = .slice A xs.length c ∧ xs.length ≤ c ∧ Kd.C k33 W A xs.length xs ∧ ∀ y ∈ xs, Entry_ok y := by
  obtain ⟨a, len, cap, rfl⟩ := okWide_slice Tryd.underlying25 hval
  obtain ⟨fuel, hf⟩ := h
  simp only [Value.cells] at hf
  rcases Deep.open_slice Tryd.underlying25 hf with ⟨hcs, _⟩ | ⟨a', len', m, m', n, D, Pl, hcs, _, hl, hm, hm', hx, hel⟩
  · obtain ⟨rfl, rfl, rfl⟩ : a = none ∧ len = 0 ∧ cap = 0 := by simpa using hcs
    exact ⟨none, 0, [], rfl, Nat.le_refl _, ⟨rfl, by simp, fun h => absurd h (by simp)⟩, fun y hy => by cases hy⟩
  obtain ⟨rfl, rfl, rfl⟩ : a = some a' ∧ len = len' ∧ cap = m := by simpa using hcs
  have hmm : m' = cap := hm'
  injection hx with hx _
  subst hx
  have hwD : ∀ i, i < len → ∀ q ∈ (D i).weights Tryd.prog 33, q ≤ reachBytes := by
    intro i hi q hq
    refine hw q ?_
    simp only [DataW.weights, Tryd.underlying25]
    refine List.mem_cons_of_mem _ (List.mem_append_left _ ?_)
    have key : ∀ (ds : List (DataW H)) (d : DataW H), d ∈ ds → q ∈ d.weights Tryd.prog 33 → q ∈ DataW.weightsAll Tryd.prog 33 ds := by
      intro ds
      induction ds with
      | nil => intro d hd _; cases hd
      | cons d0 ds ih =>
        intro d hd hq
        rw [DataW.weightsAll, List.mem_append]
        rcases List.mem_cons.1 hd with rfl | h
        · exact .inl hq
        · exact .inr (ih d h hq)
    exact key _ (D i) (List.mem_map.2 ⟨i, List.mem_range.2 hi, rfl⟩) hq
  have c4 : Tryd.prog.cellsOf 33 = 4 := by kernel_rfl
  obtain ⟨xs, hlen, hxs⟩ := choose_list (Q := fun i y => ∃ cs', W.cells? 0 (a'.add (i * Tryd.prog.cellsOf 33)) (Tryd.prog.cellsOf 33) = some cs' ∧ k33.K W y cs' ∧ Entry_ok y) len (fun i hi => by
    obtain ⟨cs', h1, h2⟩ := hel i (show i < m' by omega)
    obtain ⟨y, h3, h4⟩ := opensW_entry _ _ _ h2 (hwD i hi)
    exact ⟨y, cs', h1, h3, h4⟩)
  refine ⟨some a', cap, xs, by rw [hlen], by omega, ⟨rfl, ?_, fun _ => ⟨a', rfl, fun j y hj => ?_⟩⟩, fun y hy => ?_⟩
  · have : maxLen = 9223372036854775807 := rfl
    omega
  · obtain ⟨cs', h1, h2, _⟩ := hxs j y hj
    obtain ⟨_, h3, h4⟩ := World.cells?_some h1
    refine ⟨cs', by rw [h3, c4]; rfl, h2, fun i u hu => ?_⟩
    have hi : i < Tryd.prog.cellsOf 33 := by rw [← h3]; exact (List.getElem?_eq_some_iff.1 hu).1
    have := h4 i hi
    rw [hu] at this
    rw [← this, add_twice, c4]
    rfl
  · obtain ⟨i, hi⟩ := List.mem_iff_getElem?.1 hy
    obtain ⟨_, _, _, h5⟩ := hxs i y hi
    exact h5
end
end Go.Proofs.YtcldjdngfmakbaaDoor
