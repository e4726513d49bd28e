/-
  slices.Clone of a row of uint64s: a row of its own that reads the same.
-/
import Derived.Test.YtcldjdngfmakbaaDoorProg
import Derived.Test.YtcldjdngfmakbaaDoorWWords
import Derived.Lib.Hide
import Derived.WalkKit
import Derived.WalkSpells
import Derived.OwnWalk
import Derived.BigCall
namespace Go.Proofs.YtcldjdngfmakbaaDoor
open Go.RowKit Go.Proofs.YtcldjdngfmakbaaDoorW.PrintWords
set_option linter.unusedVariables false
set_option linter.unusedSimpArgs false

theorem infoU64c_ : (Tryd.prog.info? 51).map (fun i => (i.zero, i.size, i.bytes)) = some (some (.int .u64 0), 1, 8) := by kernel_rfl

set_option maxHeartbeats 4000000 in
set_option maxRecDepth 100000 in
theorem clone_walk (A : Option Addr) (c : Nat) (xs : List Int) (w : World) (hr : (Kd.int .u64).C w A xs.length xs) (hc : xs.length ≤ c) (hl : xs.length * 8 ≤ 140737488355328) :
    Calls Tryd.prog 24 #[.slice A xs.length c] w fun e w' => ∃ v, e = .returned v ∧ w'.ownsRow w.heap.size 51 1 v xs.length (nums .u64 xs) ∧ Below w.heap.size w w' := by
  cases A with
  | none =>
    have hx0 : xs.length = 0 := by
      rcases Nat.eq_zero_or_pos xs.length with h | h
      · exact h
      · obtain ⟨ad, c, e, _⟩ := Kd.C_get hr 0 0 (by omega) (by omega)
        cases e
    have hE : xs = [] := List.eq_nil_of_length_eq_zero hx0
    have HE := Lib.hid hE
    clear hx0 hE
    have hn : ∀ W, (binOp .eql 27 (.slice none xs.length c) (.slice none 0 0)).run Tryd.prog W = .ok (.bool true) W := fun W => Lib.run_eql_slice_nil (P := Tryd.prog) W 27 51 none xs.length c 0 0 Tryd.underlying27
    go_enter Tryd.func24, Tryd.ntmps24
    go_wp2_with fail
    go_ret
    refine ⟨_, rfl, ?_, Below.refl _ _⟩
    rw [HE.out]
    exact World.ownsRow_nil _ _ _ _
  | some ad =>
    obtain ⟨i0, hi, hz0, hz1, hz2⟩ := info_parts infoU64c_
    have hn : ∀ W, (binOp .eql 27 (.slice (some ad) xs.length c) (.slice none 0 0)).run Tryd.prog W = .ok (.bool false) W := fun W => Lib.run_eql_slice_nil (P := Tryd.prog) W 27 51 (some ad) xs.length c 0 0 Tryd.underlying27
    have hcells : ∀ j u, (nums .u64 xs)[j]? = some u → w.cell? (ad.add j) = some u := fun j u hj => by
      simp only [nums, List.getElem?_map] at hj
      obtain ⟨x, hx, rfl⟩ := Option.map_eq_some_iff.1 hj
      have hlt : j < xs.length := (List.getElem?_eq_some_iff.1 hx).1
      obtain ⟨ad', c', e, _, hK, hat⟩ := Kd.C_get hr 0 (j : Int) (by omega) (by omega)
      injection e with e
      subst e
      have hK' : c' = [Value.int .u64 (xs.getD (j : Int).toNat 0)] := hK
      have := hat 0 (Value.int .u64 (xs.getD (j : Int).toNat 0)) (by rw [hK']; rfl)
      have e1 : (Kd.int IntKind.u64).sz = 1 := rfl
      simp only [Int.toNat_natCast, e1, Nat.mul_one, Nat.add_zero] at this
      rw [this]
      simp [List.getD, hx]
    have hown0 : (w.alloc (.cells #[] 51)).ownsRow w.heap.size 51 1 (.slice (some ⟨w.heap.size, 0, none⟩) 0 0) 0 [] := World.ownsRow_made w #[] 0 (Nat.le_refl _) (by simp) (by simp)
    have hcells1 : ∀ j u, (nums .u64 xs)[j]? = some u → (w.alloc (.cells #[] 51)).cell? (ad.add j) = some u := fun j u hj => by
      have h1 := hcells j u hj
      exact (World.cell?_alloc_lt w _ _ (World.block_lt_of_cell? w _ h1)).trans h1
    have HC := Lib.hid hcells1
    clear hcells hcells1
    go_enter Tryd.func24, Tryd.ntmps24
    go_wp2_with (at_builtin; refine wpList_append_own _ rfl _ _ 27 rfl w.heap.size 51 i0 (.int .u64 0) 1 8 Tryd.underlying27 hi hz0 hz1 hz2 rfl (by decide) _ _ _ rfl hown0 ad xs.length c (nums .u64 xs) rfl ?c0 HC.out ?c2 ?c3 ?c4 ?c5 ?_)
    case c0 => simp [nums]
    case c2 => intro y hy; simp only [nums, List.mem_map] at hy; obtain ⟨x, _, rfl⟩ := hy; rfl
    case c3 => unfold maxLen; omega
    case c4 => omega
    case c5 => simp
    intro v' w1 hown1 hg _
    go_wp2_with fail
    go_ret
    refine ⟨_, rfl, by simpa using hown1, ?_⟩
    exact ((Below.refl _ w).alloc (Nat.le_refl _) _).grown hg (by simp) (fun k hk => by simp [Value.ownBlock] at hk; omega)
end Go.Proofs.YtcldjdngfmakbaaDoor
