/-
  Proved: RunnerFirst answers true and leaves its arguments as they were, for every input; where the package-level variables that the row lists hold what the program's text lays (the card ties that).
-/
import Derived.Test.YtgdoeoackhfikaaGreatDoorRE1
import Derived.Test.YtgdoeoackhfikaaGreatDoorRE2
import Derived.Test.YtgdoeoackhfikaaGreatDoorRE3
import Derived.Test.YtgdoeoackhfikaaGreatDoorRE4
import Derived.Test.YtgdoeoackhfikaaGreatDoorRE5
import Derived.Test.YtgdoeoackhfikaaGreatDoorRE6
import Derived.Test.YtgdoeoackhfikaaGreatDoorRE7
import Derived.Test.YtgdoeoackhfikaaGreatDoorRE8
import Derived.Test.YtgdoeoackhfikaaGreatDoorRE9
import Derived.Test.YtgdoeoackhfikaaGreatDoorRE10
import Derived.Test.YtgdoeoackhfikaaGreatDoorRE11
import Derived.Test.YtgdoeoackhfikaaGreatDoorRE12
import Derived.Test.YtgdoeoackhfikaaGreatDoorRE13
import Derived.Test.YtgdoeoackhfikaaGreatDoorRE14
import Derived.Below
import Derived.Deep.Draws
import Derived.Deep.AppendLies
import Derived.Maps.AppendAt
import Derived.OwnWalk
import Derived.Laws.BytesArg
import Derived.Laws.MakeOwn
import Derived.Laws.OwnMore
import Derived.Deep.OwnRows
import Derived.Tactics
import Derived.Lib.ConvBytes
import Derived.Laws.Slices
import Derived.WalkKit
import Derived.KernelRfl
import Derived.RowKit3
import Derived.Deep.LoopGhost
import Derived.Deep.QuietTactic
import Derived.BigQuiet
import Derived.WideLaws
import Derived.Deep.DeepCutAuto
import Derived.Deep.CutBlock
import Derived.Deep.RegionHeld3
import Derived.Laws.Rows
import Derived.Lib.AppendStr
import Derived.ArgAppend
import Derived.Laws.IdiomCopy
import Derived.RowKit
namespace Go.Proofs.YtgdoeoackhfikaaGreatDoorW.PrintWords
set_option linter.unusedVariables false
set_option linter.unusedSimpArgs false
open Go.RowKit

/-! ### 1. Values and lists -/
/-! ### 2. The world -/
/-! ### 3. A slice of whole numbers that is read; nil, empty and other slices alike -/
/-! ### 4. A row of the call's own -/
/-! ### 5. append(v, x): behind 'at_builtin'; the goal's world is 'W.alloc' of the variadic's box -/
section
variable {P : Program} {ops : Array Oper} {rest : List Oper} {o : Oper} {a : Act} {Q : Exit → Act → World → Prop}

end

/-! ### 6. make([]T, n), n an Int; a literal -/
section
variable {P : Program}
end
/-! ### 7. v[i] read and v[i] = x, v a row of the call's own: 'obtain ⟨g, cap, rfl, hgb, hgl⟩ := HO.out.form (by omega)' first -/
/-! ### 8. append(v, ys...): ys a slice that is read, nil let in; behind 'at_builtin' -/
section
variable {P : Program} {ops : Array Oper} {rest : List Oper} {o : Oper} {a : Act} {Q : Exit → Act → World → Prop}
end

/-! ### 9. []byte(s): a slice that is read (its row bears a conversion's mark: no row of one's own); cuts of a slice that is read -/
/-! ### 10. Rounds: more rounds give the same answer; what ends gives a number of rounds -/
/-! ### 11. Rows of elements of several cells (structs): read, made. R: what an element's cells say ('RepItem w': printed for each type) -/
section
variable {P : Program} {ops : Array Oper} {rest : List Oper} {o : Oper} {a : Act} {Q : Exit → Act → World → Prop}
end

/-! ### 12. A block of one's own that is a state: its cells, what a store leaves -/
/-! ### 13. Two states at once: what a call on the state at block g (its row before: 'row') has turned -/
/-! ### 10b. From some number of rounds on -/
/-! ### 14. append as_ one step of a region that draws its order: for 'go_region_law' (and a region walked by hand) -/
section
variable {P : Program} {ops : Array Oper} {o : Oper} {a : Act} {Q : Exit → Act → World → Prop} {K : Act → World → Prop}
end
/-! ### 15. A row's base may be lowered -/
/-! ### 16. Parts 3 to 9 for ANY element of one cell: 'enc' (Value.int k, Value.string, Value.bool), a default 'd' -/
section
variable {α : Type} {enc : α → Value} {d : α}
end
section
variable {α : Type} {P : Program} {ops : Array Oper} {rest : List Oper} {o : Oper} {a : Act} {Q : Exit → Act → World → Prop}
end

/-! ### 17. Rows of one element type held at once: no two share a block -/
/-! ### 18. A block behind a new one; behind a draw -/
/-! ### 19. Results that lie in memory beside others -/
section
variable {P : Program}
end
/-! ### 20. Rows of elements of any kind: R is what an element's cells say -/
section
variable {α : Type} {R R' : α → List Value → Prop} {e : TypeId} {size : Nat} {w w1 : World} {base : Nat} {v : Value} {ps : List α}
end
section
variable {P : Program} {ops : Array Oper} {rest : List Oper} {o : Oper} {a : Act} {Q : Exit → Act → World → Prop} {α : Type} {R : α → List Value → Prop}
end
section
variable {P : Program} {ops : Array Oper} {o : Oper} {a : Act} {Q : Exit → Act → World → Prop} {K : Act → World → Prop} {α : Type} {R : α → List Value → Prop}
end
/-! ### 21. Cuts of a slice that came in, lengths spelled as_ the lists' -/
section
variable {α : Type} {P : Program}
end

/-! ### 22. append([]byte, s...), s a string; behind 'at_builtin'. (No word on where the new row lies: two rows of bytes at once don't go by it.) -/
section
variable {P : Program} {ops : Array Oper} {rest : List Oper} {o : Oper} {a : Act} {Q : Exit → Act → World → Prop}
end
/-! ### 23. KINDS: what a value's cells say, read (K) and made (M), kind by kind; every mover proved once -/
namespace Kd
section
variable {α : Type} {d : Kd α} {e : Nat} {w w1 : World} {base : Nat} {ok ok' : Nat → Prop} {v : Value} {xs : List α}
end

/-! #### the kinds -/
/-! #### an element of a row that is read; an element appended -/
section
variable {P : Program} {ops : Array Oper} {rest : List Oper} {o : Oper} {a : Act} {Q : Exit → Act → World → Prop} {α : Type}
end
section
variable {P : Program} {ops : Array Oper} {o : Oper} {a : Act} {Q : Exit → Act → World → Prop} {Kc : Act → World → Prop} {α : Type}
end
end Kd
/-! ### 24. Kinds nested in themselves -/
namespace Kd
section
variable {α : Type} {F : Kd α → Kd α} {sz : Nat} {E : List Nat} {hs : ∀ n, (upto F sz E n).sz = sz} {hE : ∀ n q, q ∈ (upto F sz E n).E → q ∈ E}
end
end Kd
/-! ### 25. What is held while another row is written: 'ok' says that its rows are none of that row's block -/
namespace Kd
end Kd
/-! ### 26. Words for a printer that takes every slice by its kind -/
namespace Kd
section
variable {α β : Type} {d : Kd α} {d' : Kd β} {e e' : Nat} {w w1 W : World} {base b b' : Nat} {ok ok' okv oku : Nat → Prop} {v u : Value} {xs : List α} {ys : List β}
theorem fresh_ok (hu : d'.R e' W b oku u ys) : ∀ k, W.heap.size ≤ k → some k ≠ u.ownBlock := fun k hk he => by have := R_lt hu k he.symm; omega
end
/-! #### scalars -/
section
variable {w W : World} {A : Option Addr} {n : Nat}
variable {α : Type} {enc : α → Value} {h1 : ∀ x, (enc x).oneCell' = true} {e base g cap : Nat} {ok : Nat → Prop} {xs : List α}
end

/-! #### events: a letter for what make and a literal leave -/
section
variable {P : Program} {ops : Array Oper} {rest : List Oper} {o : Oper} {a : Act} {Q : Exit → Act → World → Prop}
variable {α : Type}
end
end Kd
/-! ### 27. Cuts of a row of one's own: 'xs = xs[:n]' stays a row (R_take); 'xs = xs[k:]' is a row that begins inside its block (Kd.Q), append goes on it too -/
section
variable {P : Program}
end
section
variable {w w1 : World} {base n size : Nat} {e : TypeId} {v : Value} {xs : List Value}
end
section
variable {P : Program}
end
/-! ### 28. The kinds' words for cuts: R_take; Q (a row that may begin inside its block) with all of R's movers -/
namespace Kd
section
variable {α : Type} {d : Kd α} {e : Nat} {w w1 W : World} {base : Nat} {ok ok' : Nat → Prop} {v : Value} {xs : List α}
end
section
variable {P : Program} {ops : Array Oper} {rest : List Oper} {o : Oper} {a : Act} {Q' : Exit → Act → World → Prop} {Kc : Act → World → Prop} {α : Type}
end
end Kd
/-! ### 29. Movers that ask of another row no more than they need: for R and for Q -/
namespace Kd
section
variable {α : Type} {d : Kd α} {e e' : Nat} {w w1 W : World} {base : Nat} {ok : Nat → Prop} {u v : Value} {xs : List α}
end
end Kd
/-! ### 30. Elements written: x[i] = T{..}, x[i].f = v, swaps, in a row of elements of any kind -/
namespace Kd
section
variable {α : Type} {d : Kd α} {e base g n cap : Nat} {ok okp : Nat → Prop} {W : World} {xs : List α}
end
end Kd
/-! ### 31. What came in, put into what is made: 'fixed d w0' (read in w0, whatever happens since), 'or_ a b', 'mix' (a slice that came in, or one that is made) -/
namespace Kd
section
variable {α : Type} {F : Kd α → Kd α} {sz : Nat} {E : List Nat} {hs : ∀ n, (upto F sz E n).sz = sz} {hE : ∀ n q, q ∈ (upto F sz E n).E → q ∈ E}
end
end Kd
/-! ### 32. A whole row appended, of elements of any kind; copy onto a row of scalars of one's own -/
namespace Kd
section
variable {P : Program} {ops : Array Oper} {rest : List Oper} {o : Oper} {a : Act} {Q : Exit → Act → World → Prop} {α : Type}
end
end Kd
/-! ### 33. A store into a row of one's own, as_ an event: no go_simp -/
namespace Kd
section
variable {P : Program} {ops : Array Oper} {rest : List Oper} {o : Oper} {a : Act} {Q : Exit → Act → World → Prop} {α : Type}
end
end Kd
/-! ### 34. Cuts that are only read, of any row -/
namespace Kd
section
variable {α : Type} {k : Kd α} {w : World} {A : Option Addr} {xs : List α} {m c : Nat}
end
end Kd
section
variable {P : Program}
end
/-! ### 35. string(b), b read (a cut too) -/
/-! ### 6. What the printer adds -/
namespace Kd
section
variable {α β : Type} {d : Kd α} {d' : Kd β} {e e' base base' n : Nat} {ok ok' : Nat → Prop} {w W w1 W1 : World} {v u : Value} {xs : List α} {ys : List β} {A : Option Addr} {c : Nat}
end
section
variable {α : Type} {enc : α → Value} {h1 : ∀ x, (enc x).oneCell' = true} {w W : World} {A : Option Addr} {n g : Nat} {xs : List α}
end
end Kd
namespace Kd
section
variable {α : Type} {d : Kd α} {e base g : Nat} {ok : Nat → Prop} {w w1 : World} {v : Value} {xs : List α} {o : Obj}
end
end Kd
section
variable {P : Program} {ops : Array Oper} {rest : List Oper} {o : Oper} {a : Act} {Q : Exit → Act → World → Prop}
end
namespace Kd
section
variable {α : Type} {enc : α → Value} {h1 : ∀ x, (enc x).oneCell' = true} {e base g n cap : Nat} {ok : Nat → Prop} {W : World} {xs : List α}
end
end Kd
section
variable {P : Program} {ops : Array Oper} {rest : List Oper} {o : Oper} {a : Act} {Q : Exit → Act → World → Prop}
end
namespace Kd
section
variable {α : Type} {enc : α → Value} {h1 : ∀ x, (enc x).oneCell' = true} {e base g n cap : Nat} {ok : Nat → Prop} {W : World} {xs : List α}
end
end Kd
section
variable {P : Program} {ops : Array Oper} {rest : List Oper} {o : Oper} {a : Act} {Q : Exit → Act → World → Prop} {W : World}
end
/-! ### 36. Events as_ one step of a region that draws (for one_, two_, three_) -/
section
variable {P : Program} {ops : Array Oper} {o : Oper} {a : Act} {Q : Exit → Act → World → Prop} {Kc : Act → World → Prop}
namespace Kd
variable {α : Type}
end Kd
end
/-! ### 37. Results of any shape -/
section
variable {P : Program} {tmps : Array Value} {w : World}
end
/-! ### 38. 'out = append(out[:k], out[k+1:]...)': an element taken out of a row of one's own, in place -/
namespace Kd
section
variable {P : Program} {α : Type}
end
section
variable {P : Program} {ops : Array Oper} {rest : List Oper} {o : Oper} {a : Act} {Q : Exit → Act → World → Prop} {Kc : Act → World → Prop} {α : Type}
end
end Kd

end Go.Proofs.YtgdoeoackhfikaaGreatDoorW.PrintWords

namespace Go.Proofs.YtgdoeoackhfikaaGreatDoorW.PrintWords
set_option linter.unusedVariables false
set_option linter.unusedSimpArgs false
theorem Reps.c10 {α : Type} {R : α → List Value → Prop} {ps : List α} {cs : List Value} {p : α} {va vb vc vd ve vf vg vh vi vj : Value} (hp : R p [va, vb, vc, vd, ve, vf, vg, vh, vi, vj]) (h : Reps R 10 ps cs) : Reps R 10 (p :: ps) (va :: vb :: vc :: vd :: ve :: vf :: vg :: vh :: vi :: vj :: cs) := Reps.front hp rfl h rfl
end Go.Proofs.YtgdoeoackhfikaaGreatDoorW.PrintWords

namespace Go.Proofs.YtgdoeoackhfikaaGreatDoor
open Go.RowKit Go.Proofs.YtgdoeoackhfikaaGreatDoorW.PrintWords
set_option maxRecDepth 100000
set_option maxHeartbeats 4000000
set_option linter.unusedSimpArgs false
set_option linter.unusedVariables false
attribute [local go_sem] hs_other hs_alloc hs_falloc
attribute [local go_sem ↓] Go.wp_at_zero Go.wp_at_succ

theorem mem_Count (w : World) (b : MB) (σ : MemS) (h : MemAt w b σ) :
    Calls Tryz.prog 26 #[.pointer (some ⟨b.m, 0, none⟩)] w fun e w' => e = .returned (.int .i64 σ.notes.length) ∧ w = w' := by
  have c1 := h.c1
  have hn := h.notes
  obtain ⟨m, g, cap, nv⟩ := b
  simp only at c1 hn
  rcases hn.2 with ⟨rfl, h0⟩ | ⟨g', cap', cur, rfl, _, _, _, _, _, _⟩
  · rw [h0]
    clear hn h0
    go_enter Tryz.func26, Tryz.ntmps26
    go_wp2
    go_ret
    exact ⟨rfl, rfl⟩
  · clear hn
    go_enter Tryz.func26, Tryz.ntmps26
    go_wp2
    go_ret
    exact ⟨rfl, rfl⟩
end Go.Proofs.YtgdoeoackhfikaaGreatDoor

namespace Go.Proofs.YtgdoeoackhfikaaGreatDoor
open Go.RowKit Go.Proofs.YtgdoeoackhfikaaGreatDoorW.PrintWords
set_option maxRecDepth 100000
set_option maxHeartbeats 2000000
set_option linter.unusedSimpArgs false
set_option linter.unusedVariables false
attribute [local go_sem] hs_other hs_alloc hs_falloc
attribute [local go_sem ↓] Go.wp_at_zero Go.wp_at_succ

/-- The words, in a row of their own. -/
theorem mem_Words (w : World) (b : MB) (σ : MemS) (h : MemAt w b σ) :
    Calls Tryz.prog 25 #[.pointer (some ⟨b.m, 0, none⟩)] w fun e w' => ∃ v', e = .returned v' ∧ w'.ownsRow w.heap.size 33 1 v' σ.words.length (nums .u64 σ.words) ∧ Kp (fun _ => False) w w' := by
  have hcl := clone_u64 w 0 _ σ.words.length (nums .u64 σ.words) h.words (nums_one _ _) (by have := h.few; omega)
  have c0 := h.c0
  clear h
  go_enter Tryz.func25, Tryz.ntmps25
  go_wp2_with fail
  refine hcl.mono ?_
  rintro e w1 ⟨v', rfl, hr1, hb1⟩
  obtain ⟨A, cc, rfl⟩ := row_slice hr1
  have HR := Lib.hid hr1
  clear hr1
  go_wp2_with fail
  go_ret
  exact ⟨_, rfl, HR.out, Kp.nb hb1⟩
end Go.Proofs.YtgdoeoackhfikaaGreatDoor

namespace Go.Proofs.YtgdoeoackhfikaaGreatDoor
open Go.RowKit Go.Proofs.YtgdoeoackhfikaaGreatDoorW.PrintWords
set_option maxRecDepth 100000
set_option maxHeartbeats 2000000
set_option linter.unusedSimpArgs false
set_option linter.unusedVariables false
attribute [local go_sem] hs_other hs_alloc hs_falloc
attribute [local go_sem ↓] Go.wp_at_zero Go.wp_at_succ

theorem sched_Mem (w : World) (s m r g n : Nat) (picks : Int) (hs : SchedC w s m r g n picks) :
    Calls Tryz.prog 24 #[.pointer (some ⟨s, 0, none⟩)] w fun e w' => e = .returned (.pointer (some ⟨m, 0, none⟩)) ∧ w' = w := by
  obtain ⟨q, _, _⟩ := obj_cells hs
  have c0 : w.cell? ⟨s, 0, none⟩ = some (.pointer (some ⟨m, 0, none⟩)) := q 0
  clear q
  go_enter Tryz.func24, Tryz.ntmps24
  go_wp2
  go_ret
  exact ⟨rfl, rfl⟩
theorem sched_Picks (w : World) (s m r g n : Nat) (picks : Int) (hs : SchedC w s m r g n picks) :
    Calls Tryz.prog 29 #[.pointer (some ⟨s, 0, none⟩)] w fun e w' => e = .returned (.int .i64 picks) ∧ w' = w := by
  obtain ⟨q, _, _⟩ := obj_cells hs
  have c0 : w.cell? ⟨s, 3, none⟩ = some (.int .i64 picks) := q 3
  clear q
  go_enter Tryz.func29, Tryz.ntmps29
  go_wp2
  go_ret
  exact ⟨rfl, rfl⟩
end Go.Proofs.YtgdoeoackhfikaaGreatDoor

namespace Go.Proofs.YtgdoeoackhfikaaGreatDoor
open Go.RowKit Go.Proofs.YtgdoeoackhfikaaGreatDoorW.PrintWords
set_option linter.unusedVariables false
set_option linter.unusedSimpArgs false

theorem packWord_f (i t : Int) (hi : 0 ≤ i ∧ i < 4294967296) (ht : 0 ≤ t ∧ t < 4294967296) : G.pack_Word.f i t = some (wordOf i t) := by
  unfold G.pack_Word.f
  have w : ∀ z : Int, 0 ≤ z → z < 18446744073709551616 → IntKind.u64.wrap z = z := fun z h1 h2 => by
    have : IntKind.u64.wrap z = z % 18446744073709551616 := by simp [IntKind.wrap, IntKind.bits, IntKind.signed]
    rw [this]; omega
  rw [w i (by omega) (by omega), w t (by omega) (by omega), w (t * 4294967296) (by omega) (by omega), or_halves i t hi ht]
def inU64 (l : List Int) : Prop := ∀ z ∈ l, 0 ≤ z ∧ z < 18446744073709551616
theorem inU64_set {l : List Int} (h : inU64 l) (k : Nat) {z : Int} (hz : 0 ≤ z ∧ z < 18446744073709551616) : inU64 (l.set k z) := fun y hy => by
  rcases List.mem_or_eq_of_mem_set hy with h1 | h1
  · exact h y h1
  · rw [h1]; exact hz
theorem fresh_l1 (c : LCfg) (hc : c.right) (ht : 0 ≤ c.tag ∧ c.tag < 4294967296) : ∀ (d : Nat) (x5 : List Int) (x : Int), 0 ≤ x → x + d = c.slots → (x5.length : Int) = c.cells → inU64 x5 → ∃ ws, G.layout_Fresh.l1 (d + 1) x5 c.slots x c.nodes c.slots c.holders c.tag = some (ws, 0) ∧ (ws.length : Int) = c.cells ∧ inU64 ws
  | 0, x5, x, h0, hx, hl, hr => by
    refine ⟨x5, ?_, hl, hr⟩
    rw [G.layout_Fresh.l1]
    rw [if_neg (by omega)]
  | d + 1, x5, x, h0, hx, hl, hr => by
    have hcr := hc
    obtain ⟨h1, h2, h3, h4, h5, h6⟩ := hcr
    have hs : G.layout_Config_Slot.f c.nodes c.slots c.holders c.tag x = some (2 + 2 * c.nodes + x) := by
      unfold G.layout_Config_Slot.f
      rw [if_pos ⟨hc, by omega, by omega⟩]
      show some (LCfg.slotAt _ x) = _
      unfold LCfg.slotAt
      rw [if_pos (show 0 ≤ x ∧ x < (G.cfgOf c.nodes c.slots c.holders c.tag).slots from ⟨h0, by show x < c.slots; omega⟩)]
      rfl
    have hw := packWord_f 0 c.tag (by omega) ht
    have hcl : c.cells = 2 + 2 * c.nodes + c.slots + c.holders := rfl
    have hwr : wrap64 (x + 1) = x + 1 := by unfold wrap64; omega
    obtain ⟨ws, e1, e2, e3⟩ := fresh_l1 c hc ht d (x5.set (2 + 2 * c.nodes + x).toNat (wordOf 0 c.tag)) (x + 1) (by omega) (by omega) (by rw [List.length_set]; exact hl) (inU64_set hr _ (by unfold wordOf; omega))
    refine ⟨ws, ?_, e2, e3⟩
    rw [G.layout_Fresh.l1]
    rw [if_pos (by omega), hs]
    simp only [Option.bind_some]
    rw [hw]
    simp only [Option.bind_some]
    rw [if_pos (by omega), if_pos (by omega), hwr]
    exact e1
theorem fresh_l0 (c : LCfg) (hc : c.right) (ht : 0 ≤ c.tag ∧ c.tag < 4294967296) : ∀ (d : Nat) (x5 : List Int) (x : Int), 1 ≤ x → x + d = c.nodes → (x5.length : Int) = c.cells → inU64 x5 → ∃ ws, G.layout_Fresh.l0 (d + 1 + (c.slots.toNat + 1)) x5 x c.nodes c.slots c.holders c.tag = some (ws, 0) ∧ (ws.length : Int) = c.cells ∧ inU64 ws
  | 0, x5, x, h0, hx, hl, hr => by
    have hcr := hc
    obtain ⟨h1, h2, h3, h4, h5, h6⟩ := hcr
    obtain ⟨ws, e1, e2, e3⟩ := fresh_l1 c hc ht c.slots.toNat x5 0 (by omega) (by omega) hl hr
    refine ⟨ws, ?_, e2, e3⟩
    have hwr : wrap64 x = x := by unfold wrap64; omega
    rw [show 0 + 1 + (c.slots.toNat + 1) = (c.slots.toNat + 1) + 1 from by omega, G.layout_Fresh.l0]
    rw [hwr, if_neg (by omega)]
    exact e1
  | d + 1, x5, x, h0, hx, hl, hr => by
    have hcr := hc
    obtain ⟨h1, h2, h3, h4, h5, h6⟩ := hcr
    have hs : G.layout_Config_Next.f c.nodes c.slots c.holders c.tag x = some (2 * x) := by
      unfold G.layout_Config_Next.f
      rw [if_pos ⟨hc, by omega, by omega⟩]
      show some (LCfg.nextAt _ x) = _
      unfold LCfg.nextAt
      rw [if_pos (show 1 ≤ x ∧ x ≤ (G.cfgOf c.nodes c.slots c.holders c.tag).nodes from ⟨h0, by show x ≤ c.nodes; omega⟩)]
    have hcl : c.cells = 2 + 2 * c.nodes + c.slots + c.holders := rfl
    have hwr : wrap64 x = x := by unfold wrap64; omega
    have hm : (x + 1) % 4294967296 = x + 1 := by omega
    obtain ⟨ws, e1, e2, e3⟩ := fresh_l0 c hc ht d (x5.set (2 * x).toNat (x + 1)) (x + 1) (by omega) (by omega) (by rw [List.length_set]; exact hl) (inU64_set hr _ (by omega))
    refine ⟨ws, ?_, e2, e3⟩
    rw [show d + 1 + 1 + (c.slots.toNat + 1) = (d + 1 + (c.slots.toNat + 1)) + 1 from by omega, G.layout_Fresh.l0]
    rw [hwr, if_pos (by omega), hs]
    simp only [Option.bind_some]
    rw [if_pos (by omega), if_pos (by omega), hm]
    exact e1
theorem fresh_ok (c : LCfg) (hc : c.right) (ht : 0 ≤ c.tag ∧ c.tag < 4294967296) (hchk : G.layout_Check.f c.nodes c.slots c.holders c.tag = some 0) : ∃ k ws, G.layout_Fresh.f k c.nodes c.slots c.holders c.tag = some (ws, 0) ∧ 0 < ws.length ∧ ws.length ≤ 1024 ∧ inU64 ws := by
  have hcr := hc
  obtain ⟨h1, h2, h3, h4, h5, h6⟩ := hcr
  have hcl : c.cells = 2 + 2 * c.nodes + c.slots + c.holders := rfl
  have hf : G.layout_Config_Cells.f c.nodes c.slots c.holders c.tag = some c.cells := by
    unfold G.layout_Config_Cells.f
    exact if_pos hc
  have hlen : ((((List.replicate c.cells.toNat (0 : Int)).set 0 (wordOf 0 c.tag)).set 1 (wordOf 1 c.tag)).length : Int) = c.cells := by simp; omega
  have hin : inU64 (((List.replicate c.cells.toNat (0 : Int)).set 0 (wordOf 0 c.tag)).set 1 (wordOf 1 c.tag)) := by
    refine inU64_set (inU64_set (fun z hz => ?_) _ (by unfold wordOf; omega)) _ (by unfold wordOf; omega)
    rw [(List.mem_replicate.1 hz).2]
    omega
  obtain ⟨ws, e1, e2, e3⟩ := fresh_l0 c hc ht (c.nodes - 1).toNat _ 1 (by omega) (by omega) hlen hin
  refine ⟨(c.nodes - 1).toNat + 1 + (c.slots.toNat + 1), ws, ?_, by omega, by omega, e3⟩
  unfold G.layout_Fresh.f
  rw [hchk]
  simp only [Option.bind_some]
  rw [if_pos trivial, hf]
  simp only [Option.bind_some]
  rw [if_pos (by omega), if_pos (by omega), packWord_f 0 c.tag (by omega) ht]
  simp only [Option.bind_some]
  rw [packWord_f 1 c.tag (by omega) ht]
  simp only [Option.bind_some]
  rw [if_pos (by simp; omega), if_pos (by simp; omega)]
  exact e1
theorem sameWords_refl (l : List Int) (hl : l.length ≤ 1000000) : ∃ k, G.hatstandref2_SameWords.f k l l = some true := by
  have h : ∀ (d : Nat) (x : Int), 0 ≤ x → x + d = l.length → G.hatstandref2_SameWords.l0 (d + 1) l l x = some true := by
    intro d
    induction d with
    | zero =>
      intro x h0 hx
      rw [G.hatstandref2_SameWords.l0, if_neg (by omega)]
    | succ d ih =>
      intro x h0 hx
      have hw : wrap64 (x + 1) = x + 1 := by unfold wrap64; omega
      rw [G.hatstandref2_SameWords.l0, if_pos (by omega), if_pos (by omega), if_pos (by omega), if_pos rfl, hw]
      exact ih (x + 1) (by omega) (by omega)
  refine ⟨l.length + 1, ?_⟩
  unfold G.hatstandref2_SameWords.f
  rw [if_pos rfl]
  exact h l.length 0 (by omega) (by omega)
end Go.Proofs.YtgdoeoackhfikaaGreatDoor

namespace Go.Proofs.YtgdoeoackhfikaaGreatDoor
open Go.RowKit Go.Proofs.YtgdoeoackhfikaaGreatDoorW.PrintWords
set_option maxRecDepth 100000
set_option maxHeartbeats 4000000
set_option linter.unusedSimpArgs false
set_option linter.unusedVariables false
attribute [local go_sem] hs_other hs_alloc hs_falloc
attribute [local go_sem ↓] Go.wp_at_zero Go.wp_at_succ

theorem stacks_New_no (w : World) (c : ECfg) (n : Int) (h : ¬ (c.right ∧ 1 ≤ n ∧ n ≤ 8)) :
    Calls Tryz.prog 41 #[c.v, .int .i64 n] w fun e w' => e = .returned (.tuple #[.pointer none, .int .i64 1]) ∧ Kp (fun _ => False) w w' := by
  have hck := fun W => ebstack_Check c W
  have hv : c.v = .agg #[.int .i64 c.l.nodes, .int .i64 c.l.slots, .int .i64 c.l.holders, .int .u32 c.l.tag, .int .i64 c.budget, .int .i64 c.base, .int .u64 c.wait] := rfl
  rw [hv] at hck ⊢
  clear hv
  by_cases hc : c.right
  · rw [if_pos hc] at hck
    by_cases h1 : n < 1
    · have hd : decide (n < 1) = true := decide_eq_true h1
      go_enter Tryz.func41, Tryz.ntmps41
      go_wp2_with fail
      refine (hck _).mono ?_
      rintro e w1 ⟨rfl, hb1⟩
      have hk : Kp (fun _ => False) w w1 := ((Kp.refl _ w).alloc _).also (Kp.nb hb1)
      clear hb1
      go_wp2
      go_ret2
      exact ⟨rfl, hk⟩
    · have hd : decide (n < 1) = false := decide_eq_false h1
      have hd2 : decide (8 < n) = true := decide_eq_true (by
        have : ¬ n ≤ 8 := fun e => h ⟨hc, by omega, e⟩
        omega)
      go_enter Tryz.func41, Tryz.ntmps41
      go_wp2_with fail
      refine (hck _).mono ?_
      rintro e w1 ⟨rfl, hb1⟩
      have hk : Kp (fun _ => False) w w1 := ((Kp.refl _ w).alloc _).also (Kp.nb hb1)
      clear hb1
      go_wp2
      go_ret2
      exact ⟨rfl, hk⟩
  · rw [if_neg hc] at hck
    go_enter Tryz.func41, Tryz.ntmps41
    go_wp2_with fail
    refine (hck _).mono ?_
    rintro e w1 ⟨rfl, hb1⟩
    have hk : Kp (fun _ => False) w w1 := ((Kp.refl _ w).alloc _).also (Kp.nb hb1)
    clear hb1
    go_wp2
    go_ret2
    exact ⟨rfl, hk⟩
theorem runner_Stack_no (w : World) (c : ECfg) (n : Int) (h : ¬ (c.right ∧ 1 ≤ n ∧ n ≤ 8)) :
    Calls Tryz.prog 12 #[c.v, .int .i64 n] w fun e w' => e = .returned (.tuple #[.pointer none, .pointer none, .int .i64 1]) ∧ Kp (fun _ => False) w w' := by
  have hns := fun W => stacks_New_no W c n h
  have hv : c.v = .agg #[.int .i64 c.l.nodes, .int .i64 c.l.slots, .int .i64 c.l.holders, .int .u32 c.l.tag, .int .i64 c.budget, .int .i64 c.base, .int .u64 c.wait] := rfl
  rw [hv] at hns ⊢
  clear hv
  go_enter Tryz.func12, Tryz.ntmps12
  go_wp2_with fail
  refine (hns _).mono ?_
  rintro e w1 ⟨rfl, hk1⟩
  have hk : Kp (fun _ => False) w w1 := ((Kp.refl _ w).alloc _).also hk1
  clear hk1
  go_wp2
  refine bodyPost_ret (v := .tuple #[.pointer none, .pointer none, .int .i64 1]) (by simp [results, Tryz.results12, go_sem]) rfl ?_
  exact ⟨rfl, hk⟩
theorem stacks_Thread_idle (w : World) (b : Nat) (cv : List Value) (hg og n t : Nat) (hb : StacksC w b cv (.slice (some ⟨hg, 0, none⟩) n n) og n) (ht : t < n) (F : Nat → Prop) (sv : Value) (xs : List Int) (hs : ShelfAt w F sv xs) (hl : xs.length ≤ 1000000) (pol : Pol)
    (t0 : w.cell? ⟨hg, t * 3, none⟩ = some sv) (t1 : w.cell? ⟨hg, t * 3 + 1, none⟩ = some (.int .i64 pol.range)) (t2 : w.cell? ⟨hg, t * 3 + 2, none⟩ = some (.int .i64 pol.exp)) (u0 : w.cell? ⟨og, t, none⟩ = some (.pointer none)) :
    Calls Tryz.prog 35 #[.pointer (some ⟨b, 0, none⟩), .int .i64 t] w (ThreadPost w xs pol) := by
  have hcl := fun W (hk : Kp (fun _ => False) w W) => clone_shelf W 0 sv xs.length (nums .u32 xs) (hk.row hs.row (fun _ _ e => e)) (by simp [nums, Value.oneCell']) (by omega)
  have hth := fun W (hk : Kp (fun _ => False) w W) => stacks_there W b cv (some ⟨hg, 0, none⟩) n n og n t ⟨hb.1, hk.heap hb.2 (fun e => e)⟩
  have hd : decide (0 ≤ (t : Int) ∧ (t : Int) < (n : Int)) = true := decide_eq_true (by omega)
  rw [hd] at hth
  have hop := fun W (hk : Kp (fun _ => False) w W) => stacks_Op W b cv (some ⟨hg, 0, none⟩) n n og n t none ⟨hb.1, hk.heap hb.2 (fun e => e)⟩ ht rfl (hk.cell u0 (fun e => e))
  obtain ⟨A, cc, rfl⟩ := row_slice hs.row
  have hrg := hs.range
  have c7 := hb.threads
  have lb : b < w.heap.size := lt_of_heap hb.2
  have lh : hg < w.heap.size := World.block_lt_of_cell? w _ t0
  have ht' : (t : Int) < (n : Int) := by omega
  have HCL := Lib.hid hcl
  have HTH := Lib.hid hth
  have HOP := Lib.hid hop
  have HRG := Lib.hid hrg
  clear hb hs hcl hth hop hrg
  go_enter Tryz.func35, Tryz.ntmps35
  go_wp2_with fail
  refine (HOP.out _ ((Kp.refl _ _).alloc _)).mono ?_
  rintro e w1 ⟨rfl, hw1⟩
  have hk1 : Kp (fun _ => False) w w1 := by rw [hw1]; exact (Kp.refl _ _).alloc _
  have hO1 : w1.heap[w.heap.size]? = some (.cells #[.slice none 0 0, .int .i64 0, .int .i64 0] 85 (0, 0)) := by rw [hw1]; exact hp_new _ _ _ rfl
  clear hw1
  go_wp2_with fail
  refine (HTH.out _ hk1).mono ?_
  rintro e w2 ⟨rfl, hw2⟩
  obtain rfl : w1 = w2 := hw2.symm
  have d7 := hk1.cell c7 (fun e => e)
  have s0 := hk1.cell t0 (fun e => e)
  have s1 := hk1.cell t1 (fun e => e)
  have s2 := hk1.cell t2 (fun e => e)
  have hsz : w.heap.size < w1.heap.size := lt_of_heap hO1
  have hall : ∀ w' : World, Kp (fun k => k = w.heap.size) w1 w' → (w'.cell? ⟨b, 7, none⟩ = some (.slice (some ⟨hg, 0, none⟩) n n) ∧ w'.cell? ⟨hg, t * 3, none⟩ = some (.slice A xs.length cc) ∧ w'.cell? ⟨hg, t * 3 + 1, none⟩ = some (.int .i64 pol.range) ∧ w'.cell? ⟨hg, t * 3 + 2, none⟩ = some (.int .i64 pol.exp)) := fun w' hk => ⟨hk.cell d7 (by intro e; have e : b = w.heap.size := e; omega), hk.cell s0 (by intro e; have e : hg = w.heap.size := e; omega), hk.cell s1 (by intro e; have e : hg = w.heap.size := e; omega), hk.cell s2 (by intro e; have e : hg = w.heap.size := e; omega)⟩
  have HA := Lib.hid hall
  clear hall
  go_wp2_with fail
  go_region_held3 (fun w' => w'.cell? ⟨b, 7, none⟩ = some (.slice (some ⟨hg, 0, none⟩) n n) ∧ w'.cell? ⟨hg, t * 3, none⟩ = some (.slice A xs.length cc) ∧ w'.cell? ⟨hg, t * 3 + 1, none⟩ = some (.int .i64 pol.range) ∧ w'.cell? ⟨hg, t * 3 + 2, none⟩ = some (.int .i64 pol.exp))
    (first | exact HA.out _ (Kp.refl _ _) | exact HA.out _ (Kp.refl _ _).drew | exact HA.out _ hk2 | exact HA.out _ hk2.drew | exact HA.out _ (Kp.st (Kp.st (Kp.st hk2 (.inl rfl) 0 _) (.inl rfl) 1 _) (.inl rfl) 2 _) | exact HA.out _ (Kp.st (Kp.st (Kp.st hk2 (.inl rfl) 0 _) (.inl rfl) 1 _) (.inl rfl) 2 _).drew)
    ((go_at_call 73; refine (HCL.out w1.drew hk1.drew).mono ?_; rintro e w2 ⟨A', c', rfl, hr1, hb1⟩; have hkx : Kp (fun _ => False) w1 w2 := Kp.undrew (Kp.nb hb1); have hk2 : Kp (fun k => k = w.heap.size) w1 w2 := hkx.mono (fun _ e => e.elim); have hO2 := hkx.heap hO1 (fun e => e); have v0 : w2.cell? ⟨w.heap.size, 0, none⟩ = some (.slice none 0 0) := (obj_cells hO2).1 0; have v1 : w2.cell? ⟨w.heap.size, 1, none⟩ = some (.int .i64 0) := (obj_cells hO2).1 1; have v2 : w2.cell? ⟨w.heap.size, 2, none⟩ = some (.int .i64 0) := (obj_cells hO2).1 2; have g0 := (obj_cells hO2).2.1 0; have g1 := (obj_cells hO2).2.1 1; have g2 := (obj_cells hO2).2.1 2; have HO2 := Lib.hid hO2; have HR1 := Lib.hid hr1))
  refine any_world (p := fun W => Exit.then _ _ _ _ W) ?_
  intro W3 hW3
  have hX : W3.heap[w.heap.size]? = some (.cells #[.slice A' xs.length c', .int .i64 pol.range, .int .i64 pol.exp] 85 (0, 0)) := by
    rw [hW3]
    exact hp_same _ _ 2 _ (hp_same _ _ 1 _ (hp_same _ _ 0 _ HO2.out))
  have hK3 : Kp (fun k => k = w.heap.size) w2 W3 := by
    rw [hW3]
    exact Kp.st (S := fun k => k = w.heap.size) (Kp.st (S := fun k => k = w.heap.size) (Kp.st (S := fun k => k = w.heap.size) (Kp.refl _ _) (.inl rfl) 0 _) (.inl rfl) 1 _) (.inl rfl) 2 _
  obtain ⟨q2, _, _⟩ := obj_cells hX
  clear hW3 v0 v1 v2 g0 g1 g2 hX
  go_wp2_with fail
  refine bodyPost_ret (v := .agg #[.slice A' xs.length c', .int .i64 pol.range, .int .i64 pol.exp]) (by simp [results, Tryz.results35, go_sem, q2]) rfl ?_
  have z3 := hK3.size
  have z2 := hkx.size
  have hr3 : W3.ownsRow (w.heap.size + 1) 30 1 (.slice A' xs.length c') xs.length (nums .u32 xs) := hK3.row (row_base HR1.out (show w.heap.size + 1 ≤ w1.drew.heap.size from hsz)) (fun k hk e => by
    have e : k = w.heap.size := e
    have h5 : w1.drew.heap.size ≤ k := (HR1.out.lt k hk).1
    have h6 : w1.drew.heap.size = w1.heap.size := rfl
    omega)
  refine ⟨A', c', rfl, (hk1.also hkx).comp hK3 (fun k hk e => by omega), row_base hr3 (Nat.zero_le _), fun k hk => ?_, HRG.out⟩
  have := hr3.lt k hk
  omega
end Go.Proofs.YtgdoeoackhfikaaGreatDoor

namespace Go.Proofs.YtgdoeoackhfikaaGreatDoor
open Go.RowKit Go.Proofs.YtgdoeoackhfikaaGreatDoorW.PrintWords
set_option maxRecDepth 100000
set_option maxHeartbeats 4000000
set_option linter.unusedSimpArgs false
set_option linter.unusedVariables false
attribute [local go_sem] hs_other hs_alloc hs_falloc
attribute [local go_sem ↓] Go.wp_at_zero Go.wp_at_succ

theorem first_no (c : ECfg) (n : Int) (w : World) (hG : GG w) (h : ¬ (c.right ∧ 1 ≤ n ∧ n ≤ 8)) :
    Calls Tryz.prog 8 #[c.v, .int .i64 n] w fun e w' => e = .returned (.bool true) ∧ Below w.heap.size w w' := by
  have hst := fun W => runner_Stack_no W c n h
  have hck := fun W => ebstack_Check c W
  have hsh := fun W (hk : Kp (fun _ => False) w W) => shown_walk W (GG_at hG hk.blw)
  have hv : c.v = .agg #[.int .i64 c.l.nodes, .int .i64 c.l.slots, .int .i64 c.l.holders, .int .u32 c.l.tag, .int .i64 c.budget, .int .i64 c.base, .int .u64 c.wait] := rfl
  rw [hv] at hst hck ⊢
  clear hv
  have HST := Lib.hid hst
  have HCK := Lib.hid hck
  have HSH := Lib.hid hsh
  clear hst hck hsh
  go_enter Tryz.func8, Tryz.ntmps8
  go_wp2_with fail
  refine (HSH.out _ ((Kp.refl _ _).alloc _)).mono ?_
  rintro e w1 ⟨rfl, hb1⟩
  have hk1 : Kp (fun _ => False) w w1 := ((Kp.refl _ w).alloc _).also (Kp.nb hb1)
  have hO1 : w1.heap[w.heap.size]? = some (.cells #[.int .i64 c.l.nodes, .int .i64 c.l.slots, .int .i64 c.l.holders, .int .u32 c.l.tag, .int .i64 c.budget, .int .i64 c.base, .int .u64 c.wait] 35 (0, 0)) := obj_below hb1 (hp_new _ _ _ rfl)
  clear hb1
  obtain ⟨q, _, lq⟩ := obj_cells hO1
  have a0 : w1.cell? ⟨w.heap.size, 0, none⟩ = some (.int .i64 c.l.nodes) := q 0
  have a1 : w1.cell? ⟨w.heap.size, 1, none⟩ = some (.int .i64 c.l.slots) := q 1
  have a2 : w1.cell? ⟨w.heap.size, 2, none⟩ = some (.int .i64 c.l.holders) := q 2
  have a3 : w1.cell? ⟨w.heap.size, 3, none⟩ = some (.int .u32 c.l.tag) := q 3
  have a4 : w1.cell? ⟨w.heap.size, 4, none⟩ = some (.int .i64 c.budget) := q 4
  have a5 : w1.cell? ⟨w.heap.size, 5, none⟩ = some (.int .i64 c.base) := q 5
  have a6 : w1.cell? ⟨w.heap.size, 6, none⟩ = some (.int .u64 c.wait) := q 6
  clear q
  go_wp2_with fail
  refine (HST.out _).mono ?_
  rintro e w2 ⟨rfl, hk2⟩
  have b0 := hk2.cell a0 (fun e => e)
  have b1 := hk2.cell a1 (fun e => e)
  have b2 := hk2.cell a2 (fun e => e)
  have b3 := hk2.cell a3 (fun e => e)
  have b4 := hk2.cell a4 (fun e => e)
  have b5 := hk2.cell a5 (fun e => e)
  have b6 := hk2.cell a6 (fun e => e)
  clear a0 a1 a2 a3 a4 a5 a6 hO1
  go_wp2_with fail
  refine (HCK.out _).mono ?_
  rintro e w3 ⟨rfl, hb3⟩
  have hk3 : Kp (fun _ => False) w w3 := (hk1.also hk2).also (Kp.nb hb3)
  clear hb3 b0 b1 b2 b3 b4 b5 b6
  by_cases hc : c.right
  · rw [if_pos hc]
    by_cases h1 : n < 1
    · have hd : decide (1 ≤ n) = false := decide_eq_false (by omega)
      go_wp2
      go_ret
      exact ⟨rfl, hk3.blw⟩
    · have hd : decide (1 ≤ n) = true := decide_eq_true (by omega)
      have hd2 : decide (n ≤ 8) = false := decide_eq_false (fun e => h ⟨hc, by omega, e⟩)
      go_wp2
      go_ret
      exact ⟨rfl, hk3.blw⟩
  · rw [if_neg hc]
    go_wp2
    go_ret
    exact ⟨rfl, hk3.blw⟩
end Go.Proofs.YtgdoeoackhfikaaGreatDoor

namespace Go.Proofs.YtgdoeoackhfikaaGreatDoor
open Go.RowKit Go.Proofs.YtgdoeoackhfikaaGreatDoorW.PrintWords
set_option maxRecDepth 100000
set_option maxHeartbeats 4000000
set_option linter.unusedSimpArgs false
set_option linter.unusedVariables false
attribute [local go_sem] hs_other hs_alloc hs_falloc
attribute [local go_sem ↓] Go.wp_at_zero Go.wp_at_succ

theorem neqPol (w : World) (x0 x1 : Int) : (binOp .neq 83 (.agg #[.int .i64 x0, .int .i64 x1]) (.agg #[.int .i64 x0, .int .i64 x1])).run Tryz.prog w = .ok (.bool false) w := by
  rw [run_neq_struct, eqPol 9998 w]
  simp [Result.andThen]
/-- What a fresh runner's book and scheduler tell of a thread. -/
theorem fresh_tells (c : ECfg) (n : Nat) (ws : List Int) (w3 : World) (B : RB) (hR : RunAt w3 B (newRun c n ws)) (W : World) (hk : Kp (fun _ => False) w3 W) (j : Nat) (hj : j < n) :
    Calls Tryz.prog 35 #[.pointer (some ⟨B.k, 0, none⟩), .int .i64 j] W (ThreadPost W [] (Pol.new c.l.slots)) ∧
    Calls Tryz.prog 28 #[.pointer (some ⟨B.k, 0, none⟩), .int .i64 j] W (fun e w' => e = .returned (.pointer none) ∧ w' = W) ∧
    Calls Tryz.prog 27 #[.pointer (some ⟨B.s, 0, none⟩), .int .i64 j] W (fun e w' => e = .returned (.bool false) ∧ w' = W) := by
  have h := hR.kept hk (fun _ _ e => e)
  have el : (newRun c n ws).ths.length = n := by simp [newRun]
  have hx : (newRun c n ws).ths[j]? = some ⟨[], Pol.new c.l.slots, none, false⟩ := by simp [newRun, hj]
  obtain ⟨sv, hsv, hsh, hpr, hfew, t0, t1, t2⟩ := h.thread hx
  have hos : B.os[j]? = some none := by
    obtain ⟨_, _, _, _, _, h5⟩ := h.ths j _ hx
    exact h5
  have hu : W.cell? ⟨B.og, j, none⟩ = some (.pointer none) := map_cell h.ogc hos
  have hm : W.cell? ⟨B.tg, j, none⟩ = some .nilIface := map_cell h.tgc hos
  have hbk := h.book
  have hsc := h.sch
  rw [el] at hbk hsc
  exact ⟨stacks_Thread_idle W B.k _ B.hg B.og n j hbk hj _ sv [] hsh hfew _ t0 t1 t2 hu, stacks_Op W B.k _ _ n n B.og n j none hbk hj rfl hu, sched_Busy_nil W B.s B.mb.m B.q B.tg n _ j hsc hj hm⟩
theorem nums_C {w : World} {base e : Nat} {A : Option Addr} {c : Nat} {l : List Int} (h : w.ownsRow base e 1 (.slice A l.length c) l.length (nums .u64 l)) : Kd.C (Kd.int .u64) w A l.length l ∧ l.length ≤ c := by
  have h2 : Kd.R (Kd.int .u64) e w base (fun _ => True) (.slice A l.length c) l := Kd.R_of_own (by exact h) (fun _ _ => trivial)
  exact ⟨(Kd.R_reads' h2).2.2, (Kd.R_reads' h2).2.1⟩
theorem parse_blanks : parseF ⟨#[32, 9, 10]⟩ = [] := by decide +kernel
theorem first_yes (c : ECfg) (hc : c.right) (hw : 0 ≤ c.wait ∧ c.wait < 18446744073709551616) (htg : 0 ≤ c.l.tag ∧ c.l.tag < 4294967296) (n : Nat) (hn : 1 ≤ n ∧ n ≤ 8) (w : World) (hG : GG w) :
    Calls Tryz.prog 8 #[c.v, .int .i64 n] w fun e w' => e = .returned (.bool true) ∧ Below w.heap.size w w' := by
  have hchk : G.layout_Check.f c.l.nodes c.l.slots c.l.holders c.l.tag = some 0 := by rw [layoutCheck_f, if_pos hc.1]
  obtain ⟨kf, ws, hF, h0, hl, hx⟩ := fresh_ok c.l hc.1 htg hchk
  have hst := fun W => runner_Stack W c hc hw n hn kf ws hF h0 hl hx
  have hck := fun W => ebstack_Check c W
  have hef := fun W => ebstack_Fresh c W
  have hlf := fun W => G.layout_Fresh.calls kf c.l.nodes c.l.slots c.l.holders c.l.tag ws 0 W hF
  have hsh := fun W (hk : Kp (fun _ => False) w W) => shown_walk W (GG_at hG hk.blw)
  have hv : c.v = .agg #[.int .i64 c.l.nodes, .int .i64 c.l.slots, .int .i64 c.l.holders, .int .u32 c.l.tag, .int .i64 c.budget, .int .i64 c.base, .int .u64 c.wait] := rfl
  rw [if_pos hc] at hck
  rw [hv] at hst hck hef ⊢
  clear hv
  have hd : decide (1 ≤ (n : Int)) = true := decide_eq_true (by omega)
  have hd2 : decide ((n : Int) ≤ 8) = true := decide_eq_true (by omega)
  have HEF := Lib.hid hef
  have HLF := Lib.hid hlf
  have HX := Lib.hid hx
  clear hef hlf hF hx
  have HST := Lib.hid hst
  have HCK := Lib.hid hck
  have HSH := Lib.hid hsh
  clear hst hck hsh
  go_enter Tryz.func8, Tryz.ntmps8
  go_wp2_with fail
  refine (HSH.out _ ((Kp.refl _ _).alloc _)).mono ?_
  rintro e w1 ⟨rfl, hb1⟩
  have hk1 : Kp (fun _ => False) w w1 := ((Kp.refl _ w).alloc _).also (Kp.nb hb1)
  have hO1 : w1.heap[w.heap.size]? = some (.cells #[.int .i64 c.l.nodes, .int .i64 c.l.slots, .int .i64 c.l.holders, .int .u32 c.l.tag, .int .i64 c.budget, .int .i64 c.base, .int .u64 c.wait] 35 (0, 0)) := obj_below hb1 (hp_new _ _ _ rfl)
  clear hb1
  obtain ⟨q, _, lq⟩ := obj_cells hO1
  have a0 : w1.cell? ⟨w.heap.size, 0, none⟩ = some (.int .i64 c.l.nodes) := q 0
  have a1 : w1.cell? ⟨w.heap.size, 1, none⟩ = some (.int .i64 c.l.slots) := q 1
  have a2 : w1.cell? ⟨w.heap.size, 2, none⟩ = some (.int .i64 c.l.holders) := q 2
  have a3 : w1.cell? ⟨w.heap.size, 3, none⟩ = some (.int .u32 c.l.tag) := q 3
  have a4 : w1.cell? ⟨w.heap.size, 4, none⟩ = some (.int .i64 c.budget) := q 4
  have a5 : w1.cell? ⟨w.heap.size, 5, none⟩ = some (.int .i64 c.base) := q 5
  have a6 : w1.cell? ⟨w.heap.size, 6, none⟩ = some (.int .u64 c.wait) := q 6
  clear q
  go_wp2_with fail
  refine (HST.out _).mono ?_
  rintro e w2 ⟨B, rfl, hR, hk2, hfr⟩
  have HR := Lib.hid hR
  clear hR
  have b0 := hk2.cell a0 (fun e => e)
  have b1 := hk2.cell a1 (fun e => e)
  have b2 := hk2.cell a2 (fun e => e)
  have b3 := hk2.cell a3 (fun e => e)
  have b4 := hk2.cell a4 (fun e => e)
  have b5 := hk2.cell a5 (fun e => e)
  have b6 := hk2.cell a6 (fun e => e)
  clear a0 a1 a2 a3 a4 a5 a6 hO1
  go_wp2_with fail
  refine (HCK.out _).mono ?_
  rintro e w3 ⟨rfl, hb3⟩
  have hk23 : Kp (fun _ => False) w2 w3 := Kp.nb hb3
  have hk3 : Kp (fun _ => False) w w3 := (hk1.also hk2).also hk23
  have hR3 := HR.out.kept hk23 (fun _ _ e => e)
  have HR3 := Lib.hid hR3
  have hsd := runner_Sched w3 B _ hR3
  have d0 := hk23.cell b0 (fun e => e)
  have d1 := hk23.cell b1 (fun e => e)
  have d2 := hk23.cell b2 (fun e => e)
  have d3 := hk23.cell b3 (fun e => e)
  have d4 := hk23.cell b4 (fun e => e)
  have d5 := hk23.cell b5 (fun e => e)
  have d6 := hk23.cell b6 (fun e => e)
  clear hb3 b0 b1 b2 b3 b4 b5 b6 hR3
  go_wp2_with fail
  refine hsd.mono ?_
  rintro e w4 ⟨rfl, hw4⟩
  obtain rfl : w3 = w4 := hw4.symm
  go_wp2_with fail
  refine (HLF.out _).mono ?_
  rintro e w5 ⟨v5, rfl, hRw, hb5⟩
  have hk35 : Kp (fun _ => False) w3 w5 := Kp.nb hb5
  have hown := own_of_R hRw
  obtain ⟨A5, c5, rfl⟩ := row_slice hown
  have HOW := Lib.hid hown
  have hC5 := (Kd.R_reads' hRw)
  have HC5 := Lib.hid hC5
  clear hb5 hRw hown hC5
  have e0 := hk35.cell d0 (fun e => e)
  have e1 := hk35.cell d1 (fun e => e)
  have e2 := hk35.cell d2 (fun e => e)
  have e3 := hk35.cell d3 (fun e => e)
  have e4 := hk35.cell d4 (fun e => e)
  have e5 := hk35.cell d5 (fun e => e)
  have e6 := hk35.cell d6 (fun e => e)
  clear d0 d1 d2 d3 d4 d5 d6
  go_wp2_with fail
  have hall : ∀ W : World, Kp (fun _ => False) w5 W → (W.cell? ⟨w.heap.size, 0, none⟩ = some (.int .i64 c.l.nodes) ∧ W.cell? ⟨w.heap.size, 1, none⟩ = some (.int .i64 c.l.slots) ∧ W.cell? ⟨w.heap.size, 2, none⟩ = some (.int .i64 c.l.holders) ∧ W.cell? ⟨w.heap.size, 3, none⟩ = some (.int .u32 c.l.tag) ∧ W.cell? ⟨w.heap.size, 4, none⟩ = some (.int .i64 c.budget) ∧ W.cell? ⟨w.heap.size, 5, none⟩ = some (.int .i64 c.base) ∧ W.cell? ⟨w.heap.size, 6, none⟩ = some (.int .u64 c.wait)) := fun W hk => ⟨hk.cell e0 (fun e => e), hk.cell e1 (fun e => e), hk.cell e2 (fun e => e), hk.cell e3 (fun e => e), hk.cell e4 (fun e => e), hk.cell e5 (fun e => e), hk.cell e6 (fun e => e)⟩
  have HALL := Lib.hid hall
  have hneq := fun W => neqPol W (Pol.new c.l.slots).range (Pol.new c.l.slots).exp
  have hfield : ∀ W : World, (Instr.field 85 (.agg #[.slice none 0 0, .int .i64 (Pol.new c.l.slots).range, .int .i64 (Pol.new c.l.slots).exp]) 1).run Tryz.prog W = .ok (.agg #[.int .i64 (Pol.new c.l.slots).range, .int .i64 (Pol.new c.l.slots).exp]) W := fun _ => by kernel_rfl
  have HTEL := Lib.hid (fresh_tells c n ws w3 B HR3.out)
  have hl5 : w.heap.size < w5.heap.size := by have := hk35.size; have := lq; have := hk2.size; have := hk23.size; omega
  clear hall e0 e1 e2 e3 e4 e5 e6
  go_loopw [11] (fun i wr => ∃ j : Nat, j ≤ n ∧ i = .int .i64 j ∧ Kp (fun _ => False) w5 wr) (fun i _ => n - (intOf i).toNat)
  case atStart => exact ⟨0, by omega, rfl, Kp.refl _ _⟩
  case round =>
    obtain ⟨j, hj, rfl, hkr⟩ := hrel
    have hk3r : Kp (fun _ => False) w3 wr := hk35.also hkr
    by_cases hlt : j < n
    · have hdj : decide ((j : Int) < (n : Int)) = true := decide_eq_true (by omega)
      obtain ⟨a0, a1, a2, a3, a4, a5, a6⟩ := HALL.out wr hkr
      go_wp2_with fail
      refine ((HTEL.out wr hk3r j hlt).1).mono ?_
      rintro e w6 ⟨A', c', rfl, hk6, hsh6⟩
      have hk56 : Kp (fun _ => False) w5 w6 := hkr.also hk6
      clear hsh6 a0 a1 a2 a3 a4 a5 a6
      go_wp2_with fail
      refine wp_world ?_
      intro W7 hW7
      have hO7 : W7.heap[w6.heap.size]? = some (.cells #[.slice A' 0 c', .int .i64 (Pol.new c.l.slots).range, .int .i64 (Pol.new c.l.slots).exp] 85 (0, 0)) := by rw [hW7]; exact hp_new _ _ _ rfl
      have hk67 : Kp (fun _ => False) w6 W7 := by rw [hW7]; exact (Kp.refl _ _).alloc _
      have hk57 : Kp (fun _ => False) w5 W7 := hk56.also hk67
      have hk37 : Kp (fun _ => False) w3 W7 := hk35.also hk57
      obtain ⟨qx, _, _⟩ := obj_cells hO7
      have x0 : W7.cell? ⟨w6.heap.size, 0, none⟩ = some (.slice A' 0 c') := qx 0
      have x1 : W7.cell? ⟨w6.heap.size, 1, none⟩ = some (.int .i64 (Pol.new c.l.slots).range) := qx 1
      have x2 : W7.cell? ⟨w6.heap.size, 2, none⟩ = some (.int .i64 (Pol.new c.l.slots).exp) := qx 2
      have hall7 : ∀ W : World, Kp (fun _ => False) W7 W → (W.cell? ⟨w6.heap.size, 0, none⟩ = some (.slice A' 0 c') ∧ W.cell? ⟨w6.heap.size, 1, none⟩ = some (.int .i64 (Pol.new c.l.slots).range) ∧ W.cell? ⟨w6.heap.size, 2, none⟩ = some (.int .i64 (Pol.new c.l.slots).exp) ∧ W.cell? ⟨w.heap.size, 0, none⟩ = some (.int .i64 c.l.nodes) ∧ W.cell? ⟨w.heap.size, 1, none⟩ = some (.int .i64 c.l.slots) ∧ W.cell? ⟨w.heap.size, 2, none⟩ = some (.int .i64 c.l.holders) ∧ W.cell? ⟨w.heap.size, 3, none⟩ = some (.int .u32 c.l.tag) ∧ W.cell? ⟨w.heap.size, 4, none⟩ = some (.int .i64 c.budget) ∧ W.cell? ⟨w.heap.size, 5, none⟩ = some (.int .i64 c.base) ∧ W.cell? ⟨w.heap.size, 6, none⟩ = some (.int .u64 c.wait)) := fun W hk => ⟨hk.cell x0 (fun e => e), hk.cell x1 (fun e => e), hk.cell x2 (fun e => e), HALL.out W (hk57.also hk)⟩
      have HA7 := Lib.hid hall7
      clear hW7 qx hO7 hall7
      go_region_held3 (fun w' => w'.cell? ⟨w6.heap.size, 0, none⟩ = some (.slice A' 0 c') ∧ w'.cell? ⟨w6.heap.size, 1, none⟩ = some (.int .i64 (Pol.new c.l.slots).range) ∧ w'.cell? ⟨w6.heap.size, 2, none⟩ = some (.int .i64 (Pol.new c.l.slots).exp) ∧ w'.cell? ⟨w.heap.size, 0, none⟩ = some (.int .i64 c.l.nodes) ∧ w'.cell? ⟨w.heap.size, 1, none⟩ = some (.int .i64 c.l.slots) ∧ w'.cell? ⟨w.heap.size, 2, none⟩ = some (.int .i64 c.l.holders) ∧ w'.cell? ⟨w.heap.size, 3, none⟩ = some (.int .u32 c.l.tag) ∧ w'.cell? ⟨w.heap.size, 4, none⟩ = some (.int .i64 c.budget) ∧ w'.cell? ⟨w.heap.size, 5, none⟩ = some (.int .i64 c.base) ∧ w'.cell? ⟨w.heap.size, 6, none⟩ = some (.int .u64 c.wait))
        (first | exact HA7.out _ (Kp.refl _ _) | exact HA7.out _ (Kp.refl _ _).drew | exact HA7.out _ hk79)
        ((first
          | (go_at_call 28; refine ((HTEL.out W7.drew hk37.drew j hlt).2.1).mono ?_; rintro e w8 ⟨rfl, hw8⟩; obtain rfl : W7.drew = w8 := hw8.symm)
          | (go_at_call 39; refine (HEF.out W7.drew).mono ?_; rintro e w9 ⟨rfl, hb9⟩; have hk79 : Kp (fun _ => False) W7 w9 := Kp.undrew (Kp.nb hb9))
          | (go_at_call 15; refine (runner_Sched w9 B _ (HR3.out.kept (hk37.also hk79) (fun _ _ e => e))).mono ?_; rintro e w10 ⟨rfl, hw10⟩; obtain rfl : w9 = w10 := hw10.symm)
          | (go_at_call 27; refine ((HTEL.out w9 (hk37.also hk79) j hlt).2.2).mono ?_; rintro e w10 ⟨rfl, hw10⟩; obtain rfl : w9 = w10 := hw10.symm)))
      have hk59 : Kp (fun _ => False) w5 w9 := hk57.also hk79
      go_wp2_with fail
      exact ⟨⟨j + 1, by omega, by push_cast; rfl, hk59⟩, by simp only [intOf]; omega⟩
    · have hdj : decide ((j : Int) < (n : Int)) = false := decide_eq_false (by omega)
      have hRr := HR3.out.kept hk3r (fun _ _ e => e)
      have hfw : (newRun c n ws).Few := ⟨by simp [newRun], by simp [newRun], by simp [newRun]⟩
      have hev0 := runner_Events wr B _ hRr hfw
      have hl0 : (newRun c n ws).evs.length = 0 := by simp [newRun]
      rw [hl0] at hev0
      go_wp2_with fail
      refine hev0.mono ?_
      rintro e w6 ⟨v6, rfl, ho6, hk6⟩
      obtain ⟨A6, c6, rfl⟩ := row_slice ho6
      clear ho6
      have hk36 : Kp (fun _ => False) w3 w6 := hk3r.also hk6
      have hR6 := HR3.out.kept hk36 (fun _ _ e => e)
      have hq1 := runner_Sched w6 B _ hR6
      have hq2 := sched_Picks w6 B.s B.mb.m B.q B.tg _ _ hR6.sch
      have hq3 := sched_Mem w6 B.s B.mb.m B.q B.tg _ _ hR6.sch
      have hq4 := mem_Count w6 B.mb _ hR6.mem
      obtain ⟨ksw, hksw⟩ := sameWords_refl ws (by have := hl; omega)
      have HSW := Lib.hid hksw
      clear hksw
      have hq5 := mem_Words w6 B.mb _ hR6.mem
      have hp0 : (newRun c n ws).picks = 0 := by simp [newRun]
      have hn0 : (newRun c n ws).mem.notes.length = 0 := by simp [newRun]
      have hw0 : (newRun c n ws).mem.words = ws := by simp [newRun]
      try rw [hp0] at hq2
      try rw [hp0] at hq3
      rw [hn0, show ((0 : Nat) : Int) = 0 from rfl] at hq4
      try rw [hw0] at hq5
      clear hR6 hev0
      go_wp2_with fail
      refine hq1.mono ?_
      rintro e w7 ⟨rfl, hw7⟩
      obtain rfl : w6 = w7 := hw7.symm
      go_wp2_with fail
      refine hq2.mono ?_
      rintro e w7 ⟨rfl, hw7⟩
      obtain rfl : w6 = w7 := hw7.symm
      go_wp2_with fail
      refine hq1.mono ?_
      rintro e w7 ⟨rfl, hw7⟩
      obtain rfl : w6 = w7 := hw7.symm
      go_wp2_with fail
      refine hq3.mono ?_
      rintro e w7 ⟨rfl, hw7⟩
      obtain rfl : w6 = w7 := hw7.symm
      go_wp2_with fail
      refine hq4.mono ?_
      rintro e w7 ⟨rfl, hw7⟩
      obtain rfl : w6 = w7 := hw7
      go_wp2_with fail
      refine hq1.mono ?_
      rintro e w7 ⟨rfl, hw7⟩
      obtain rfl : w6 = w7 := hw7.symm
      go_wp2_with fail
      refine hq3.mono ?_
      rintro e w7 ⟨rfl, hw7⟩
      obtain rfl : w6 = w7 := hw7.symm
      go_wp2_with fail
      refine hq5.mono ?_
      rintro e w8 ⟨v8, rfl, ho8, hk8⟩
      obtain ⟨A8, c8, rfl⟩ := row_slice ho8
      have hC8 := nums_C ho8
      have ho5 := ((hkr.also hk6).also hk8).row HOW.out (fun _ _ e => e)
      have hC5b := nums_C ho5
      have HC8 := Lib.hid hC8
      have HC5B := Lib.hid hC5b
      clear ho8 ho5 hC8 hC5b
      go_wp2_with fail
      refine (G.hatstandref2_SameWords.calls ksw A8 c8 ws A5 c5 ws true w8 HC8.out.1 HC8.out.2 HC5B.out.1 HC5B.out.2 HSW.out).mono ?_
      rintro e w9 ⟨rfl, hd9⟩
      have hk89 : Kp (fun _ => False) w8 w9 := Kp.nb hd9.below
      clear hd9
      have hk39 : Kp (fun _ => False) w3 w9 := (hk36.also hk8).also hk89
      go_wp2_with fail
      have hrun := runner_Run w9 (GG_at hG (hk3.also hk39).blw) B _ (HR3.out.kept hk39 (fun _ _ e => e)) ⟨#[32, 9, 10]⟩ (by decide) (by rw [parse_blanks]; intro a e b h; simp at h) (by rw [parse_blanks]; intro e h; simp at h) (by rw [parse_blanks]; simp)
      rw [parse_blanks] at hrun
      refine hrun.mono ?_
      rintro e w10 ⟨v10, rfl, ho10, B10, hB10, hR10, hk10, hn10, _⟩
      obtain ⟨A10, c10, rfl⟩ := row_slice ho10
      clear ho10
      go_wp2
      go_ret
      have kz : Kp (fun _ => False) w w10 := (hk3.also hk39).comp hk10 (fun k hk e => by have := hfr k e; have := hk1.size; omega)
      exact ⟨rfl, kz.blw⟩
end Go.Proofs.YtgdoeoackhfikaaGreatDoor

namespace Go.Proofs.YtgdoeoackhfikaaGreatDoor
set_option linter.unusedVariables false
set_option linter.unusedSimpArgs false
open Go.ChangeShapes Go.WideShapes Go.ChangeAt Go.RowKit Go.Proofs.YtgdoeoackhfikaaGreatDoorW.PrintWords
open Go.ChangeMaps (open_string shut_string)
set_option maxRecDepth 100000

section
variable {H : Type} {enc : TypeId × Value → H} {W : World}
theorem opens_layout {fuel : Nat} {cs : List Value} {x : DataW H × List MemPlace} (h : DataW.trod enc Tryz.prog W 0 (fun _ => true) true fuel 32 cs = some x) :
    ∃ a b c d : Int, cs = [.int .i64 a, .int .i64 b, .int .i64 c, .int .u32 d] ∧ (Lit.int .u32 d).wf = true := by
  obtain ⟨fs, hfs, hu⟩ : ∃ fs : Array Field, (fs.toList.map (fun f => (f.type, f.offset)) = [(3, 0), (3, 1), (3, 2), (30, 3)]) ∧ Tryz.prog.underlying 32 = some (.struct fs) :=
    ⟨_, by kernel_rfl, Tryz.underlying32⟩
  obtain ⟨xs, n, rfl, rfl, hl, hlen, hf⟩ := DataW.trod_struct hu h
  have hsz : fs.size = 4 := by
    have := congrArg List.length hfs
    simpa using this
  have hty : ∀ (i : Nat) (t : TypeId) (o : Nat), [(3, 0), (3, 1), (3, 2), (30, 3)][i]? = some (t, o) → ∃ f, fs[i]? = some f ∧ f.type = t ∧ f.offset = o := by
    intro i t o hi
    rw [← hfs, List.getElem?_map] at hi
    obtain ⟨f, h1, h2⟩ := Option.map_eq_some_iff.1 hi
    injection h2 with h3 h4
    exact ⟨f, by rw [← h1]; simp, h3, h4⟩
  have c4 : Tryz.prog.cellsOf 32 = 4 := by kernel_rfl
  have cA : Tryz.prog.cellsOf 3 = 1 := by kernel_rfl
  have cI : Tryz.prog.cellsOf 30 = 1 := by kernel_rfl
  rw [c4] at hl
  rw [hsz] at hlen
  match cs, hl, xs, hlen, hf with
  | [u0, u1, u2, u3], _, [y0, y1, y2, y3], _, hf =>
    obtain ⟨f0, g0, t0, o0⟩ := hty 0 _ _ rfl
    obtain ⟨f1, g1, t1, o1⟩ := hty 1 _ _ rfl
    obtain ⟨f2, g2, t2, o2⟩ := hty 2 _ _ rfl
    obtain ⟨f3, g3, t3, o3⟩ := hty 3 _ _ rfl
    have e0 := hf 0 f0 g0
    have e1 := hf 1 f1 g1
    have e2 := hf 2 f2 g2
    have e3 := hf 3 f3 g3
    rw [t0, o0, cA] at e0
    rw [t1, o1, cA] at e1
    rw [t2, o2, cA] at e2
    rw [t3, o3, cI] at e3
    have e0' : DataW.trod enc Tryz.prog W 0 (fun _ => true) true n 3 [u0] = some y0 := e0
    have e1' : DataW.trod enc Tryz.prog W 0 (fun _ => true) true n 3 [u1] = some y1 := e1
    have e2' : DataW.trod enc Tryz.prog W 0 (fun _ => true) true n 3 [u2] = some y2 := e2
    have e3' : DataW.trod enc Tryz.prog W 0 (fun _ => true) true n 30 [u3] = some y3 := e3
    obtain ⟨z0, q0, _, _⟩ := DataW.trod_int Tryz.underlying3 e0'
    obtain ⟨z1, q1, _, _⟩ := DataW.trod_int Tryz.underlying3 e1'
    obtain ⟨z2, q2, _, _⟩ := DataW.trod_int Tryz.underlying3 e2'
    obtain ⟨z3, q3, _, w3⟩ := DataW.trod_int Tryz.underlying30 e3'
    injection q0 with q0
    injection q1 with q1
    injection q2 with q2
    injection q3 with q3
    exact ⟨z0, z1, z2, z3, by rw [q0, q1, q2, q3], w3⟩
theorem opens_config {fuel : Nat} {cs : List Value} {x : DataW H × List MemPlace} (h : DataW.trod enc Tryz.prog W 0 (fun _ => true) true fuel 35 cs = some x) :
    ∃ c : ECfg, cs = [.int .i64 c.l.nodes, .int .i64 c.l.slots, .int .i64 c.l.holders, .int .u32 c.l.tag, .int .i64 c.budget, .int .i64 c.base, .int .u64 c.wait] ∧ (Lit.int .u32 c.l.tag).wf = true ∧ (Lit.int .u64 c.wait).wf = true := by
  obtain ⟨fs, hfs, hu⟩ : ∃ fs : Array Field, (fs.toList.map (fun f => (f.type, f.offset)) = [(32, 0), (3, 4), (3, 5), (33, 6)]) ∧ Tryz.prog.underlying 35 = some (.struct fs) :=
    ⟨_, by kernel_rfl, Tryz.underlying35⟩
  obtain ⟨xs, n, rfl, rfl, hl, hlen, hf⟩ := DataW.trod_struct hu h
  have hsz : fs.size = 4 := by
    have := congrArg List.length hfs
    simpa using this
  have hty : ∀ (i : Nat) (t : TypeId) (o : Nat), [(32, 0), (3, 4), (3, 5), (33, 6)][i]? = some (t, o) → ∃ f, fs[i]? = some f ∧ f.type = t ∧ f.offset = o := by
    intro i t o hi
    rw [← hfs, List.getElem?_map] at hi
    obtain ⟨f, h1, h2⟩ := Option.map_eq_some_iff.1 hi
    injection h2 with h3 h4
    exact ⟨f, by rw [← h1]; simp, h3, h4⟩
  have c7 : Tryz.prog.cellsOf 35 = 7 := by kernel_rfl
  have c4 : Tryz.prog.cellsOf 32 = 4 := by kernel_rfl
  have cA : Tryz.prog.cellsOf 3 = 1 := by kernel_rfl
  have cI : Tryz.prog.cellsOf 33 = 1 := by kernel_rfl
  rw [c7] at hl
  rw [hsz] at hlen
  match cs, hl, xs, hlen, hf with
  | [u0, u1, u2, u3, u4, u5, u6], _, [y0, y1, y2, y3], _, hf =>
    obtain ⟨f0, g0, t0, o0⟩ := hty 0 _ _ rfl
    obtain ⟨f1, g1, t1, o1⟩ := hty 1 _ _ rfl
    obtain ⟨f2, g2, t2, o2⟩ := hty 2 _ _ rfl
    obtain ⟨f3, g3, t3, o3⟩ := hty 3 _ _ rfl
    have e0 := hf 0 f0 g0
    have e1 := hf 1 f1 g1
    have e2 := hf 2 f2 g2
    have e3 := hf 3 f3 g3
    rw [t0, o0, c4] at e0
    rw [t1, o1, cA] at e1
    rw [t2, o2, cA] at e2
    rw [t3, o3, cI] at e3
    have e0' : DataW.trod enc Tryz.prog W 0 (fun _ => true) true n 32 [u0, u1, u2, u3] = some y0 := e0
    have e1' : DataW.trod enc Tryz.prog W 0 (fun _ => true) true n 3 [u4] = some y1 := e1
    have e2' : DataW.trod enc Tryz.prog W 0 (fun _ => true) true n 3 [u5] = some y2 := e2
    have e3' : DataW.trod enc Tryz.prog W 0 (fun _ => true) true n 33 [u6] = some y3 := e3
    obtain ⟨a, b, c, d, q0, w0⟩ := opens_layout e0'
    obtain ⟨z1, q1, _, _⟩ := DataW.trod_int Tryz.underlying3 e1'
    obtain ⟨z2, q2, _, _⟩ := DataW.trod_int Tryz.underlying3 e2'
    obtain ⟨z3, q3, _, w3⟩ := DataW.trod_int Tryz.underlying33 e3'
    injection q0 with q00 q01
    injection q01 with q01 q02
    injection q02 with q02 q03
    injection q03 with q03 _
    injection q1 with q1
    injection q2 with q2
    injection q3 with q3
    exact ⟨⟨⟨a, b, c, d⟩, z1, z2, z3⟩, by rw [q00, q01, q02, q03, q1, q2, q3], w0, w3⟩
/-- An argument that is a stack's config. -/
theorem open_config {r : Reach} {b0 : Nat} {v : Value} {x : DataW H} {ps : List MemPlace} (hval : Value.okWide Tryz.prog W r b0 35 v) (h : DataW.Trod enc Tryz.prog W 0 (fun _ => true) true 35 v x ps) :
    ∃ c : ECfg, v = c.v ∧ (Lit.int .u32 c.l.tag).wf = true ∧ (Lit.int .u64 c.wait).wf = true := by
  obtain ⟨cs, rfl, _⟩ := okWide_struct Tryz.underlying35 hval
  obtain ⟨fuel, hf⟩ := h
  obtain ⟨c, h1, h2, h3⟩ := opens_config hf
  refine ⟨c, ?_, h2, h3⟩
  have h4 : cs.toList = [.int .i64 c.l.nodes, .int .i64 c.l.slots, .int .i64 c.l.holders, .int .u32 c.l.tag, .int .i64 c.budget, .int .i64 c.base, .int .u64 c.wait] := h1
  have h5 : cs = #[.int .i64 c.l.nodes, .int .i64 c.l.slots, .int .i64 c.l.holders, .int .u32 c.l.tag, .int .i64 c.budget, .int .i64 c.base, .int .u64 c.wait] := by rw [← Array.toArray_toList (xs := cs), h4]
  rw [h5]
  rfl
end
theorem tag_of_wf {n : Int} (h : (Lit.int .u32 n).wf = true) : 0 ≤ n ∧ n < 4294967296 := by
  simp [Lit.wf, IntKind.min, IntKind.max, IntKind.signed, IntKind.bits] at h
  omega
theorem wait_of_wf {n : Int} (h : (Lit.int .u64 n).wf = true) : 0 ≤ n ∧ n < 18446744073709551616 := by
  simp [Lit.wf, IntKind.min, IntKind.max, IntKind.signed, IntKind.bits] at h
  omega
theorem first_walk (c : ECfg) (hw : 0 ≤ c.wait ∧ c.wait < 18446744073709551616) (htg : 0 ≤ c.l.tag ∧ c.l.tag < 4294967296) (n : Int) (w : World) (hG : GG w) :
    Calls Tryz.prog 8 #[c.v, .int .i64 n] w fun e w' => e = .returned (.bool true) ∧ Below w.heap.size w w' := by
  by_cases h : c.right ∧ 1 ≤ n ∧ n ≤ 8
  · obtain ⟨k, rfl⟩ : ∃ k : Nat, n = k := ⟨n.toNat, by omega⟩
    exact first_yes c h.1 hw htg k (by omega) w hG
  · exact first_no c n w hG h

theorem runnerFirst_reads (os : Os) {H : Type} (enc : TypeId × Value → H) : ∃ places, DataW.whole enc Tryz.prog ((World.laidAll Tryz.prog os laid0).forCall (fun _ _ => 0) ⟨#[], #[.agg #[.int .i64 0, .int .i64 0, .int .i64 0, .int .u32 0, .int .i64 0, .int .i64 0, .int .u64 0], .int .i64 0], []⟩).memory Tryz.f8.params.toList Rows.runnerFirstSpec.vars false #[(.agg #[.int .i64 0, .int .i64 0, .int .i64 0, .int .u32 0, .int .i64 0, .int .i64 0, .int .u64 0] : Value), (.int .i64 0 : Value)].toList 8 = some ([.agg [.agg [.lit (.int .i64 0), .lit (.int .i64 0), .lit (.int .i64 0), .lit (.int .u32 0)], .lit (.int .i64 0), .lit (.int .i64 0), .lit (.int .u64 0)], .lit (.int .i64 0)], [], places) :=
  ⟨[], by kernel_rfl⟩
theorem runnerFirst_lifted (os : Os) (started : os.Started) (H : Type) (enc : TypeId × Value → H) (F : Stop.Interp) :
    ReturnsInHanded {} Tryz.checked os 8 .any ((OpenSpec.ofChange Rows.runnerFirstSpec).preRow enc Tryz.prog Tryz.f8 Rows.runnerFirstRow.domain false Rows.runnerFirstRow.laid) (((OpenSpec.ofChange Rows.runnerFirstSpec).at F).post enc Tryz.prog Tryz.f8 false true false false) := by
  obtain ⟨places, hx⟩ := runnerFirst_reads os enc
  refine lifted_law started #[.agg #[.int .i64 0, .int .i64 0, .int .i64 0, .int .u32 0, .int .i64 0, .int .i64 0, .int .u64 0], .int .i64 0] Tryz.func8 (by kernel_rfl) rfl rfl ?_ ?_ (by kernel_rfl) (OpenSpec.preRow_of_cond 8 hx (by kernel_rfl) (fun k hk => by cases hk) (by kernel_rfl) (wit_met os _)) ?_
  · intro ds hl
    rw [Tryz.params8] at hl
    match ds, hl with
    | [d0, d1], _ => rfl
  · intro t ht
    rw [Tryz.params8] at ht
    have hm : t ∈ [35, 3] := ht
    have hall : ([35, 3].all fun u => Tryz.prog.readableRec u && decide (u < Tryz.prog.types.size)) = true := by kernel_rfl
    simpa using List.all_eq_true.1 hall t hm
  · intro W base args ds p hval hA hG hsz
    rw [Tryz.params8] at hA hval hsz
    obtain ⟨v0, vs0, d0, ds0, p0, q0, hargs, rfl, rfl, h0, r0⟩ := trodAll_cons hA
    obtain ⟨v1, vs1, d1, ds1, p1, q1, rfl, rfl, rfl, h1, r1⟩ := trodAll_cons r0
    obtain ⟨rfl, rfl, rfl⟩ := trodAll_nil r1
    obtain rfl : args = #[v0, v1] := by cases args; simp_all
    obtain ⟨c, rfl, wt, ww⟩ := open_config (hval 0 35 v0 rfl rfl) h0
    obtain ⟨a1, rfl, rfl, rfl, w1⟩ := open_int Tryz.underlying3 (hval 1 3 v1 rfl rfl) h1
    exact first_walk c (wait_of_wf ww) (tag_of_wf wt) a1 W hG

theorem runnerFirst_said : Rows.RunnerFirstSaid :=
  OpenClaim.holds_of_cond 8 Tryz.f8 rfl rfl rfl rfl rfl rfl rfl ⟨rfl, rfl, rfl, rfl, rfl⟩ rfl rfl rfl rfl rfl (by kernel_rfl) Tryz.func8 (by kernel_rfl)
    (of_decide_eq_true (by kernel_rfl)) (by unfold Func.isWrapper; first | (rw [if_pos (by decide +kernel)]; kernel_rfl) | (rw [if_neg (by decide +kernel)]; exact ⟨rfl, rfl⟩))
    (fun os started H enc _ F => by rw [OpenClaim.pre_eq_preRow]; exact runnerFirst_lifted os started H enc F)

theorem runnerFirst_plain (f : FuncId) (fn : Func) (hf : Tryz.pinned.checked.prog.funcNamed "hatstand/hatstandlaw17.RunnerFirst" = some f) (hfn : Tryz.pinned.checked.prog.funcs[f]? = some fn) :
    true = Tryz.pinned.checked.prog.looks [] ∧ ∀ (j : Nat) t, fn.params[j]? = some t → Tryz.pinned.checked.prog.wantsStandIn t = false := by
  obtain rfl : f = 8 := Option.some.inj ((show Tryz.prog.funcNamed "hatstand/hatstandlaw17.RunnerFirst" = some 8 by kernel_rfl).symm.trans hf) |>.symm
  obtain rfl : fn = Tryz.f8 := (Option.some.inj (Tryz.func8.symm.trans hfn)).symm
  refine ⟨by kernel_rfl, fun j t ht => ?_⟩
  rw [Tryz.params8] at ht
  have hm : t ∈ [35, 3] := by simpa using Array.mem_of_getElem? ht
  have hall : ([35, 3].all fun u => !Tryz.prog.wantsStandIn u) = true := by kernel_rfl
  exact (show Tryz.prog.wantsStandIn t = false by simpa using List.all_eq_true.1 hall t hm)

theorem runnerFirst_card : Rows.RunnerFirstCardSaid :=
  Claim7.holds_tied_plain_at .later [] _ _ _ _ runnerFirst_said (fun _ h => by cases h) (by kernel_rfl) (fun _ h => by cases h) runnerFirst_row_tie rfl ⟨rfl, rfl⟩ (by kernel_rfl) rfl runnerFirst_plain (by kernel_rfl)
end Go.Proofs.YtgdoeoackhfikaaGreatDoor

namespace Go.Proofs.YtgdoeoackhfikaaGreatDoor
set_option linter.unusedVariables false
set_option linter.unusedSimpArgs false
theorem runnerFirst_holds : Rows.RunnerFirstCardSaid := runnerFirst_card
#print axioms runnerFirst_holds
end Go.Proofs.YtgdoeoackhfikaaGreatDoor
