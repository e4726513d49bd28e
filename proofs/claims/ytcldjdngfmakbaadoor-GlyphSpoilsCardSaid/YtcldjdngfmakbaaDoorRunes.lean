/-
  The runes of a text, as the model's own decoding has them; plain Lean; glyph's hasRune and of: their walks. No condition.
-/
import Derived.Test.YtcldjdngfmakbaaDoorProg
import Derived.Lib.OthersKept
import Derived.WalkKit
import Derived.BigCall
import Derived.Lib.Hide
namespace Go.Proofs.YtcldjdngfmakbaaDoor
open Go.RowKit

/-- The runes of s from place pos on: where each stands, and which it is. -/
def runesFrom (s : ByteArray) : Nat → Nat → List (Nat × Int)
  | 0, _ => []
  | fuel + 1, pos => if pos < s.size then (pos, ((Utf8.decode s pos).1 : Int)) :: runesFrom s fuel (pos + (Utf8.decode s pos).2) else []
def runesOf (s : ByteArray) : List (Nat × Int) := runesFrom s s.size 0

theorem width_pos (s : ByteArray) (pos : Nat) (h : pos < s.size) : 1 ≤ (Utf8.decode s pos).2 := by
  by_cases ha : (s[pos]'h).toNat < 128
  · rw [decode_ascii s pos h ha]
    exact Nat.le_refl _
  · exact (decode_high s pos h (by omega)).2

theorem runesFrom_end (s : ByteArray) (fuel pos : Nat) (h : ¬ pos < s.size) : runesFrom s fuel pos = [] := by
  cases fuel with
  | zero => rfl
  | succ f => simp [runesFrom, h]

theorem runesFrom_step (s : ByteArray) (fuel pos : Nat) (h : pos < s.size) :
    runesFrom s (fuel + 1) pos = (pos, ((Utf8.decode s pos).1 : Int)) :: runesFrom s fuel (pos + (Utf8.decode s pos).2) := by
  simp [runesFrom, h]

/-- Is a rune among them? -/
def hasB (l : List (Nat × Int)) (r : Int) : Bool := l.any (fun p => p.2 == r)
theorem hasB_nil (r : Int) : hasB [] r = false := rfl
theorem hasB_cons (p : Nat × Int) (l : List (Nat × Int)) (r : Int) : hasB (p :: l) r = (p.2 == r || hasB l r) := rfl
def ofB (s : ByteArray) (r : Int) : Bool := hasB (runesOf s) r && (r != 65533)

set_option maxHeartbeats 4000000 in
set_option maxRecDepth 100000 in
theorem hasRune_walk (s : ByteArray) (r : Int) (w : World) (hs : s.size ≤ 9223372036854775807) :
    Calls Tryd.prog 36 #[.string s, .int .i32 r] w fun e w' => e = .returned (.bool (hasB (runesOf s) r)) ∧ Below w.heap.size w w' := by
  go_enter Tryd.func36, Tryd.ntmps36
  go_wp2
  go_loopw [] (fun wr => ∃ (pos fuel : Nat), wr.heap[w.heap.size]? = some (.stringIter s pos) ∧ Below w.heap.size w wr ∧ Hid (hasB (runesFrom s fuel pos) r = hasB (runesOf s) r) ∧ s.size ≤ pos + fuel) (fun wr => s.size - wr.iterPos w.heap.size)
  case atStart =>
    refine ⟨0, s.size, ?_, ((Below.refl _ w).alloc (Nat.le_refl _) _), Lib.hid rfl, by omega⟩
    have := World.iter_heap w s 0
    simpa using this
  case round =>
    obtain ⟨pos, fuel, hit, hbw, H, hfu⟩ := hrel
    by_cases hp : pos < s.size
    · have hnx : ∀ ty, (Instr.next (.pointer (some ⟨w.heap.size, 0, none⟩)) true ty).run Tryd.prog wr = _ := fun ty => Lib.run_next_any_at wr (w.heap.size) s pos ty hit hp
      have hwd := width_pos s pos hp
      have hd1 := decode_le s pos
      have hit2 := Lib.iterAt_heap wr (w.heap.size) s pos (pos + (Utf8.decode s pos).2) hit
      have hbw2 := Lib.below_iterAt hbw (k := w.heap.size) (by omega) s (pos + (Utf8.decode s pos).2)
      obtain ⟨f, rfl⟩ : ∃ f, fuel = f + 1 := ⟨fuel - 1, by omega⟩
      by_cases h32 : ((Utf8.decode s pos).1 : Int) = r
      · have hb : (((Utf8.decode s pos).1 : Int) == r) = true := beq_iff_eq.2 h32
        have HF : Hid (hasB (runesOf s) r = true) := Lib.hid (by rw [← H.out, runesFrom_step _ _ _ hp, hasB_cons, hb]; rfl)
        clear h32
        go_wp2
        go_ret
        exact ⟨by rw [HF.out]; rfl, hbw2⟩
      · have hb : (((Utf8.decode s pos).1 : Int) == r) = false := beq_eq_false_iff_ne.2 h32
        clear h32
        go_wp2
        go_roundw
        case rel =>
          exact ⟨pos + (Utf8.decode s pos).2, f, hit2, hbw2, Lib.hid (by rw [← H.out, runesFrom_step _ _ _ hp, hasB_cons, hb]; rfl), by omega⟩
        case measure =>
          simp only [World.iterPos, hit2, hit]
          omega
    · have hnx : ∀ ty, (Instr.next (.pointer (some ⟨w.heap.size, 0, none⟩)) true ty).run Tryd.prog wr = _ := fun ty => Lib.run_next_end_at wr (w.heap.size) s pos ty hit hp
      have HF : Hid (hasB (runesOf s) r = false) := Lib.hid (by rw [← H.out, runesFrom_end _ _ _ hp]; rfl)
      go_wp2
      go_ret
      exact ⟨by rw [HF.out]; rfl, hbw⟩

set_option maxHeartbeats 4000000 in
set_option maxRecDepth 100000 in
theorem of_walk (s : ByteArray) (r : Int) (w : World) (hs : s.size ≤ 9223372036854775807) :
    Calls Tryd.prog 21 #[.int .i32 r, .string s] w fun e w' => e = .returned (.bool (ofB s r)) ∧ Below w.heap.size w w' := by
  by_cases hb : hasB (runesOf s) r = true
  · have HF : Hid (ofB s r = (r != 65533)) := Lib.hid (by unfold ofB; rw [hb]; rfl)
    have hbH := Lib.hid hb
    clear hb
    go_enter Tryd.func21, Tryd.ntmps21
    go_wp2_with fail
    refine (hasRune_walk _ _ _ hs).mono ?_
    rintro e w1 ⟨rfl, hb1⟩
    rw [hbH.out]
    go_wp2_with fail
    go_ret
    exact ⟨by rw [HF.out]; rfl, hb1⟩
  · have hb' : hasB (runesOf s) r = false := by simpa using hb
    clear hb
    have HF : Hid (ofB s r = false) := Lib.hid (by unfold ofB; rw [hb']; rfl)
    have hbH := Lib.hid hb'
    clear hb'
    go_enter Tryd.func21, Tryd.ntmps21
    go_wp2_with fail
    refine (hasRune_walk _ _ _ hs).mono ?_
    rintro e w1 ⟨rfl, hb1⟩
    rw [hbH.out]
    go_wp2_with fail
    go_ret
    exact ⟨by rw [HF.out]; rfl, hb1⟩
end Go.Proofs.YtcldjdngfmakbaaDoor
