/-
  The examples of chapter 3: the statements' head answers true; where the library's variables read as laid.
-/
import Derived.Test.YtcldjdngfmakbaaDoorGlyphParse
import Derived.Test.YtcldjdngfmakbaaDoorG1
import Derived.Test.YtcldjdngfmakbaaDoorG2
namespace Go.Proofs.YtcldjdngfmakbaaDoor.G
open Go.RowKit Go.Proofs.YtcldjdngfmakbaaDoor Go.Proofs.YtcldjdngfmakbaaDoorW.PrintWords
set_option linter.unusedVariables false
set_option linter.unusedSimpArgs false

instance decS33 : DecidableEq S33 := fun a b => decidable_of_iff (a.f0 = b.f0 ∧ a.f1 = b.f1 ∧ a.f2 = b.f2 ∧ a.f3 = b.f3) (by cases a; cases b; simp)
instance decS29 : DecidableEq S29 := fun a b => decidable_of_iff (a.f0 = b.f0 ∧ a.f1 = b.f1 ∧ a.f2 = b.f2 ∧ a.f3 = b.f3) (by cases a; cases b; simp)
def ex1 : ByteArray := ⟨#[226, 134, 145, 48, 44, 49, 55, 32, 226, 128, 162, 48]⟩
def ex2 : ByteArray := ⟨#[226, 134, 147, 48, 49]⟩
def l1 : List S33 := [⟨8593, [0, 17], true, 0⟩, ⟨8226, [0], true, 8⟩]
def l2 : List S33 := [⟨8595, [], false, 0⟩]
def r1 : List S29 := [⟨8593, [0, 17], true, 0⟩, ⟨8226, [0], true, 8⟩]
def r2 : List S29 := [⟨8595, [], false, 0⟩]
theorem parse_ex1 : parseF ex1 = l1 := by decide +kernel
theorem parse_ex2 : parseF ex2 = l2 := by decide +kernel
theorem as_l1 : hatstandlaw3_as.f 10 l1 = some r1 := by decide +kernel
theorem as_l2 : hatstandlaw3_as.f 10 l2 = some r2 := by decide +kernel
theorem same_r1 : hatstandref3_Same.f 10 r1 r1 true = some true := by decide +kernel
theorem same_r2 : hatstandref3_Same.f 10 r2 r2 true = some true := by decide +kernel

/-- A row of words that lies written out in one block. -/
theorem row_u64 {W : World} {g : Nat} {xs : List Int} (h : W.heap[g]? = some (.cells (nums .u64 xs).toArray 51 (0, 0))) (hl : xs.length ≤ 9223372036854775807) : (Kd.int .u64).C W (some ⟨g, 0, none⟩) xs.length xs := by
  refine ⟨rfl, hl, fun _ => ⟨_, rfl, fun j p hj => ⟨[.int .u64 p], rfl, rfl, fun i u hu => ?_⟩⟩⟩
  have e1 : (Kd.int IntKind.u64).sz = 1 := rfl
  match i, hu with
  | 0, hu =>
    simp at hu
    subst hu
    rw [add_plain, e1, Lib.cell_of_heap h]
    simp [nums, hj]
  | i + 1, hu => simp at hu

theorem c_r1 {W : World} {g1 g2 g3 : Nat} (h1 : W.heap[g1]? = some (.cells #[.int .u64 0, .int .u64 17] 51 (0, 0))) (h2 : W.heap[g2]? = some (.cells #[.int .u64 0] 51 (0, 0)))
    (h3 : W.heap[g3]? = some (.cells #[.int .i64 8593, .slice (some ⟨g1, 0, none⟩) 2 2, .bool true, .int .i64 0, .int .i64 8226, .slice (some ⟨g2, 0, none⟩) 1 1, .bool true, .int .i64 8] 29 (0, 0))) :
    Kd.C k29 W (some ⟨g3, 0, none⟩) r1.length r1 := by
  refine ⟨rfl, by decide, fun _ => ⟨_, rfl, fun j p hj => ?_⟩⟩
  match j, hj with
  | 0, hj =>
    cases hj
    refine ⟨_, rfl, k29_mk W ⟨8593, [0, 17], true, 0⟩ (A1 := some ⟨g1, 0, none⟩) (c1 := 2) (by decide) (row_u64 (xs := [0, 17]) h1 (by decide)), fun i u hu => ?_⟩
    have hi : i < 4 := by
      have := (List.getElem?_eq_some_iff.1 hu).1
      simpa using this
    rw [add_plain, Lib.cell_of_heap h3]
    match i, hu with
    | 0, hu => exact hu
    | 1, hu => exact hu
    | 2, hu => exact hu
    | 3, hu => exact hu
    | i + 4, _ => omega
  | 1, hj =>
    cases hj
    refine ⟨_, rfl, k29_mk W ⟨8226, [0], true, 8⟩ (A1 := some ⟨g2, 0, none⟩) (c1 := 1) (by decide) (row_u64 (xs := [0]) h2 (by decide)), fun i u hu => ?_⟩
    have hi : i < 4 := by
      have := (List.getElem?_eq_some_iff.1 hu).1
      simpa using this
    rw [add_plain, Lib.cell_of_heap h3]
    match i, hu with
    | 0, hu => exact hu
    | 1, hu => exact hu
    | 2, hu => exact hu
    | 3, hu => exact hu
    | i + 4, _ => omega
  | j + 2, hj => simp [r1] at hj

theorem c_r2 {W : World} {g3 : Nat} (h3 : W.heap[g3]? = some (.cells #[.int .i64 8595, .slice none 0 0, .bool false, .int .i64 0] 29 (0, 0))) :
    Kd.C k29 W (some ⟨g3, 0, none⟩) r2.length r2 := by
  refine ⟨rfl, by decide, fun _ => ⟨_, rfl, fun j p hj => ?_⟩⟩
  match j, hj with
  | 0, hj =>
    cases hj
    refine ⟨_, rfl, k29_mk W ⟨8595, [], false, 0⟩ (A1 := none) (c1 := 0) (by decide) (Kd.C_nil _ _), fun i u hu => ?_⟩
    have hi : i < 4 := by
      have := (List.getElem?_eq_some_iff.1 hu).1
      simpa using this
    rw [add_plain, Lib.cell_of_heap h3]
    match i, hu with
    | 0, hu => exact hu
    | 1, hu => exact hu
    | 2, hu => exact hu
    | 3, hu => exact hu
    | i + 4, _ => omega
  | j + 1, hj => simp [r2] at hj

def hatstandlaw3_shown.f : Option Bool := some true
set_option maxHeartbeats 4000000 in
set_option maxRecDepth 100000 in
theorem hatstandlaw3_shown.calls (r : Bool) (w : World) (hG : GG w) (h : hatstandlaw3_shown.f = some r) :
    Calls Tryd.prog 10 #[] w fun e w' => e = .returned (.bool r) ∧ Below w.heap.size w w' := by
  obtain rfl : true = r := Option.some.inj h
  clear h
  have HG := Lib.hid hG
  clear hG
  go_enter Tryd.func10, Tryd.ntmps10
  go_wp2_with fail
  refine (parse_walk ex1 _ (by decide) HG.out).mono ?_
  rintro e w1 ⟨v1, rfl, hS1, hb1⟩
  rw [parse_ex1] at hS1
  obtain ⟨A1, c1, hv1, hc1, hC1⟩ := Kd.S_reads hS1
  subst hv1
  have HS1 := Lib.hid hS1
  have HB1 := Lib.hid hb1
  have hs1 := hb1.size
  clear hS1 hb1 hC1
  go_wp2_with fail
  refine (parse_walk ex2 _ (by decide) (GG_at HG.out HB1.out)).mono ?_
  rintro e w2 ⟨v2, rfl, hS2, hb2⟩
  rw [parse_ex2] at hS2
  obtain ⟨A2, c2, hv2, hc2, hC2⟩ := Kd.S_reads hS2
  subst hv2
  have HS2 := Lib.hid hS2
  have HV1 := Lib.hid (Kd.S_V (base' := w2.heap.size) (Kd.S_below HS1.out hb2))
  have HB2 := Lib.hid (HB1.out.trans (hb2.mono hs1))
  have hs2 := hb2.size
  clear hS2 hb2 hC2 HS1
  go_wp2_with fail
  refine (hatstandlaw3_as.calls 10 (fun _ => True) A1 c1 l1 r1 _ HV1.out as_l1).mono ?_
  rintro e w3 ⟨v3, rfl, hN3, hb3⟩
  obtain ⟨A3, c3, hv3⟩ := Kd.N_slice hN3
  subst hv3
  have HN3 := Lib.hid hN3
  have HV2 := Lib.hid (Kd.S_V (base' := w2.heap.size) (Kd.S_below HS2.out hb3))
  have HB3 := Lib.hid (HB2.out.trans (hb3.mono (by omega)))
  have hs3 := hb3.size
  clear hN3 hb3 HS2
  go_wp2_with fail
  obtain ⟨w4, hw4⟩ : ∃ w4, w4 = (((w3.alloc (.cells #[.int .u64 0, .int .u64 17] 51)).alloc (.cells #[.int .u64 0] 51)).alloc (.cells #[.int .i64 8593, .slice (some ⟨w3.heap.size, 0, none⟩) 2 2, .bool true, .int .i64 0, .int .i64 8226, .slice (some ⟨w3.heap.size + 1, 0, none⟩) 1 1, .bool true, .int .i64 8] 29)) := ⟨_, rfl⟩
  have hb34 : Below w3.heap.size w3 w4 := by rw [hw4]; exact below_alloc (below_alloc (below_alloc (Below.refl _ _) _) _) _
  have g1 : w4.heap[w3.heap.size]? = some (.cells #[.int .u64 0, .int .u64 17] 51 (0, 0)) := by
    rw [hw4, Below.heap_alloc _ _ _ (by simp; omega), Below.heap_alloc _ _ _ (by simp)]; exact heap_alloc_new w3 _
  have g2 : w4.heap[w3.heap.size + 1]? = some (.cells #[.int .u64 0] 51 (0, 0)) := by
    rw [hw4, Below.heap_alloc _ _ _ (by simp)]
    have := heap_alloc_new (w3.alloc (.cells #[.int .u64 0, .int .u64 17] 51)) (.cells #[.int .u64 0] 51)
    simpa using this
  have g3 : w4.heap[w3.heap.size + 1 + 1]? = some (.cells #[.int .i64 8593, .slice (some ⟨w3.heap.size, 0, none⟩) 2 2, .bool true, .int .i64 0, .int .i64 8226, .slice (some ⟨w3.heap.size + 1, 0, none⟩) 1 1, .bool true, .int .i64 8] 29 (0, 0)) := by
    rw [hw4]
    have := heap_alloc_new ((w3.alloc (.cells #[.int .u64 0, .int .u64 17] 51)).alloc (.cells #[.int .u64 0] 51)) (.cells #[.int .i64 8593, .slice (some ⟨w3.heap.size, 0, none⟩) 2 2, .bool true, .int .i64 0, .int .i64 8226, .slice (some ⟨w3.heap.size + 1, 0, none⟩) 1 1, .bool true, .int .i64 8] 29)
    simpa using this
  rw [← hw4]
  have HC := Lib.hid (c_r1 g1 g2 g3)
  have hn3 := (Kd.N_reads' HN3.out)
  have HCA := Lib.hid (Kd.C_below hn3.2.2 hb34)
  have hc3 := hn3.2.1
  have HV4 := Lib.hid (Kd.V_below HV2.out hb34)
  have HB4 := Lib.hid (HB3.out.trans (hb34.mono (by omega)))
  have hs4 := hb34.size
  clear hw4 hb34 g1 g2 g3 hn3
  refine (hatstandref3_Same.calls 10 A3 c3 r1 _ 2 r1 true true _ HCA.out hc3 HC.out (by decide) same_r1).mono ?_
  rintro e w' ⟨rfl, ⟨nd, rfl⟩⟩
  have HV5 := Lib.hid (Kd.V_drewN HV4.out nd)
  have hb5 : Below w.heap.size w (w4.drewN nd) := pw_below_drewN HB4.out nd
  have hs5 : w4.heap.size = (w4.drewN nd).heap.size := rfl
  obtain ⟨w5, hw5⟩ : ∃ w5, w5 = w4.drewN nd := ⟨_, rfl⟩
  rw [← hw5] at HV5 hb5 hs5 ⊢
  have HB5 := Lib.hid hb5
  have hs45 : w4.heap.size ≤ w5.heap.size := by omega
  clear hw5 hb5 hs5
  go_wp2_with fail
  refine (hatstandlaw3_as.calls 10 (fun _ => True) A2 c2 l2 r2 _ HV5.out as_l2).mono ?_
  rintro e w6 ⟨v6, rfl, hN6, hb6⟩
  obtain ⟨A6, c6, hv6⟩ := Kd.N_slice hN6
  subst hv6
  have HN6 := Lib.hid hN6
  have HB6 := Lib.hid (HB5.out.trans (hb6.mono (by omega)))
  have hs6 := hb6.size
  clear hN6 hb6
  go_wp2_with fail
  obtain ⟨w7, hw7⟩ : ∃ w7, w7 = w6.alloc (.cells #[.int .i64 8595, .slice none 0 0, .bool false, .int .i64 0] 29) := ⟨_, rfl⟩
  have hb67 : Below w6.heap.size w6 w7 := by rw [hw7]; exact below_alloc (Below.refl _ _) _
  have g7 : w7.heap[w6.heap.size]? = some (.cells #[.int .i64 8595, .slice none 0 0, .bool false, .int .i64 0] 29 (0, 0)) := by rw [hw7]; exact heap_alloc_new w6 _
  rw [← hw7]
  have hn6 := Kd.N_reads' HN6.out
  have HC7 := Lib.hid (c_r2 g7)
  have HCA7 := Lib.hid (Kd.C_below hn6.2.2 hb67)
  have hc6 := hn6.2.1
  have HB7 := Lib.hid (HB6.out.trans (hb67.mono (by omega)))
  clear hw7 hb67 g7 hn6
  refine (hatstandref3_Same.calls 10 A6 c6 r2 _ 1 r2 true true _ HCA7.out hc6 HC7.out (by decide) same_r2).mono ?_
  rintro e w' ⟨rfl, ⟨nd7, rfl⟩⟩
  go_wp2_with fail
  go_ret
  exact ⟨rfl, pw_below_drewN HB7.out nd7⟩
end Go.Proofs.YtcldjdngfmakbaaDoor.G
