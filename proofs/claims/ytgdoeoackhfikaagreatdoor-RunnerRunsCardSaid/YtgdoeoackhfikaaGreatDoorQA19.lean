/-
  Parts of the proof of runnerSkips_holds: RunGood, ErrsA, FreshOk, FirstA, FirstB, FirstC, LawH, LawI.
-/
import Derived.Test.YtgdoeoackhfikaaGreatDoorQA18
import Derived.Test.YtgdoeoackhfikaaGreatDoorQA17
import Derived.Test.YtgdoeoackhfikaaGreatDoorQA8
import Derived.Test.YtgdoeoackhfikaaGreatDoorQA6
import Derived.Test.YtgdoeoackhfikaaGreatDoorQA2
namespace Go.Proofs.YtgdoeoackhfikaaGreatDoor
open Go.RowKit Go.Proofs.YtgdoeoackhfikaaGreatDoorW.PrintWords
set_option maxRecDepth 100000
set_option linter.unusedSimpArgs false
set_option linter.unusedVariables false
theorem Run.Inv.few {k : Nat} {σ : Run} (h : σ.Inv k) (hk : k < 1000000) : σ.Few := ⟨by have := h.picks; omega, by have := h.evs; omega, by have := h.draws; omega⟩
theorem Run.Inv.steps {k : Nat} {σ : Run} (h : σ.Inv k) (hk : k < 1000000) (e : Ent) : σ.Steps e := by
 intro _ x y hx hy
 obtain ⟨h1, h2, h3⟩ := (h.ths x (List.mem_of_getElem? hx)).2.2 y hy
 exact opSteps_ok y σ.mem σ.src k hk h3 h1 (by have := h.notes; omega)
theorem parseF_len (s : ByteArray) : (parseF s).length ≤ s.size := by
 rw [G.parseF_L]
 have := G.parseL_len s.data.toList
 simpa using this
theorem parseF_range (s : ByteArray) : ∀ e ∈ parseF s, ∀ z ∈ e.f1, 0 ≤ z ∧ z < 18446744073709551616 := by
 rw [G.parseF_L]
 exact G.parseL_range _
end Go.Proofs.YtgdoeoackhfikaaGreatDoor

namespace Go.Proofs.YtgdoeoackhfikaaGreatDoor
open Go.RowKit Go.Proofs.YtgdoeoackhfikaaGreatDoorW.PrintWords
set_option maxRecDepth 100000
set_option maxHeartbeats 4000000
set_option linter.unusedSimpArgs false
set_option linter.unusedVariables false
attribute [local go_sem] hs_other hs_alloc hs_falloc
attribute [local go_sem ↓] Go.wp_at_zero Go.wp_at_succ
def c2 : ECfg := ⟨⟨4, 2, 0, 5⟩, 1, 2, 2⟩
theorem wf_i64 {z : Int} (h : (Lit.int .i64 z).wf = true) : -9223372036854775808 ≤ z ∧ z ≤ 9223372036854775807 := by
 have h2 : -9223372036854775808 ≤ z ∧ z ≤ 9223372036854775807 := by simpa [Lit.wf, IntKind.min, IntKind.max, IntKind.signed, IntKind.bits] using h
 exact h2
end Go.Proofs.YtgdoeoackhfikaaGreatDoor

namespace Go.Proofs.YtgdoeoackhfikaaGreatDoor
open Go.RowKit Go.Proofs.YtgdoeoackhfikaaGreatDoorW.PrintWords
set_option linter.unusedVariables false
set_option linter.unusedSimpArgs false
theorem packWord_f (i t : Int) (hi : 0 ≤ i ∧ i < 4294967296) (ht : 0 ≤ t ∧ t < 4294967296) : G.pack_Word.f i t = some (wordOf i t) := by
 unfold G.pack_Word.f
 have w : ∀ z : Int, 0 ≤ z → z < 18446744073709551616 → IntKind.u64.wrap z = z := fun z h1 h2 => by
  have : IntKind.u64.wrap z = z % 18446744073709551616 := by simp [IntKind.wrap, IntKind.bits, IntKind.signed]
  rw [this]; omega
 rw [w i (by omega) (by omega), w t (by omega) (by omega), w (t * 4294967296) (by omega) (by omega), or_halves i t hi ht]
def inU64 (l : List Int) : Prop := ∀ z ∈ l, 0 ≤ z ∧ z < 18446744073709551616
theorem inU64_set {l : List Int} (h : inU64 l) (k : Nat) {z : Int} (hz : 0 ≤ z ∧ z < 18446744073709551616) : inU64 (l.set k z) := fun y hy => by
 rcases List.mem_or_eq_of_mem_set hy with h1 | h1
 ·exact h y h1
 ·rw [h1]; exact hz
theorem fresh_l1 (c : LCfg) (hc : c.right) (ht : 0 ≤ c.tag ∧ c.tag < 4294967296) : ∀ (d : Nat) (x5 : List Int) (x : Int), 0 ≤ x → x + d = c.slots → (x5.length : Int) = c.cells → inU64 x5 → ∃ ws, G.layout_Fresh.l1 (d + 1) x5 c.slots x c.nodes c.slots c.holders c.tag = some (ws, 0) ∧ (ws.length : Int) = c.cells ∧ inU64 ws
 | 0, x5, x, h0, hx, hl, hr => by
  refine ⟨x5, ?_, hl, hr⟩
  rw [G.layout_Fresh.l1]
  rw [if_neg (by omega)]
 | d + 1, x5, x, h0, hx, hl, hr => by
  have hcr := hc
  obtain ⟨h1, h2, h3, h4, h5, h6⟩ := hcr
  have hs : G.layout_Config_Slot.f c.nodes c.slots c.holders c.tag x = some (2 + 2 * c.nodes + x) := by
   unfold G.layout_Config_Slot.f
   rw [if_pos ⟨hc, by omega, by omega⟩]
   show some (LCfg.slotAt _ x) = _
   unfold LCfg.slotAt
   rw [if_pos (show 0 ≤ x ∧ x < (G.cfgOf c.nodes c.slots c.holders c.tag).slots from ⟨h0, by show x < c.slots; omega⟩)]
   rfl
  have hw := packWord_f 0 c.tag (by omega) ht
  have hcl : c.cells = 2 + 2 * c.nodes + c.slots + c.holders := rfl
  have hwr : wrap64 (x + 1) = x + 1 := by unfold wrap64; omega
  obtain ⟨ws, e1, e2, e3⟩ := fresh_l1 c hc ht d (x5.set (2 + 2 * c.nodes + x).toNat (wordOf 0 c.tag)) (x + 1) (by omega) (by omega) (by rw [List.length_set]; exact hl) (inU64_set hr _ (by unfold wordOf; omega))
  refine ⟨ws, ?_, e2, e3⟩
  rw [G.layout_Fresh.l1]
  rw [if_pos (by omega), hs]
  simp only [Option.bind_some]
  rw [hw]
  simp only [Option.bind_some]
  rw [if_pos (by omega), if_pos (by omega), hwr]
  exact e1
theorem fresh_l0 (c : LCfg) (hc : c.right) (ht : 0 ≤ c.tag ∧ c.tag < 4294967296) : ∀ (d : Nat) (x5 : List Int) (x : Int), 1 ≤ x → x + d = c.nodes → (x5.length : Int) = c.cells → inU64 x5 → ∃ ws, G.layout_Fresh.l0 (d + 1 + (c.slots.toNat + 1)) x5 x c.nodes c.slots c.holders c.tag = some (ws, 0) ∧ (ws.length : Int) = c.cells ∧ inU64 ws
 | 0, x5, x, h0, hx, hl, hr => by
  have hcr := hc
  obtain ⟨h1, h2, h3, h4, h5, h6⟩ := hcr
  obtain ⟨ws, e1, e2, e3⟩ := fresh_l1 c hc ht c.slots.toNat x5 0 (by omega) (by omega) hl hr
  refine ⟨ws, ?_, e2, e3⟩
  have hwr : wrap64 x = x := by unfold wrap64; omega
  rw [show 0 + 1 + (c.slots.toNat + 1) = (c.slots.toNat + 1) + 1 from by omega, G.layout_Fresh.l0]
  rw [hwr, if_neg (by omega)]
  exact e1
 | d + 1, x5, x, h0, hx, hl, hr => by
  have hcr := hc
  obtain ⟨h1, h2, h3, h4, h5, h6⟩ := hcr
  have hs : G.layout_Config_Next.f c.nodes c.slots c.holders c.tag x = some (2 * x) := by
   unfold G.layout_Config_Next.f
   rw [if_pos ⟨hc, by omega, by omega⟩]
   show some (LCfg.nextAt _ x) = _
   unfold LCfg.nextAt
   rw [if_pos (show 1 ≤ x ∧ x ≤ (G.cfgOf c.nodes c.slots c.holders c.tag).nodes from ⟨h0, by show x ≤ c.nodes; omega⟩)]
  have hcl : c.cells = 2 + 2 * c.nodes + c.slots + c.holders := rfl
  have hwr : wrap64 x = x := by unfold wrap64; omega
  have hm : (x + 1) % 4294967296 = x + 1 := by omega
  obtain ⟨ws, e1, e2, e3⟩ := fresh_l0 c hc ht d (x5.set (2 * x).toNat (x + 1)) (x + 1) (by omega) (by omega) (by rw [List.length_set]; exact hl) (inU64_set hr _ (by omega))
  refine ⟨ws, ?_, e2, e3⟩
  rw [show d + 1 + 1 + (c.slots.toNat + 1) = (d + 1 + (c.slots.toNat + 1)) + 1 from by omega, G.layout_Fresh.l0]
  rw [hwr, if_pos (by omega), hs]
  simp only [Option.bind_some]
  rw [if_pos (by omega), if_pos (by omega), hm]
  exact e1
theorem fresh_ok (c : LCfg) (hc : c.right) (ht : 0 ≤ c.tag ∧ c.tag < 4294967296) (hchk : G.layout_Check.f c.nodes c.slots c.holders c.tag = some 0) : ∃ k ws, G.layout_Fresh.f k c.nodes c.slots c.holders c.tag = some (ws, 0) ∧ 0 < ws.length ∧ ws.length ≤ 1024 ∧ inU64 ws := by
 have hcr := hc
 obtain ⟨h1, h2, h3, h4, h5, h6⟩ := hcr
 have hcl : c.cells = 2 + 2 * c.nodes + c.slots + c.holders := rfl
 have hf : G.layout_Config_Cells.f c.nodes c.slots c.holders c.tag = some c.cells := by
  unfold G.layout_Config_Cells.f
  exact if_pos hc
 have hlen : ((((List.replicate c.cells.toNat (0 : Int)).set 0 (wordOf 0 c.tag)).set 1 (wordOf 1 c.tag)).length : Int) = c.cells := by simp; omega
 have hin : inU64 (((List.replicate c.cells.toNat (0 : Int)).set 0 (wordOf 0 c.tag)).set 1 (wordOf 1 c.tag)) := by
  refine inU64_set (inU64_set (fun z hz => ?_) _ (by unfold wordOf; omega)) _ (by unfold wordOf; omega)
  rw [(List.mem_replicate.1 hz).2]
  omega
 obtain ⟨ws, e1, e2, e3⟩ := fresh_l0 c hc ht (c.nodes - 1).toNat _ 1 (by omega) (by omega) hlen hin
 refine ⟨(c.nodes - 1).toNat + 1 + (c.slots.toNat + 1), ws, ?_, by omega, by omega, e3⟩
 unfold G.layout_Fresh.f
 rw [hchk]
 simp only [Option.bind_some]
 rw [if_pos trivial, hf]
 simp only [Option.bind_some]
 rw [if_pos (by omega), if_pos (by omega), packWord_f 0 c.tag (by omega) ht]
 simp only [Option.bind_some]
 rw [packWord_f 1 c.tag (by omega) ht]
 simp only [Option.bind_some]
 rw [if_pos (by simp; omega), if_pos (by simp; omega)]
 exact e1
theorem sameWords_refl (l : List Int) (hl : l.length ≤ 1000000) : ∃ k, G.hatstandref2_SameWords.f k l l = some true := by
 have h : ∀ (d : Nat) (x : Int), 0 ≤ x → x + d = l.length → G.hatstandref2_SameWords.l0 (d + 1) l l x = some true := by
  intro d
  induction d with
  | zero =>
   intro x h0 hx
   rw [G.hatstandref2_SameWords.l0, if_neg (by omega)]
  | succ d ih =>
   intro x h0 hx
   have hw : wrap64 (x + 1) = x + 1 := by unfold wrap64; omega
   rw [G.hatstandref2_SameWords.l0, if_pos (by omega), if_pos (by omega), if_pos (by omega), if_pos rfl, hw]
   exact ih (x + 1) (by omega) (by omega)
 refine ⟨l.length + 1, ?_⟩
 unfold G.hatstandref2_SameWords.f
 rw [if_pos rfl]
 exact h l.length 0 (by omega) (by omega)
end Go.Proofs.YtgdoeoackhfikaaGreatDoor

namespace Go.Proofs.YtgdoeoackhfikaaGreatDoor
open Go.RowKit Go.Proofs.YtgdoeoackhfikaaGreatDoorW.PrintWords
set_option maxRecDepth 100000
set_option maxHeartbeats 4000000
set_option linter.unusedSimpArgs false
set_option linter.unusedVariables false
attribute [local go_sem] hs_other hs_alloc hs_falloc
attribute [local go_sem ↓] Go.wp_at_zero Go.wp_at_succ
end Go.Proofs.YtgdoeoackhfikaaGreatDoor

namespace Go.Proofs.YtgdoeoackhfikaaGreatDoor
open Go.RowKit Go.Proofs.YtgdoeoackhfikaaGreatDoorW.PrintWords
set_option maxRecDepth 100000
set_option maxHeartbeats 4000000
set_option linter.unusedSimpArgs false
set_option linter.unusedVariables false
attribute [local go_sem] hs_other hs_alloc hs_falloc
attribute [local go_sem ↓] Go.wp_at_zero Go.wp_at_succ
end Go.Proofs.YtgdoeoackhfikaaGreatDoor

namespace Go.Proofs.YtgdoeoackhfikaaGreatDoor
open Go.RowKit Go.Proofs.YtgdoeoackhfikaaGreatDoorW.PrintWords
set_option maxRecDepth 100000
set_option maxHeartbeats 4000000
set_option linter.unusedSimpArgs false
set_option linter.unusedVariables false
attribute [local go_sem] hs_other hs_alloc hs_falloc
attribute [local go_sem ↓] Go.wp_at_zero Go.wp_at_succ
theorem nums_C {w : World} {base e : Nat} {A : Option Addr} {c : Nat} {l : List Int} (h : w.ownsRow base e 1 (.slice A l.length c) l.length (nums .u64 l)) : Kd.C (Kd.int .u64) w A l.length l ∧ l.length ≤ c := by
 have h2 : Kd.R (Kd.int .u64) e w base (fun _ => True) (.slice A l.length c) l := Kd.R_of_own (by exact h) (fun _ _ => trivial)
 exact ⟨(Kd.R_reads' h2).2.2, (Kd.R_reads' h2).2.1⟩
end Go.Proofs.YtgdoeoackhfikaaGreatDoor

namespace Go.Proofs.YtgdoeoackhfikaaGreatDoor
open Go.RowKit Go.Proofs.YtgdoeoackhfikaaGreatDoorW.PrintWords
set_option maxRecDepth 100000
set_option linter.unusedSimpArgs false
set_option linter.unusedVariables false
theorem pick_ok (a : Int) (ha : -9223372036854775808 ≤ a ∧ a ≤ 9223372036854775807) (n : Int) (hn : 0 < n ∧ n ≤ 1000000000) : ∃ z : Int, 0 ≤ z ∧ z < n ∧ G.hatstandlaw17_pick.f a n = some z := by
 unfold G.hatstandlaw17_pick.f
 by_cases h : a < 0
 ·rw [if_pos h, if_neg (by omega)]
  have e1 : wrap64 (a + 1) = a + 1 := by unfold wrap64; omega
  have e2 : wrap64 (-(a + 1)) = -(a + 1) := by unfold wrap64; omega
  rw [e1, e2]
  have h1 : 0 ≤ Int.tmod (-(a + 1)) n := Int.tmod_nonneg _ (by omega)
  have h2 : Int.tmod (-(a + 1)) n < n := Int.tmod_lt_of_pos _ (by omega)
  exact ⟨_, h1, h2, rfl⟩
 ·rw [if_neg h, if_neg (by omega)]
  have h1 : 0 ≤ Int.tmod a n := Int.tmod_nonneg _ (by omega)
  have h2 : Int.tmod a n < n := Int.tmod_lt_of_pos _ (by omega)
  exact ⟨_, h1, h2, rfl⟩
theorem config_ok (a0 a1 a2 tag : Int) (h0 : -9223372036854775808 ≤ a0 ∧ a0 ≤ 9223372036854775807) (h1 : -9223372036854775808 ≤ a1 ∧ a1 ≤ 9223372036854775807) (h2 : -9223372036854775808 ≤ a2 ∧ a2 ≤ 9223372036854775807) (ht : 0 ≤ tag ∧ tag < 4294967296) :
  ∃ c : ECfg, c.right ∧ (0 ≤ c.wait ∧ c.wait < 18446744073709551616) ∧ c.l.tag = tag ∧ c.l.holders = 0 ∧ c.l.nodes ≤ 6 ∧ c.l.slots ≤ 3 ∧ G.hatstandlaw17_config.f a0 a1 a2 tag = some (c.l.nodes, c.l.slots, c.l.holders, c.l.tag, c.budget, c.base, c.wait) := by
 obtain ⟨p0, u0, v0, e0⟩ := pick_ok a0 h0 6 (by decide)
 obtain ⟨p1, u1, v1, e1⟩ := pick_ok a1 h1 4 (by decide)
 obtain ⟨p2, u2, v2, e2⟩ := pick_ok a2 h2 4 (by decide)
 obtain ⟨p3, u3, v3, e3⟩ := pick_ok a2 h2 3 (by decide)
 obtain ⟨p4, u4, v4, e4⟩ := pick_ok a1 h1 7 (by decide)
 have w1 : wrap64 (1 + p0) = 1 + p0 := by unfold wrap64; omega
 have w2 : wrap64 (1 + p3) = 1 + p3 := by unfold wrap64; omega
 have w3 : IntKind.u64.wrap p4 = p4 := by simp [IntKind.wrap, IntKind.bits, IntKind.signed]; omega
 refine ⟨⟨⟨1 + p0, p1, 0, tag⟩, p2, 1 + p3, p4⟩, ⟨⟨by show 1 ≤ _; dsimp only; omega, by dsimp only; omega, by dsimp only; omega, by dsimp only; omega, by dsimp only; omega, by dsimp only; omega⟩, by dsimp only; omega, by dsimp only; omega, by dsimp only; omega, by dsimp only; omega⟩, by dsimp only; omega, rfl, rfl, by dsimp only; omega, by dsimp only; omega, ?_⟩
 unfold G.hatstandlaw17_config.f
 simp only [e0, e1, e2, e3, e4, Option.bind_some, w1, w2, w3]
def evR (e : G.S64) : G.S116 := ⟨e.f0, e.f1, e.f2, e.f3, e.f4⟩
theorem asEvents_all (l : List G.S64) (hl : l.length ≤ 1000000) : ∃ k, G.hatstandlaw17_asEvents.f k l = some (l.map evR) := by
 have h : ∀ (d j : Nat), j + d = l.length → G.hatstandlaw17_asEvents.l0 (d + 1) l ((l.take j).map evR) j = some (l.map evR) := by
  intro d
  induction d with
  | zero =>
   intro j hj
   rw [G.hatstandlaw17_asEvents.l0, if_neg (by omega), List.take_of_length_le (by omega)]
  | succ d ih =>
   intro j hj
   have hw : wrap64 ((j : Int) + 1) = ((j + 1 : Nat) : Int) := by unfold wrap64; omega
   have hlt : j < l.length := by omega
   have hn : (l.take (j + 1)).map evR = (l.take j).map evR ++ [evR (l.getD j G.z64)] := by
    rw [List.take_add_one, List.getElem?_eq_getElem hlt, List.map_append, List.getD_eq_getElem?_getD, List.getElem?_eq_getElem hlt]
    rfl
   rw [G.hatstandlaw17_asEvents.l0, if_pos (by omega), if_pos (by omega), if_pos (by rw [List.length_map, List.length_take]; omega), hw]
   have := ih (j + 1) (by omega)
   rw [hn] at this
   exact this
 exact ⟨l.length + 1, h l.length 0 (by omega)⟩
theorem same_refl (l : List G.S116) (hl : l.length ≤ 1000000) : ∃ k, G.hatstandlaw17_same.f k l l = some true := by
 have h : ∀ (d j : Nat), j + d = l.length → G.hatstandlaw17_same.l0 (d + 1) l l j = some true := by
  intro d
  induction d with
  | zero =>
   intro j hj
   rw [G.hatstandlaw17_same.l0, if_neg (by omega)]
  | succ d ih =>
   intro j hj
   have hw : wrap64 ((j : Int) + 1) = ((j + 1 : Nat) : Int) := by unfold wrap64; omega
   rw [G.hatstandlaw17_same.l0, if_pos (by omega), if_pos (by omega), if_pos (by omega)]
   simp only [beq_self_eq_true, Bool.not_true, Bool.or_self]
   rw [if_neg (by simp), hw]
   exact ih (j + 1) (by omega)
 exact ⟨l.length + 1, by unfold G.hatstandlaw17_same.f; rw [if_pos rfl]; exact h l.length 0 (by omega)⟩
theorem events_as (W : World) (B : RB) (σ : Run) (h : RunAt W B σ) (hf : σ.Few) (hl : σ.evs.length ≤ 1000000) :
  Calls Tryz.prog 18 #[.pointer (some ⟨B.r, 0, none⟩)] W fun e w' => ∃ (A : Option Addr) (c : Nat), e = .returned (.slice A σ.evs.length c) ∧ Kp (fun _ => False) W w' ∧
   (w'.ownsRow W.heap.size 64 5 (.slice A σ.evs.length c) σ.evs.length (σ.evs.flatMap evV)) ∧
   (∀ V, Kp (fun _ => False) w' V → Calls Tryz.prog 22 #[.slice A σ.evs.length c] V fun e w2 => ∃ (A2 : Option Addr) (c2 : Nat), e = .returned (.slice A2 σ.evs.length c2) ∧ Kp (fun _ => False) V w2 ∧ ∀ V2, Kp (fun _ => False) w2 V2 → Kd.C G.k116 V2 A2 σ.evs.length ((σ.evs.map evS).map evR) ∧ σ.evs.length ≤ c2) := by
 refine (runner_Events W B σ h hf).mono ?_
 rintro e w1 ⟨v1, rfl, ho, hk⟩
 obtain ⟨A, c, rfl⟩ := row_slice ho
 refine ⟨A, c, rfl, hk, ho, fun V hkV => ?_⟩
 obtain ⟨hC, hc⟩ := evs_C (hkV.row ho (fun _ _ e => e))
 obtain ⟨k, hka⟩ := asEvents_all (σ.evs.map evS) (by rw [List.length_map]; exact hl)
 have hlm : (σ.evs.map evS).length = σ.evs.length := List.length_map ..
 have hlr : ((σ.evs.map evS).map evR).length = σ.evs.length := by rw [List.length_map, List.length_map]
 have := G.hatstandlaw17_asEvents.calls k A c (σ.evs.map evS) _ V (by rw [hlm]; exact hC) (by rw [hlm]; exact hc) hka
 rw [hlm] at this
 refine this.mono ?_
 rintro e w2 ⟨v2, rfl, hR, hb⟩
 obtain ⟨A2, c2, rfl⟩ := Kd.N_slice (Kd.R_N hR)
 have hx := Kd.R_reads' hR
 rw [hlr] at hx ⊢
 exact ⟨A2, c2, rfl, Kp.nb hb, fun V2 hk2 => ⟨Kd.C_below hx.2.2 hk2.blw, hx.2.1⟩⟩
theorem events_same (V : World) (A1 A2 : Option Addr) (c1 c2 : Nat) (n : Nat) (l : List G.S116) (hn : l.length = n) (hl : n ≤ 1000000) (h1 : Kd.C G.k116 V A1 n l ∧ n ≤ c1) (h2 : Kd.C G.k116 V A2 n l ∧ n ≤ c2) :
  Calls Tryz.prog 21 #[.slice A1 n c1, .slice A2 n c2] V fun e w' => e = .returned (.bool true) ∧ Kp (fun _ => False) V w' := by
 obtain ⟨k, hk⟩ := same_refl l (by omega)
 subst hn
 refine (G.hatstandlaw17_same.calls k A1 c1 l A2 c2 l true V h1.1 h1.2 h2.1 h2.2 hk).mono ?_
 rintro e w' ⟨rfl, hd⟩
 exact ⟨rfl, Kp.nb hd.below⟩
theorem words_row (W : World) (b : MB) (σ : MemS) (h : MemAt W b σ) :
  Calls Tryz.prog 25 #[.pointer (some ⟨b.m, 0, none⟩)] W fun e w' => ∃ (A : Option Addr) (c : Nat), e = .returned (.slice A σ.words.length c) ∧ Kp (fun _ => False) W w' ∧ ∀ V, Kp (fun _ => False) w' V → Kd.C (Kd.int .u64) V A σ.words.length σ.words ∧ σ.words.length ≤ c := by
 refine (mem_Words W b σ h).mono ?_
 rintro e w1 ⟨v1, rfl, ho, hk⟩
 obtain ⟨A, c, rfl⟩ := row_slice ho
 exact ⟨A, c, rfl, hk, fun V hkV => nums_C (hkV.row ho (fun _ _ e => e))⟩
theorem words_same (V : World) (A1 A2 : Option Addr) (c1 c2 : Nat) (l : List Int) (hl : l.length ≤ 1000000) (h1 : Kd.C (Kd.int .u64) V A1 l.length l ∧ l.length ≤ c1) (h2 : Kd.C (Kd.int .u64) V A2 l.length l ∧ l.length ≤ c2) :
  Calls Tryz.prog 23 #[.slice A1 l.length c1, .slice A2 l.length c2] V fun e w' => e = .returned (.bool true) ∧ Kp (fun _ => False) V w' := by
 obtain ⟨k, hk⟩ := sameWords_refl l hl
 refine (G.hatstandref2_SameWords.calls k A1 c1 l A2 c2 l true V h1.1 h1.2 h2.1 h2.2 hk).mono ?_
 rintro e w' ⟨rfl, hd⟩
 exact ⟨rfl, Kp.nb hd.below⟩
theorem stack_made (c : ECfg) (hc : c.right) (hw : 0 ≤ c.wait ∧ c.wait < 18446744073709551616) (htg : 0 ≤ c.l.tag ∧ c.l.tag < 4294967296) : ∃ ws : List Int, ws.length ≤ 1024 ∧ ∀ (n : Nat) (hn : 1 ≤ n ∧ n ≤ 8) (W : World), Calls Tryz.prog 12 #[c.v, .int .i64 n] W fun e w' => ∃ B : RB, e = .returned (.tuple #[.pointer (some ⟨B.r, 0, none⟩), .pointer (some ⟨B.k, 0, none⟩), .int .i64 0]) ∧ RunAt w' B (newRun c n ws) ∧ Kp (fun _ => False) W w' ∧ (∀ k, B.all k → W.heap.size ≤ k) := by
 have hchk : G.layout_Check.f c.l.nodes c.l.slots c.l.holders c.l.tag = some 0 := by rw [layoutCheck_f, if_pos hc.1]
 obtain ⟨kf, ws, hF, h0, hl, hx⟩ := fresh_ok c.l hc.1 htg hchk
 exact ⟨ws, hl, fun n hn W => runner_Stack W c hc hw n hn kf ws hF h0 hl hx⟩
theorem RunAt.beside {w w' : World} {B B' C : RB} {σ : Run} (h : RunAt w C σ) (hk : Kp B.all w w') (hd : ∀ k, C.all k → ¬ B.all k) (hB : ∀ k, B'.all k → B.all k ∨ w.heap.size ≤ k) : RunAt w' C σ ∧ ∀ k, C.all k → ¬ B'.all k := by
 refine ⟨h.kept hk hd, fun k hk' e => ?_⟩
 rcases hB k e with h1 | h1
 ·exact hd k hk' h1
 ·have := h.all_lt hk'
  omega
end Go.Proofs.YtgdoeoackhfikaaGreatDoor

namespace Go.Proofs.YtgdoeoackhfikaaGreatDoor
open Go.RowKit Go.Proofs.YtgdoeoackhfikaaGreatDoorW.PrintWords
set_option maxRecDepth 100000
set_option maxHeartbeats 4000000
set_option linter.unusedSimpArgs false
set_option linter.unusedVariables false
theorem wf_u32 {z : Int} (h : (Lit.int .u32 z).wf = true) : 0 ≤ z ∧ z < 4294967296 := by
 have h2 : 0 ≤ z ∧ z ≤ 4294967295 := by simpa [Lit.wf, IntKind.min, IntKind.max, IntKind.signed, IntKind.bits] using h
 omega
theorem wrap_succ (j : Nat) (h : j ≤ 1000000) : wrap64 ((j : Int) + 1) = ((j + 1 : Nat) : Int) := by
 have e1 : ((j + 1 : Nat) : Int) = (j : Int) + 1 := by push_cast; rfl
 rw [e1]
 unfold wrap64
 omega
end Go.Proofs.YtgdoeoackhfikaaGreatDoor
