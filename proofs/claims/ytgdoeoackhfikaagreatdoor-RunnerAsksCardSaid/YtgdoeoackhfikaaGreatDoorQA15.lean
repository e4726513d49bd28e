/-
  Parts of the proof of runnerSkips_holds: SrcD, ElimA, ElimB, ElimC, OpM, OpN.
-/
import Derived.Test.YtgdoeoackhfikaaGreatDoorQA5
import Derived.Test.YtgdoeoackhfikaaGreatDoorQA10
import Derived.Test.YtgdoeoackhfikaaGreatDoorQA12
import Derived.Deep.RegionWith
import Derived.Test.YtgdoeoackhfikaaGreatDoorQA9
import Derived.Test.YtgdoeoackhfikaaGreatDoorQA11
namespace Go.Proofs.YtgdoeoackhfikaaGreatDoor
open Go.RowKit Go.Proofs.YtgdoeoackhfikaaGreatDoorW.PrintWords
set_option maxRecDepth 100000
set_option maxHeartbeats 4000000
set_option linter.unusedSimpArgs false
set_option linter.unusedVariables false
attribute [local go_sem] hs_other hs_alloc hs_falloc
attribute [local go_sem ↓] Go.wp_at_zero Go.wp_at_succ
theorem addr_add1 (g k j : Nat) : (⟨g, k, none⟩ : Addr).add j = ⟨g, k + j, none⟩ := by
 unfold Addr.add
 split
 ·rename_i h; subst h; rfl
 ·rfl
theorem source_Draw_some (w : World) (s : Nat) (dv : Value) (r : SrcS) (h : SrcAt w s dv r) (n : Int) (hn : ¬ (n < 1 ∨ r.draws = [])) :
  Calls Tryz.prog 258 #[.pointer (some ⟨s, 0, none⟩), .int .i64 n] w fun e w' => e = .returned (.int .i64 (r.drawn n)) ∧ SrcPost w s dv (r.rest n) w' := by
 have hdrawn : r.drawn n = r.draws.headD 0 % n := by unfold SrcS.drawn; rw [if_neg hn]
 have hrest : r.rest n = { r with draws := r.draws.tail } := by unfold SrcS.rest; rw [if_neg hn]
 rw [hdrawn, hrest]
 obtain ⟨now, draws⟩ := r
 cases draws with
 | nil => exact absurd (.inr rfl) hn
 | cons d ds =>
 have hn1 : 1 ≤ n := by
  have : ¬ n < 1 := fun e => hn (.inl e)
  omega
 have hd1 : decide (n < 1) = false := decide_eq_false (by omega)
 have hdr := h.dr d (List.mem_cons_self ..)
 have hdd : decide (((ds.length : Int) + 1) = 0) = false := decide_eq_false (by omega)
 have hr := h.row
 have hO := h.own
 obtain ⟨q, fq, lq⟩ := obj_cells hO
 obtain ⟨A, cc, hv⟩ := row_slice hr
 subst hv
 have hr0 := hr
 obtain ⟨h1, h2⟩ := hr0
 rcases h2 with ⟨hv, h0⟩ | ⟨g, cap, cur, hv, hb, hg, hnc, hcm, hcs, hct⟩
 ·simp at h0
 injection hv with e1 e2 e3
 subst e1 e3
 simp only [List.length_cons] at *
 have c1 : w.cell? ⟨s, 1, none⟩ = some (.slice (some ⟨g, 0, none⟩) (ds.length + 1) cc) := q 1
 have f1 : w.frozen? ⟨s, 1, none⟩ = false := fq 1
 have b0 : w.cell? ⟨g, 0, none⟩ = some (.int .i64 d) := row_one hr 0 _ rfl g rfl
 have hsg : g ≠ s := ne_of_row hO hr (by decide) g rfl
 obtain ⟨ad, hsl, hsrc⟩ : ∃ ad : Addr, (∀ W : World, (Instr.slice 113 (.slice (some ⟨g, 0, none⟩) (ds.length + 1) cc) (some (.int .i64 1)) none none).run Tryz.prog W = .ok (.slice (some ad) ds.length (cc - 1)) W) ∧ ∀ j u, (nums .i64 ds)[j]? = some u → w.cell? (ad.add j) = some u := by
  refine ⟨if cc = 1 then ⟨g, 0, none⟩ else ⟨g, 1, none⟩, fun W => ?_, fun j u hj => ?_⟩
  ·have hsz : (Tryz.prog.info? 3).map (·.size) = some 1 := by kernel_rfl
   cases hq : Tryz.prog.info? 3 with
   | none => simp [hq] at hsz
   | some i =>
    have hi : i.size = 1 := by simpa [hq] using hsz
    by_cases h1 : cc = 1
    ·simp [Instr.slice, Instr.sliceBounds, Instr.sliceBound, run_underlying Tryz.underlying113, asIntOf, sizeOf, typeInfo, hq, h1]
     intro h; omega
    ·simp [Instr.slice, Instr.sliceBounds, Instr.sliceBound, run_underlying Tryz.underlying113, asIntOf, sizeOf, typeInfo, hq, hi, h1, Addr.add]
     intro h; omega
  ·have hj' : j < ds.length := by have := (List.getElem?_eq_some_iff.1 hj).1; simpa [nums] using this
   rw [if_neg (by omega), addr_add1]
   have := row_one hr (1 + j) u (by rw [Nat.add_comm]; simpa [nums] using hj) g rfl
   exact this
 have hsl2 : ∀ W : World, (Instr.slice 113 (.slice (some ⟨g, 0, none⟩) (ds.length + 1) cc) none (some (.int .i64 ds.length)) none).run Tryz.prog W = .ok (.slice (some ⟨g, 0, none⟩) ds.length cc) W := fun W => by
  have hsz : (Tryz.prog.info? 3).map (·.size) = some 1 := by kernel_rfl
  cases hq : Tryz.prog.info? 3 with
  | none => simp [hq] at hsz
  | some i =>
   have hi : i.size = 1 := by simpa [hq] using hsz
   have hle : ds.length ≤ cc := by omega
   by_cases h0 : cc = 0
   ·omega
   ·simp [Instr.slice, Instr.sliceBounds, Instr.sliceBound, run_underlying Tryz.underlying113, asIntOf, sizeOf, typeInfo, hq, hi, hle, h0, Addr.add]
 have hlen : (nums .i64 ds).length = ds.length := by simp [nums]
 have hcsz : cur.size = cc := by omega
 have hcopy := fun (k' : Nat) => run_copy_rowN (P := Tryz.prog) w.drew 113 113 3 3 g 0 (ds.length + 1) cc 1 ds.length ad ds.length (cc - 1) cur _ (nums .i64 ds) Tryz.underlying113 (by kernel_rfl) hg (by simp [Nat.min_def]) (by rw [hlen]; omega) hsrc (by rw [hlen]; omega) (by intro v hv; simp [nums] at hv; obtain ⟨a, _, rfl⟩ := hv; rfl)
 have hcopy := hcopy 0
 simp only [List.take_zero, List.nil_append, Nat.zero_add, hlen] at hcopy
 have HO := Lib.hid hO
 have HR := Lib.hid hr
 have H := Lib.hid h
 clear q fq hr hO h h1
 go_enter Tryz.func258, Tryz.ntmps258
 go_wp2_with fail
 have hgo : (goInt ds.length : Value) = .int .i64 ds.length := rfl
 rw [hgo] at hcopy
 have hwr1 : IntKind.i64.wrap ((ds.length : Int) + 1 - 1) = ds.length := by
  have := hcm; unfold maxLen at this
  simp [IntKind.wrap, IntKind.bits, IntKind.signed]; omega
 have K1 : Kp (fun k => k = g) w (w.drew.setRow g (nums .i64 ds ++ cur.toList.drop ds.length).toArray) := (Kp.refl _ w).drew.comp (S2 := fun k => k = g) ⟨rfl, rfl, rfl, by simp [World.setRow], fun k _ hn => setRow_other _ _ _ _ hn⟩ (fun k hk e => e)
 have c1' := K1.cell c1 (fun e => hsg e.symm)
 have hrow1 : (w.drew.setRow g (nums .i64 ds ++ cur.toList.drop ds.length).toArray).heap[g]? = some (.cells (nums .i64 ds ++ cur.toList.drop ds.length).toArray 3 (0, 0)) := setRow_heap w.drew g _ _ _ _ hg
 have hwr2 : IntKind.i64.wrap (ds.length : Int) = ds.length := by
  have := hcm; unfold maxLen at this
  simp [IntKind.wrap, IntKind.bits, IntKind.signed]; omega
 have HK1 := Lib.hid K1
 have HR1 := Lib.hid hrow1
 clear hrow1 K1
 go_region_held3 (fun w' => w'.cell? ⟨s, 1, none⟩ = some (.slice (some ⟨g, 0, none⟩) (ds.length + 1) cc)) (first | exact c1 | exact c1') (fail)
 refine any_world (p := fun W => Exit.then _ _ _ _ W) ?_
 intro W hW
 have hK := HK1.out
 have hRW := HR1.out
 rw [← hW] at hK hRW c1'
 have hOW : W.heap[s]? = some (.cells #[.int .u64 now, .slice (some ⟨g, 0, none⟩) (ds.length + 1) cc] 138 (0, 0)) := hK.heap HO.out (fun e => hsg e.symm)
 clear hW HK1 HR1 f1 c1 b0
 obtain ⟨q, fq, lq'⟩ := obj_cells hOW
 have f1 : W.frozen? ⟨s, 1, none⟩ = false := fq 1
 have f1d : W.drew.frozen? ⟨s, 1, none⟩ = false := fq 1
 have c1d : W.drew.cell? ⟨s, 1, none⟩ = some (.slice (some ⟨g, 0, none⟩) (ds.length + 1) cc) := c1'
 clear q fq
 have HOW := Lib.hid hOW
 have HRW := Lib.hid hRW
 clear hOW hRW hcopy
 go_wp2_with fail
 have hn0 : n ≠ 0 := by omega
 have hn0b : (n == 0) = false := beq_eq_false_iff_ne.2 hn0
 have hrem : Int.tmod d n = d % n := by rw [Int.tmod_eq_emod_of_nonneg hdr.1]
 have hlt : d % n < n := Int.emod_lt_of_pos d (by omega)
 have hge : 0 ≤ d % n := Int.emod_nonneg d hn0
 have hle : d % n ≤ d := by
  have h1 := Int.mul_nonneg (show 0 ≤ n by omega) (Int.ediv_nonneg hdr.1 (show 0 ≤ n by omega))
  have h2 := Int.mul_ediv_add_emod d n
  omega
 have hwr3 : IntKind.i64.wrap (d % n) = d % n := by
  simp [IntKind.wrap, IntKind.bits, IntKind.signed]; omega
 have HEND := Lib.hid (show SrcPost w s (.slice (some ⟨g, 0, none⟩) (ds.length + 1) cc) ⟨now, ds⟩ (W.setCell ⟨s, 1, none⟩ (.slice (some ⟨g, 0, none⟩) ds.length cc)).drew from by
  have hk3 : Kp (fun k => k = s ∨ k = g) w (W.setCell ⟨s, 1, none⟩ (.slice (some ⟨g, 0, none⟩) ds.length cc)).drew := ((hK.mono (S2 := fun k => k = s ∨ k = g) (fun k e => .inr e)).st (S := fun k => k = s ∨ k = g) (.inl (.inl rfl)) 1 _).drew
  refine ⟨.slice (some ⟨g, 0, none⟩) ds.length cc, ⟨hp_same _ s 1 _ HOW.out, ?_, H.out.range, fun z hz => H.out.dr z (List.mem_cons_of_mem _ hz)⟩, ?_, ?_⟩
  ·have hK4 : Kp (fun k => k = s) W (W.setCell ⟨s, 1, none⟩ (.slice (some ⟨g, 0, none⟩) ds.length cc)).drew := ((Kp.refl _ W).st (S := fun k => k = s) (.inl rfl) 1 _).drew
   show World.ownsRow _ 0 3 1 _ ds.length (nums .i64 ds)
   refine ⟨by rw [hlen, Nat.mul_one], .inr ⟨g, cc, (nums .i64 ds ++ cur.toList.drop ds.length).toArray, rfl, hb, hK4.heap HRW.out hsg, Nat.le_of_succ_le hnc, hcm, ?_, ?_⟩⟩
   ·simp [hlen]
    omega
   ·rw [Nat.mul_one]
    exact List.take_left' hlen
  ·intro k hk
   exact .inl hk
  ·exact hk3.mono (fun k e => e.imp id (fun e => congrArg some e.symm)))
 go_region_with (fail)
 all_goals go_wp2
 all_goals go_ret
 all_goals exact ⟨rfl, HEND.out⟩
end Go.Proofs.YtgdoeoackhfikaaGreatDoor

namespace Go.Proofs.YtgdoeoackhfikaaGreatDoor
open Go.RowKit Go.Proofs.YtgdoeoackhfikaaGreatDoorW.PrintWords
set_option maxRecDepth 100000
set_option maxHeartbeats 4000000
set_option linter.unusedSimpArgs false
set_option linter.unusedVariables false
attribute [local go_sem] hs_other hs_alloc hs_falloc
attribute [local go_sem ↓] Go.wp_at_zero Go.wp_at_succ
theorem source_Draw (w : World) (s : Nat) (dv : Value) (r : SrcS) (h : SrcAt w s dv r) (n : Int) :
  Calls Tryz.prog 258 #[.pointer (some ⟨s, 0, none⟩), .int .i64 n] w fun e w' => e = .returned (.int .i64 (r.drawn n)) ∧ SrcPost w s dv (r.rest n) w' := by
 by_cases hn : n < 1 ∨ r.draws = []
 ·have e1 : r.drawn n = 0 := by unfold SrcS.drawn; rw [if_pos hn]
  have e2 : r.rest n = r := by unfold SrcS.rest; rw [if_pos hn]
  rw [e1, e2]
  exact (source_Draw_none w s dv r h n hn).mono fun e w' ⟨h1, h2⟩ => ⟨h1, dv, h.kept h2 (fun _ _ e => e), fun k h => .inl h, h2.mono (fun _ e => e.elim)⟩
 ·exact source_Draw_some w s dv r h n hn
theorem drawn_range {w : World} {s : Nat} {dv : Value} {r : SrcS} (h : SrcAt w s dv r) (n : Int) : 0 ≤ r.drawn n ∧ r.drawn n < 64 := by
 unfold SrcS.drawn
 split
 ·omega
 ·rename_i hn
  cases hd : r.draws with
  | nil => exact absurd (.inr hd) hn
  | cons d ds =>
   have h1 := h.dr d (by rw [hd]; exact List.mem_cons_self ..)
   show 0 ≤ d % n ∧ d % n < 64
   have hn1 : 0 < n := by
    have : ¬ n < 1 := fun e => hn (.inl e)
    omega
   have h2 := Int.emod_nonneg d (show n ≠ 0 by omega)
   have h3 := Int.mul_nonneg (show 0 ≤ n by omega) (Int.ediv_nonneg h1.1 (show 0 ≤ n by omega))
   have h4 := Int.mul_ediv_add_emod d n
   omega
theorem source_Deadline (now wait : Int) (h0 : 0 ≤ now ∧ now < 18446744073709551616) (hn : 0 ≤ wait ∧ wait < 18446744073709551616) (w : World) :
  Calls Tryz.prog 107 #[.int .u64 now, .int .u64 wait] w fun e w' => e = .returned (.int .u64 (later now wait)) ∧ w' = w := by
 have u1 : ∀ z : Int, 0 ≤ z → z < 18446744073709551616 → IntKind.u64.wrap z = z := fun z h1 h2 => by
  have : IntKind.u64.wrap z = z % 18446744073709551616 := by simp [IntKind.wrap, IntKind.bits, IntKind.signed]
  rw [this]; omega
 have w1 := u1 (18446744073709551615 - now) (by omega) (by omega)
 by_cases hlt : wait < 18446744073709551615 - now
 ·have hmin : min wait (18446744073709551615 - now) = wait := by omega
  have w2 := u1 (now + wait) (by omega) (by omega)
  have e : later now wait = now + wait := by unfold later; rw [hmin]
  rw [e]
  go_enter Tryz.func107, Tryz.ntmps107
  go_wp2
  go_ret
  exact ⟨rfl, rfl⟩
 ·have hmin : min wait (18446744073709551615 - now) = 18446744073709551615 - now := by omega
  have e : later now wait = 18446744073709551615 := by unfold later; rw [hmin]; omega
  have e2 : now + (18446744073709551615 - now) = 18446744073709551615 := by omega
  rw [e]
  go_enter Tryz.func107, Tryz.ntmps107
  go_wp2
  go_ret
  exact ⟨rfl, rfl⟩
theorem SrcPost.kp {w w' : World} {s : Nat} {dv : Value} {r : SrcS} (h : SrcPost w.drew s dv r w') : Kp (fun k => k = s ∨ dv.ownBlock = some k) w w' := by
 obtain ⟨_, _, _, hk⟩ := h
 exact Kp.undrew hk
theorem elim_begin (w : World) (s : Nat) (dv : Value) (r : SrcS) (hs : SrcAt w s dv r) (a : Nat) (x : ElV) (pv fv : Value) (ho : w.heap[a]? = some (.cells (x.cs pv fv) 376 (0, 0)))
  (hna : a ≠ s ∧ dv.ownBlock ≠ some a) (F : Nat → Prop) (hap : ∀ k, F k → k ≠ a ∧ k ≠ s ∧ dv.ownBlock ≠ some k) (hc : x.c.right) (hri : 0 ≤ x.i ∧ x.i < 4294967296) (hrb : 1 ≤ x.base ∧ x.base ≤ 64) (hrw : 0 ≤ x.wait ∧ x.wait < 18446744073709551616) (hrs : x.s.right x.c.slots)
  (bc bs bv bp bi bw bb : Nat) (h1 : F bc) (h2 : F bs) (h3 : F bv) (h4 : F bp) (h5 : F bi) (h6 : F bw) (h7 : F bb)
  (a1 : w.heap[bc]? = some (.cells #[.int .i64 x.c.nodes, .int .i64 x.c.slots, .int .i64 x.c.holders, .int .u32 x.c.tag] 32 (0, 0)))
  (a2 : w.heap[bs]? = some (.cells #[.int .i64 x.s.range, .int .i64 x.s.exp] 83 (0, 0)))
  (a3 : w.heap[bv]? = some (.cells #[.pointer (some ⟨a, 0, none⟩)] 359 (0, 0)))
  (a4 : w.heap[bp]? = some (.cells #[.bool x.push] 4 (0, 0)))
  (a5 : w.heap[bi]? = some (.cells #[.int .u32 x.i] 30 (0, 0)))
  (a6 : w.heap[bw]? = some (.cells #[.int .u64 x.wait] 33 (0, 0)))
  (a7 : w.heap[bb]? = some (.cells #[.int .i64 x.base] 3 (0, 0))) :
  Calls Tryz.prog 257 #[.pointer (some ⟨s, 0, none⟩), .pointer (some ⟨bc, 0, none⟩), .pointer (some ⟨bs, 0, none⟩), .pointer (some ⟨bv, 0, none⟩), .pointer (some ⟨bp, 0, none⟩), .pointer (some ⟨bi, 0, none⟩), .pointer (some ⟨bw, 0, none⟩), .pointer (some ⟨bb, 0, none⟩)] w fun e w' =>
   ∃ (t n1 : Nat) (dv' : Value), e = .returned (.pointer (some ⟨t, 0, none⟩)) ∧ w.heap.size ≤ n1 ∧ SrcAt w' s dv' (r.rest x.s.range) ∧ (∀ k, dv'.ownBlock = some k → (dv.ownBlock = some k ∨ w.heap.size ≤ k) ∧ k < n1) ∧
    Kp (fun k => k = a ∨ k = s ∨ dv.ownBlock = some k) w w' ∧ w'.heap[a]? = some (.cells (({ x with place := x.c.slotAt (r.drawn x.s.range) } : ElV).cs pv fv) 376 (0, 0)) ∧ EVAt w' (fun k => n1 ≤ k ∧ k < w'.heap.size) t (x.begun r) := by
 have hdr := drawn_range hs x.s.range
 have hall : ∀ W, Kp (fun k => k = a ∨ k = s ∨ dv.ownBlock = some k) w W → (W.cell? ⟨bv, 0, none⟩ = some (.pointer (some ⟨a, 0, none⟩)) ∧ W.cell? ⟨bc, 0, none⟩ = some (.int .i64 x.c.nodes) ∧ W.cell? ⟨bc, 1, none⟩ = some (.int .i64 x.c.slots) ∧ W.cell? ⟨bc, 2, none⟩ = some (.int .i64 x.c.holders) ∧ W.cell? ⟨bc, 3, none⟩ = some (.int .u32 x.c.tag) ∧ W.cell? ⟨bs, 0, none⟩ = some (.int .i64 x.s.range)) := by
  intro W hk
  have z : ∀ k, F k → ¬ (k = a ∨ k = s ∨ dv.ownBlock = some k) := fun k hF e => by
   have h := hap k hF
   rcases e with e | e | e
   ·exact h.1 e
   ·exact h.2.1 e
   ·exact h.2.2 e
  have q3 := (obj_cells (hk.heap a3 (z _ h3))).1
  have q1 := (obj_cells (hk.heap a1 (z _ h1))).1
  have q2 := (obj_cells (hk.heap a2 (z _ h2))).1
  exact ⟨q3 0, q1 0, q1 1, q1 2, q1 3, q2 0⟩
 have HALL := Lib.hid hall
 have hdraw := source_Draw w.drew s dv r (hs.kept (Kp.refl _ _).drew (fun _ _ e => e)) x.s.range
 have hslot := fun W => layout_Slot x.c W hc (r.drawn x.s.range) (by omega)
 have HO := Lib.hid ho
 have HDR := Lib.hid hdraw
 have HSL := Lib.hid hslot
 have HS := Lib.hid hs
 unfold LCfg.v at HSL
 clear hall hdraw hslot hs ho
 go_enter Tryz.func257, Tryz.ntmps257
 go_wp2_with fail
 go_region_held3 (fun W => W.cell? ⟨bv, 0, none⟩ = some (.pointer (some ⟨a, 0, none⟩)) ∧ W.cell? ⟨bc, 0, none⟩ = some (.int .i64 x.c.nodes) ∧ W.cell? ⟨bc, 1, none⟩ = some (.int .i64 x.c.slots) ∧ W.cell? ⟨bc, 2, none⟩ = some (.int .i64 x.c.holders) ∧ W.cell? ⟨bc, 3, none⟩ = some (.int .u32 x.c.tag) ∧ W.cell? ⟨bs, 0, none⟩ = some (.int .i64 x.s.range))
  (first | exact HALL.out _ (Kp.refl _ _) | exact HALL.out _ (Kp.refl _ _).drew | exact HALL.out _ (hkd.mono (fun _ e => .inr e)) | exact HALL.out _ (hke.mono (fun _ e => .inr e)) | exact HALL.out _ (hks _))
  ((first
   | (go_at_call 258; refine HDR.out.mono ?_; rintro e wd ⟨rfl, hsp⟩; have hkd := hsp.kp)
   | (go_at_call 78; refine (HSL.out _).mono ?_; rintro e we ⟨rfl, hbe⟩; have hke : Kp (fun k => k = s ∨ dv.ownBlock = some k) w we := hkd.comp (Kp.nb hbe) (fun _ _ e => e.elim); have hOe := hke.heap HO.out (fun e => e.elim hna.1 hna.2); have e8 := (obj_cells hOe).1 8; have f8 := (obj_cells hOe).2.1 8; have hks := fun (v : Value) => (hke.mono (S2 := fun k => k = a ∨ k = s ∨ dv.ownBlock = some k) (fun _ e => .inr e)).st (S := fun k => k = a ∨ k = s ∨ dv.ownBlock = some k) (.inl (.inl rfl)) 8 v; have HOE := Lib.hid hOe; clear hOe)))
 obtain ⟨dv', hsd, hdv, hkd2⟩ := hsp
 have HKS := Lib.hid (hks (.int .i64 (x.c.slotAt (r.drawn x.s.range))))
 have hslt := hsd.lt
 have hse : SrcAt we s dv' (r.rest x.s.range) := hsd.kept (Kp.nb hbe) (fun _ _ e => e)
 have hda : ∀ k, (k = s ∨ dv'.ownBlock = some k) → ¬ k = a := fun k hk e => by
  rcases hk with h | h
  ·exact hna.1 (e ▸ h)
  ·rcases hdv k h with h' | h'
   ·exact hna.2 (e ▸ h')
   ·have := lt_of_heap HO.out
    have h'' : w.heap.size ≤ k := h'
    omega
 have hsW : SrcAt (we.setCell ⟨a, 8, none⟩ (.int .i64 (x.c.slotAt (r.drawn x.s.range)))) s dv' (r.rest x.s.range) := hse.kept (Kp.st (S := fun k => k = a) (Kp.refl _ _) (.inl rfl) 8 _) hda
 have hOW := hp_same _ a 8 (.int .i64 (x.c.slotAt (r.drawn x.s.range))) HOE.out
 have hszW : (we.setCell ⟨a, 8, none⟩ (.int .i64 (x.c.slotAt (r.drawn x.s.range)))).heap.size = we.heap.size := by simp [World.setCell]
 have hsz1 : wd.heap.size ≤ we.heap.size := hbe.size
 clear hks hkd hke hbe e8 f8 HOE hsd hkd2 hse
 generalize hWdef : we.setCell ⟨a, 8, none⟩ (.int .i64 (x.c.slotAt (r.drawn x.s.range))) = W at *
 have hKW := HKS.out
 have hcW : ∀ V, Kp (fun _ => False) W V → (V.cell? ⟨bv, 0, none⟩ = some (.pointer (some ⟨a, 0, none⟩)) ∧ V.cell? ⟨a, 8, none⟩ = some (.int .i64 (x.c.slotAt (r.drawn x.s.range))) ∧ V.cell? ⟨bp, 0, none⟩ = some (.bool x.push) ∧ V.cell? ⟨bi, 0, none⟩ = some (.int .u32 x.i) ∧ V.cell? ⟨bw, 0, none⟩ = some (.int .u64 x.wait) ∧ V.cell? ⟨bs, 0, none⟩ = some (.int .i64 x.s.range) ∧ V.cell? ⟨bs, 1, none⟩ = some (.int .i64 x.s.exp) ∧ V.cell? ⟨bb, 0, none⟩ = some (.int .i64 x.base)) := by
  intro V hk
  have z : ∀ k, F k → ¬ (k = a ∨ k = s ∨ dv.ownBlock = some k) := fun k hF e => by
   have h := hap k hF
   rcases e with e | e | e
   ·exact h.1 e
   ·exact h.2.1 e
   ·exact h.2.2 e
  have k : Kp (fun k => k = a ∨ k = s ∨ dv.ownBlock = some k) w V := hKW.comp hk (fun _ _ e => e.elim)
  have q3 := (obj_cells (k.heap a3 (z _ h3))).1
  have q4 := (obj_cells (k.heap a4 (z _ h4))).1
  have q5 := (obj_cells (k.heap a5 (z _ h5))).1
  have q6 := (obj_cells (k.heap a6 (z _ h6))).1
  have q7 := (obj_cells (k.heap a7 (z _ h7))).1
  have q2 := (obj_cells (k.heap a2 (z _ h2))).1
  have qa := (obj_cells (hk.heap hOW (fun e => e))).1
  exact ⟨q3 0, qa 8, q4 0, q5 0, q6 0, q2 0, q2 1, q7 0⟩
 have HCW := Lib.hid hcW
 have HSW := Lib.hid hsW
 have HOW := Lib.hid hOW
 have hnow : (r.rest x.s.range).now = r.now := by unfold SrcS.rest; split <;> rfl
 have hnw := source_Now s _ dv' W.drew (hsW.kept (Kp.refl _ _).drew (fun _ _ e => e)).own
 have hdl := source_Deadline r.now x.wait (hnow ▸ hsW.range) hrw W.drew
 rw [hnow] at hnw
 have HNW := Lib.hid hnw
 have HDL := Lib.hid hdl
 clear hnw hdl
 have HPO := Lib.hid (fun V => policy_Polls x.s (by
  have h := hrs
  obtain ⟨y1, y2, y3⟩ := h
  have e : x.s.exp = (x.s.within x.c.slots).exp := congrArg Pol.exp y3
  have e2 : (x.s.within x.c.slots).exp = max (min x.s.exp 6) 0 := rfl
  omega) x.base hrb V)
 unfold Pol.v at HPO
 clear hcW hsW hOW hWdef hKW
 go_wp2_with fail
 go_region_held3 (fun V => V.cell? ⟨bv, 0, none⟩ = some (.pointer (some ⟨a, 0, none⟩)) ∧ V.cell? ⟨a, 8, none⟩ = some (.int .i64 (x.c.slotAt (r.drawn x.s.range))) ∧ V.cell? ⟨bp, 0, none⟩ = some (.bool x.push) ∧ V.cell? ⟨bi, 0, none⟩ = some (.int .u32 x.i) ∧ V.cell? ⟨bw, 0, none⟩ = some (.int .u64 x.wait) ∧ V.cell? ⟨bs, 0, none⟩ = some (.int .i64 x.s.range) ∧ V.cell? ⟨bs, 1, none⟩ = some (.int .i64 x.s.exp) ∧ V.cell? ⟨bb, 0, none⟩ = some (.int .i64 x.base))
  (first | exact HCW.out _ (Kp.refl _ _) | exact HCW.out _ (Kp.refl _ _).drew | exact HCW.out _ hkp | exact HCW.out _ hkn)
  ((first
   | (go_at_call 17; refine HNW.out.mono ?_; rintro e wn ⟨rfl, hwn⟩; obtain rfl : W.drew = wn := hwn.symm)
   | (go_at_call 107; refine HDL.out.mono ?_; rintro e wn ⟨rfl, hwn⟩; obtain rfl : W.drew = wn := hwn.symm)
   | (go_at_call 260; refine (HPO.out W.drew).mono ?_; rintro e wp ⟨rfl, hbp⟩; have hkp : Kp (fun _ => False) W wp := Kp.undrew (Kp.nb hbp))
   | (go_at_call 259; refine (exch_New (x.c.slotAt (r.drawn x.s.range)) x.push x.i (later r.now x.wait) (x.s.polls x.base) hri wp).mono ?_; rintro e wz ⟨t, rfl, ht, hkt, hxt⟩; have hkn : Kp (fun _ => False) W wz := hkp.also hkt)))
 go_wp2
 go_ret
 have z1 := HKS.out.size
 have z2 := hkp.size
 exact ⟨t, wp.heap.size, dv', rfl, by omega, HSW.out.kept hkn (fun _ _ e => e), fun k hk => ⟨hdv k hk, by have := hslt k (.inr hk); omega⟩, HKS.out.comp hkn (fun _ _ e => e.elim), hkn.heap HOW.out (fun e => e), hxt⟩
end Go.Proofs.YtgdoeoackhfikaaGreatDoor

namespace Go.Proofs.YtgdoeoackhfikaaGreatDoor
open Go.RowKit Go.Proofs.YtgdoeoackhfikaaGreatDoorW.PrintWords
set_option maxRecDepth 100000
set_option maxHeartbeats 4000000
set_option linter.unusedSimpArgs false
set_option linter.unusedVariables false
attribute [local go_sem] hs_other hs_alloc hs_falloc run_store_func run_makeFunc
attribute [local go_sem ↓] Go.wp_at_zero Go.wp_at_succ
theorem ha {w : World} {k : Nat} {o : Obj} (h : w.heap[k]? = some o) (o2 : Obj) : (w.alloc o2).heap[k]? = some o := (hp_alloc _ _ _ (lt_of_heap h)).trans h
theorem elim_New (w : World) (c : LCfg) (hc : c.right) (p : Pol) (hp : p.right c.slots) (push : Bool) (i base wait : Int) (hi : 0 ≤ i ∧ i < 4294967296) (hb : 1 ≤ base ∧ base ≤ 64) (hw : 0 ≤ wait ∧ wait < 18446744073709551616) :
  Calls Tryz.prog 254 #[c.v, p.v, .bool push, .int .u32 i, .int .i64 base, .int .u64 wait] w fun e w' => ∃ a, e = .returned (.pointer (some ⟨a, 0, none⟩)) ∧ w.heap.size ≤ a ∧ Kp (fun _ => False) w w' ∧ ElAt w' (fun k => w.heap.size ≤ k ∧ k < w'.heap.size) a (newElim c p push i base wait) := by
 unfold LCfg.v Pol.v
 go_enter Tryz.func254, Tryz.ntmps254
 go_wp2_with fail
 go_ret
 refine ⟨w.heap.size + 6, rfl, by omega, (((((((((Kp.refl _ w).alloc _).alloc _).alloc _).alloc _).alloc _).alloc _).alloc _).alloc _), ⟨⟨by omega, by simp; try omega⟩, ⟨.pointer none, _, ha (hp_new _ _ _ (by simp)) _, rfl, ?_⟩, hc, hi, hb, hw, hp⟩⟩
 exact ⟨w.heap.size, w.heap.size + 1, w.heap.size + 7, w.heap.size + 2, w.heap.size + 3, w.heap.size + 5, w.heap.size + 4,
  ⟨⟨by omega, by simp; try omega⟩, by omega⟩, ⟨⟨by omega, by simp; try omega⟩, by omega⟩, ⟨⟨by omega, by simp; try omega⟩, by omega⟩, ⟨⟨by omega, by simp; try omega⟩, by omega⟩, ⟨⟨by omega, by simp; try omega⟩, by omega⟩, ⟨⟨by omega, by simp; try omega⟩, by omega⟩, ⟨⟨by omega, by simp; try omega⟩, by omega⟩, rfl,
  ha (ha (ha (ha (ha (ha (ha (hp_new _ _ _ (by simp)) _) _) _) _) _) _) _, ha (ha (ha (ha (ha (ha (hp_new _ _ _ (by simp)) _) _) _) _) _) _, hp_new _ _ _ (by simp), ha (ha (ha (ha (ha (hp_new _ _ _ (by simp)) _) _) _) _) _, ha (ha (ha (ha (hp_new _ _ _ (by simp)) _) _) _) _, ha (ha (hp_new _ _ _ (by simp)) _) _, ha (ha (ha (hp_new _ _ _ (by simp)) _) _) _⟩
theorem elim_State (w : World) (F : Nat → Prop) (a : Nat) (x : ElV) (hx : ElAt w F a x) :
  Calls Tryz.prog 241 #[.pointer (some ⟨a, 0, none⟩)] w fun e w' => e = .returned x.s.v ∧ Kp (fun _ => False) w w' := by
 obtain ⟨pv, fv, ho, _⟩ := hx.obj
 obtain ⟨q, fq, lq⟩ := obj_cells ho
 have c5 : w.cell? ⟨a, 5, none⟩ = some (.int .i64 x.s.range) := q 5
 have c6 : w.cell? ⟨a, 6, none⟩ = some (.int .i64 x.s.exp) := q 6
 have d5 := fun o => kc (W := w) o c5
 have d6 := fun o => kc (W := w) o c6
 clear q fq ho hx
 go_enter Tryz.func241, Tryz.ntmps241
 go_wp2_with fail
 go_returns
 exact ⟨rfl, (Kp.refl _ _).alloc _⟩
end Go.Proofs.YtgdoeoackhfikaaGreatDoor

namespace Go.Proofs.YtgdoeoackhfikaaGreatDoor
open Go.RowKit Go.Proofs.YtgdoeoackhfikaaGreatDoorW.PrintWords
set_option maxRecDepth 100000
set_option linter.unusedSimpArgs false
set_option linter.unusedVariables false
theorem Pol.within_idem (s : Pol) (n : Int) : (s.within n).within n = s.within n := by
 unfold Pol.within
 simp only [Pol.mk.injEq]
 omega
theorem Pol.right_within (s : Pol) (n : Int) (h : 0 ≤ n ∧ n ≤ 16) : (s.within n).right n := ⟨h.1, h.2, (Pol.within_idem s n).symm⟩
theorem Pol.right_after (s : Pol) (n st : Int) (h : 0 ≤ n ∧ n ≤ 16) : (s.after n st).right n := by
 unfold Pol.after
 repeat' split
 all_goals exact Pol.right_within _ _ h
theorem Pol.right_range {s : Pol} {n : Int} (h : s.right n) : 0 ≤ s.range ∧ s.range ≤ 16 ∧ 0 ≤ s.exp ∧ s.exp ≤ 6 := by
 obtain ⟨h0, h1, h2⟩ := h
 have e1 : s.range = (s.within n).range := congrArg Pol.range h2
 have e2 : s.exp = (s.within n).exp := congrArg Pol.exp h2
 have e3 : (s.within n).range = max (min s.range n) (min n 1) := rfl
 have e4 : (s.within n).exp = max (min s.exp 6) 0 := rfl
 omega
theorem OPost.el {F P : Nat → Prop} {w Wc w1 w' : World} {b : MB} {σ σ' : MemS} {s a t : Nat} {dv dv' : Value} {r0 r' : SrcS} {e' : EV} {y : ElV} {fv : Value}
  (hb : MemAt w b σ) (hA : Apart w b F) (hs : SrcAt w s dv r0) (ha : SApart b F s dv) (hF : F a)
  (hkc : Kp (fun k => k = a ∨ k = s ∨ dv.ownBlock = some k) w Wc)
  (hsc : SrcAt Wc s dv' r') (hdv : ∀ k, dv'.ownBlock = some k → dv.ownBlock = some k ∨ w.heap.size ≤ k)
  (hP : ∀ k, P k → (F k ∧ k ≠ a) ∨ (w.heap.size ≤ k ∧ k < Wc.heap.size ∧ dv'.ownBlock ≠ some k))
  (hp : Post P Wc b σ' w1 (fun W F' => EVAt W F' t e'))
  (hka : Kp (fun k => k = a) w1 w') (ho : w'.heap[a]? = some (.cells (y.cs (.pointer (some ⟨t, 0, none⟩)) fv) 376 (0, 0)))
  (hv : y.v = some e') (h1 : y.c.right) (h2 : 0 ≤ y.i ∧ y.i < 4294967296) (h3 : 1 ≤ y.base ∧ y.base ≤ 64) (h4 : 0 ≤ y.wait ∧ y.wait < 18446744073709551616) (h5 : y.s.right y.c.slots) :
  OPost F w b s dv σ' r' w' (fun W F' => ElAt W F' a y) := by
 obtain ⟨nv', hm, hn, hk, hx⟩ := hp
 have la := hA.lt a hF
 have z1 := hkc.size
 have z2 := hk.size
 have z3 := hka.size
 have hsl := hs.lt
 have hscl := hsc.lt
 have hbl := hb.lt
 have hnv : ∀ k, b.nv.ownBlock = some k → k < w.heap.size := fun k h => hbl k (.inr (.inr h))
 have hna : ∀ k, (k = b.m ∨ k = b.g ∨ nv'.ownBlock = some k) → ¬ k = a := fun k hk' e => by
  subst e
  rcases hk' with h | h | h
  ·exact hA.ne k hF (.inl h)
  ·exact hA.ne k hF (.inr (.inl h))
  ·rcases hn k h with h | h
   ·exact hA.ne k hF (.inr (.inr h))
   ·omega
 have hds : ∀ k, (k = s ∨ dv'.ownBlock = some k) → ¬ F k ∧ ¬ b.has k := fun k hk' => by
  rcases hk' with h | h
  ·exact ha k (.inl h)
  ·rcases hdv k h with h | h
   ·exact ha k (.inr h)
   ·exact ⟨fun e => by have := hA.lt k e; omega, fun e => by have := hbl k e; omega⟩
 have hsPb : ∀ k, (k = s ∨ dv'.ownBlock = some k) → ¬ (P k ∨ b.has k) := fun k hk' e => by
  rcases e with e | e
  ·rcases hP k e with h | h
   ·exact (hds k hk').1 h.1
   ·rcases hk' with h' | h'
    ·have := hsl k (.inl h'); omega
    ·exact h.2.2 h'
  ·exact (hds k hk').2 e
 have hs1 : SrcAt w1 s dv' r' := hsc.kept hk hsPb
 refine ⟨nv', dv', hm.kept hka hna, hs1.kept hka (fun k hk' e => (hds k hk').1 (e ▸ hF)), fun k h => (hn k h).imp id (fun h => by omega), hdv, ?_, ?_⟩
 ·have k1 : Kp (fun k => F k ∨ b.has k ∨ k = s ∨ dv.ownBlock = some k) w Wc := hkc.mono (fun k e => by
   rcases e with rfl | e | e
   ·exact .inl hF
   ·exact .inr (.inr (.inl e))
   ·exact .inr (.inr (.inr e)))
  have k2 : Kp (fun k => F k ∨ b.has k ∨ k = s ∨ dv.ownBlock = some k) w w1 := k1.comp hk (fun k hlt e => by
   rcases e with e | e
   ·rcases hP k e with h | h
    ·exact .inl h.1
    ·omega
   ·exact .inr (.inl e))
  exact k2.comp hka (fun k _ e => .inl (e ▸ hF))
 ·refine ⟨.inl hF, ⟨_, _, ho, ?_⟩, h1, h2, h3, h4, h5⟩
  unfold InnerAt
  rw [hv]
  have hgo : ∀ k, grownF P Wc w1 nv' k → grownO F w w' nv' dv' k ∧ k ≠ a := fun k hk' => by
   rcases hk' with h | ⟨h, h', h''⟩
   ·rcases hP k h with h | ⟨h, h', h''⟩
    ·exact ⟨.inl h.1, h.2⟩
    ·refine ⟨.inr ⟨h, by omega, fun e => ?_, h''⟩, by omega⟩
     rcases hn k e with e | e
     ·have := hnv k e; omega
     ·omega
   ·refine ⟨.inr ⟨by omega, by omega, h'', fun e => ?_⟩, by omega⟩
    have := hscl k (.inr e)
    omega
  exact ⟨t, rfl, hx.kept (fun k o hk' ho' => hka.heap ho' (hgo k hk').2) hgo⟩
def ElPost (F : Nat → Prop) (w : World) (b : MB) (s : Nat) (dv : Value) (a : Nat) (z : ElV × MemS × SrcS × Int × Int) (e : Ending) (w' : World) : Prop :=
 e = .returned (.tuple #[.int .i64 z.2.2.2.1, .int .u32 z.2.2.2.2]) ∧ OPost F w b s dv z.2.1 z.2.2.1 w' (fun W F' => ElAt W F' a z.1)
end Go.Proofs.YtgdoeoackhfikaaGreatDoor

namespace Go.Proofs.YtgdoeoackhfikaaGreatDoor
open Go.RowKit Go.Proofs.YtgdoeoackhfikaaGreatDoorW.PrintWords
set_option maxRecDepth 100000
set_option linter.unusedSimpArgs false
set_option linter.unusedVariables false
theorem OpAt.put {w : World} {F : Nat → Prop} {o : Nat} {x y : OpS} (h : OpAt w F o x) (off : Nat) (v : Value) (hcs : ∀ sv pv, (x.cs sv pv).setIfInBounds off v = y.cs sv pv) (h1 : y.part = x.part) (h2 : y.shelf = x.shelf)
  (hc : y.c = x.c) (hp : y.pol = x.pol) (hv : 0 ≤ y.v ∧ y.v < 18446744073709551616) (hi : 0 ≤ y.i ∧ y.i < 4294967296) : OpAt (w.setCell ⟨o, off, none⟩ v) F o y := by
 obtain ⟨sv, pv, P, ho, hsh, hpa, hP⟩ := h.obj
 have hk1 : Kp (fun k => k = o) w (w.setCell ⟨o, off, none⟩ v) := Kp.st (S := fun k => k = o) (Kp.refl _ _) (.inl rfl) off v
 have hts : ∀ k, sv.ownBlock = some k → k ≠ o := ne_of_row ho hsh.row (by decide)
 refine ⟨h.own, ⟨sv, pv, P, ?_, ?_, ?_, hP⟩, by rw [hc]; exact h.right, by rw [hc]; exact h.rwt, hv, hi, by rw [hc, hp]; exact h.rp, by rw [h2]; exact h.few⟩
 ·rw [← hcs]; exact hp_same _ o off v ho
 ·rw [h2]; exact ⟨hk1.row hsh.row hts, hsh.own, hsh.range⟩
 ·rw [h1]; exact hpa.kept (fun k ob hk' hh => hk1.heap hh (hP k hk').2.1) (fun _ h => h)
theorem OpAt.putPol {w : World} {F : Nat → Prop} {o : Nat} {x : OpS} (h : OpAt w F o x) (p : Pol) (hp : p.right x.c.l.slots) : OpAt ((w.setCell ⟨o, 8, none⟩ (.int .i64 p.range)).setCell ⟨o, 9, none⟩ (.int .i64 p.exp)) F o { x with pol := p } := by
 obtain ⟨sv, pv, P, ho, hsh, hpa, hP⟩ := h.obj
 have hk1 : Kp (fun k => k = o) w ((w.setCell ⟨o, 8, none⟩ (.int .i64 p.range)).setCell ⟨o, 9, none⟩ (.int .i64 p.exp)) := Kp.st (S := fun k => k = o) (Kp.st (S := fun k => k = o) (Kp.refl _ _) (.inl rfl) 8 _) (.inl rfl) 9 _
 have hts : ∀ k, sv.ownBlock = some k → k ≠ o := ne_of_row ho hsh.row (by decide)
 refine ⟨h.own, ⟨sv, pv, P, ?_, ?_, ?_, hP⟩, h.right, h.rwt, h.rv, h.ri, hp, h.few⟩
 ·exact hp_same _ o 9 _ (hp_same _ o 8 _ ho)
 ·exact ⟨hk1.row hsh.row hts, hsh.own, hsh.range⟩
 ·exact hpa.kept (fun k ob hk' hh => hk1.heap hh (hP k hk').2.1) (fun _ h => h)
theorem OpAt.putPart {w : World} {F : Nat → Prop} {o : Nat} {x : OpS} (h : OpAt w F o x) (p : Part) (pv' : Value) (Q : Nat → Prop) (hpart : PartAt w Q pv' p) (hQ : ∀ k, Q k → F k ∧ k ≠ o ∧ ∀ sv pv, w.heap[o]? = some (.cells (x.cs sv pv) 212 (0, 0)) → sv.ownBlock ≠ some k) : OpAt (w.setCell ⟨o, 14, none⟩ pv') F o { x with part := p } := by
 obtain ⟨sv, pv, P, ho, hsh, hpa, hP⟩ := h.obj
 have hk1 : Kp (fun k => k = o) w (w.setCell ⟨o, 14, none⟩ pv') := Kp.st (S := fun k => k = o) (Kp.refl _ _) (.inl rfl) 14 _
 have hts : ∀ k, sv.ownBlock = some k → k ≠ o := ne_of_row ho hsh.row (by decide)
 refine ⟨h.own, ⟨sv, pv', Q, ?_, ?_, ?_, fun k hk => ⟨(hQ k hk).1, (hQ k hk).2.1, (hQ k hk).2.2 _ _ ho⟩⟩, h.right, h.rwt, h.rv, h.ri, h.rp, h.few⟩
 ·exact hp_same _ o 14 _ ho
 ·exact ⟨hk1.row hsh.row hts, hsh.own, hsh.range⟩
 ·exact hpart.kept (fun k ob hk' hh => hk1.heap hh (hQ k hk').2.1) (fun _ h => h)
def OpMore (W : World) (F : Nat → Prop) (o : Nat) (y : OpS) (w' : World) : Prop :=
 Kp (fun k => k = o) W w' ∧ OpAt w' (fun k => F k ∨ (W.heap.size ≤ k ∧ k < w'.heap.size)) o y
theorem OpAt.putShelf {w w2 : World} {F : Nat → Prop} {o : Nat} {x : OpS} (h : OpAt w F o x) (hlt : ∀ k, F k → k < w.heap.size) (hk : Kp (fun _ => False) w w2) (v' : Value) (xs : List Int) (hsh : ShelfAt w2 (fun k => w.heap.size ≤ k ∧ k < w2.heap.size) v' xs) (hl : xs.length ≤ 1000000) : OpMore w F o { x with shelf := xs } (w2.setCell ⟨o, 7, none⟩ v') := by
 obtain ⟨sv, pv, P, ho, _, hpa, hP⟩ := h.obj
 have hlo := hlt o h.own
 have hk1 : Kp (fun k => k = o) w2 (w2.setCell ⟨o, 7, none⟩ v') := Kp.st (S := fun k => k = o) (Kp.refl _ _) (.inl rfl) 7 _
 have hts : ∀ k, v'.ownBlock = some k → k ≠ o := fun k hk' e => by
  have := (hsh.own k hk').1
  omega
 have hsz : (w2.setCell ⟨o, 7, none⟩ v').heap.size = w2.heap.size := by simp [World.setCell]
 refine ⟨hk.to hk1, .inl h.own, ⟨v', pv, P, ?_, ?_, ?_, fun k hk' => ⟨.inl (hP k hk').1, (hP k hk').2.1, fun e => ?_⟩⟩, h.right, h.rwt, h.rv, h.ri, h.rp, hl⟩
 ·exact hp_same _ o 7 _ (hk.heap ho (fun e => e))
 ·exact ⟨hk1.row hsh.row hts, fun k hk' => .inr (by rw [hsz]; exact hsh.own k hk'), hsh.range⟩
 ·exact hpa.kept (fun k ob hk' hh => hk1.heap (hk.heap hh (fun e => e)) (hP k hk').2.1) (fun _ h => h)
 ·have := (hsh.own k e).1
  have := hlt k (hP k hk').1
  omega
theorem OpMore.refl {W : World} {F : Nat → Prop} {o : Nat} {y : OpS} (h : OpAt W F o y) : OpMore W F o y W := ⟨Kp.refl _ _, h.kept (fun _ _ _ h => h) (fun _ h => .inl h)⟩
theorem OpMore.more {W w1 w2 : World} {F : Nat → Prop} {o : Nat} {y z : OpS} (h1 : OpMore W F o y w1) (h2 : OpMore w1 (fun k => F k ∨ (W.heap.size ≤ k ∧ k < w1.heap.size)) o z w2) : OpMore W F o z w2 := by
 have s1 := h1.1.size
 have s2 := h2.1.size
 refine ⟨h1.1.comp h2.1 (fun _ _ e => e), h2.2.kept (fun _ _ _ h => h) (fun k hk => ?_)⟩
 rcases hk with (hk | hk) | hk
 ·exact .inl hk
 ·exact .inr ⟨hk.1, by omega⟩
 ·exact .inr ⟨by omega, hk.2⟩
theorem OpMore.at {W w1 w2 : World} {F : Nat → Prop} {o : Nat} {y z : OpS} (h1 : OpMore W F o y w1) (hk : Kp (fun k => k = o) w1 w2) (hsz : w2.heap.size = w1.heap.size) (h2 : OpAt w2 (fun k => F k ∨ (W.heap.size ≤ k ∧ k < w1.heap.size)) o z) : OpMore W F o z w2 :=
 ⟨h1.1.comp hk (fun _ _ e => e), by rw [hsz]; exact h2⟩
theorem OpMore.lt {W w1 : World} {F : Nat → Prop} {o : Nat} {y : OpS} (h : OpMore W F o y w1) (hlt : ∀ k, F k → k < W.heap.size) : ∀ k, (F k ∨ (W.heap.size ≤ k ∧ k < w1.heap.size)) → k < w1.heap.size := fun k hk => by
 have := h.1.size
 rcases hk with hk | hk
 ·have := hlt k hk; omega
 ·exact hk.2
theorem OpAt.newPart {w w2 : World} {F : Nat → Prop} {o : Nat} {x : OpS} (h : OpAt w F o x) (hlt : ∀ k, F k → k < w.heap.size) (hk : Kp (fun _ => False) w w2) (p : Part) (pv' : Value) (hpart : PartAt w2 (fun k => w.heap.size ≤ k ∧ k < w2.heap.size) pv' p) : OpMore w F o { x with part := p } (w2.setCell ⟨o, 14, none⟩ pv') := by
 have hlo := hlt o h.own
 have h2 : OpAt w2 (fun k => F k ∨ (w.heap.size ≤ k ∧ k < w2.heap.size)) o x := h.kept (fun k ob _ ho => hk.heap ho (fun e => e)) (fun _ h => .inl h)
 have hsz : (w2.setCell ⟨o, 14, none⟩ pv').heap.size = w2.heap.size := by simp [World.setCell]
 obtain ⟨sv0, pv0, P, ho, hsh, _, _⟩ := h.obj
 refine OpMore.at (w1 := w2) (y := x) ⟨hk.mono (fun _ e => e.elim), h2⟩ (Kp.st (S := fun k => k = o) (Kp.refl _ _) (.inl rfl) 14 _) hsz (h2.putPart p pv' _ hpart (fun k hk' => ⟨.inr hk', by have := hk'.1; omega, fun sv pv hh e => ?_⟩))
 have h7 : (x.cs sv0 pv0)[7]? = (x.cs sv pv)[7]? := by
  rw [← (obj_cells (hk.heap ho (fun e => e))).1 7, (obj_cells hh).1 7]
 have e7 : sv0 = sv := Option.some.inj h7
 subst e7
 have := hlt k (hsh.own k e)
 have := hk'.1
 omega
theorem OPost.then {F : Nat → Prop} {w w1 : World} {b : MB} {s : Nat} {dv : Value} {σ σ' : MemS} {r r' : SrcS} {o : Nat} {y : OpS} (hb : MemAt w b σ) (hs : SrcAt w s dv r) (hA : Apart w b F) (ha : SApart b F s dv) (hF : F o) (h : OPost F w b s dv σ' r' w1 (fun W F' => OpAt W F' o y)) :
  ∃ F1 : Nat → Prop, OpAt w1 F1 o y ∧ (∀ k, F1 k → k < w1.heap.size) ∧ ∀ w' z, OpMore w1 F1 o z w' → OPost F w b s dv σ' r' w' (fun W F' => OpAt W F' o z) := by
 obtain ⟨nv', dv', hm, hs', hn, hd, hk, hx⟩ := h
 have hlo := hA.lt o hF
 have z1 := hk.size
 have hml := hm.lt
 have hsl := hs'.lt
 refine ⟨grownO F w w1 nv' dv', hx, fun k hk' => ?_, fun w' z hz => ?_⟩
 ·rcases hk' with h | h
  ·have := hA.lt k h; omega
  ·exact h.2.1
 ·obtain ⟨hk1, hz1⟩ := hz
  have z2 := hk1.size
  have nb : ∀ k, (k = b.m ∨ k = b.g ∨ nv'.ownBlock = some k) → k ≠ o := fun k hk' e => by
   subst e
   rcases hk' with h | h | h
   ·exact hA.ne k hF (.inl h)
   ·exact hA.ne k hF (.inr (.inl h))
   ·rcases hn k h with h | h
    ·exact hA.ne k hF (.inr (.inr h))
    ·omega
  have ns : ∀ k, (k = s ∨ dv'.ownBlock = some k) → k ≠ o := fun k hk' e => by
   subst e
   rcases hk' with h | h
   ·exact (ha k (.inl h)).1 hF
   ·rcases hd k h with h | h
    ·exact (ha k (.inr h)).1 hF
    ·omega
  refine ⟨nv', dv', hm.kept hk1 nb, hs'.kept hk1 ns, hn, hd, hk.comp hk1 (fun k _ e => .inl (e ▸ hF)), hz1.kept (fun _ _ _ h => h) (fun k hk' => ?_)⟩
  rcases hk' with (h | ⟨h1, h2, h3, h4⟩) | ⟨h1, h2⟩
  ·exact .inl h
  ·exact .inr ⟨h1, by omega, h3, h4⟩
  ·refine .inr ⟨by omega, h2, fun e => ?_, fun e => ?_⟩
   ·have : k < w1.heap.size := hml k (.inr (.inr e)); omega
   ·have := hsl k (.inr e); omega
theorem OPost.part {F P : Nat → Prop} {w w1 : World} {b : MB} {s : Nat} {dv : Value} {σ σ' : MemS} {r r' : SrcS} {o : Nat} {x : OpS} {p : Part} {sv pv : Value} (hb : MemAt w b σ) (hs : SrcAt w s dv r) (hA : Apart w b F) (ha : SApart b F s dv) (hx : OpAt w F o x)
  (ho : w.heap[o]? = some (.cells (x.cs sv pv) 212 (0, 0))) (hsh : ShelfAt w F sv x.shelf) (hP : ∀ k, P k → F k ∧ k ≠ o ∧ sv.ownBlock ≠ some k)
  (hp : OPost P w b s dv σ' r' w1 (fun W F' => PartAt W F' pv p)) : OPost F w b s dv σ' r' w1 (fun W F' => OpAt W F' o { x with part := p }) := by
 obtain ⟨nv', dv', hm, hs', hn, hd, hk, hpa⟩ := hp
 have hl := hA.lt
 have hne := hA.ne
 have hkeep : ∀ k ob, F k → ¬ P k → w.heap[k]? = some ob → w1.heap[k]? = some ob := fun k ob hF hnP hh => hk.heap hh (fun e => by
  rcases e with e | e | e | e
  ·exact hnP e
  ·exact hne k hF e
  ·exact (ha k (.inl e)).1 hF
  ·exact (ha k (.inr e)).1 hF)
 refine ⟨nv', dv', hm, hs', hn, hd, hk.mono (fun k e => e.imp (fun e => (hP k e).1) id), .inl hx.own, ⟨sv, pv, grownO P w w1 nv' dv', hkeep _ _ hx.own (fun e => (hP o e).2.1 rfl) ho, ?_, hpa, fun k hk1 => ?_⟩, hx.right, hx.rwt, hx.rv, hx.ri, hx.rp, hx.few⟩
 ·refine ⟨row_step hsh.row fun k hv => ?_, fun k hv => .inl (hsh.own k hv), hsh.range⟩
  have hF := hsh.own k hv
  refine hk.block k (hl k hF) (fun e => ?_)
  rcases e with e | e | e | e
  ·exact (hP k e).2.2 hv
  ·exact hne k hF e
  ·exact (ha k (.inl e)).1 hF
  ·exact (ha k (.inr e)).1 hF
 ·rcases hk1 with h | h
  ·exact ⟨.inl (hP k h).1, (hP k h).2⟩
  ·refine ⟨.inr h, fun e => ?_, fun e => ?_⟩
   ·have := hl o hx.own
    have := h.1
    omega
   ·have := hl k (hsh.own k e)
    have := h.1
    omega
end Go.Proofs.YtgdoeoackhfikaaGreatDoor

namespace Go.Proofs.YtgdoeoackhfikaaGreatDoor
open Go.RowKit Go.Proofs.YtgdoeoackhfikaaGreatDoorW.PrintWords
set_option maxRecDepth 100000
set_option maxHeartbeats 4000000
set_option linter.unusedSimpArgs false
set_option linter.unusedVariables false
attribute [local go_sem] hs_other hs_alloc hs_falloc run_store_func run_makeFunc
attribute [local go_sem ↓] Go.wp_at_zero Go.wp_at_succ
theorem op_goes (W : World) (o : Nat) (t : TypeId) (v pv : Value) (hc : W.cell? ⟨o, 14, none⟩ = some pv) (hf : W.frozen? ⟨o, 14, none⟩ = false) :
  Calls Tryz.prog 236 #[.pointer (some ⟨o, 0, none⟩), .iface t v] W fun e w' => e = .returned (.int .i64 0) ∧ w' = W.setCell ⟨o, 14, none⟩ (.iface t v) := by
 go_enter Tryz.func236, Tryz.ntmps236
 go_wp2
 go_ret
 exact ⟨rfl, rfl⟩
def MorePost (W : World) (F : Nat → Prop) (o : Nat) (z : OpS) (st : Int) (e : Ending) (w' : World) : Prop := e = .returned (.int .i64 st) ∧ OpMore W F o z w'
theorem OpMore.base {W W1 w' : World} {F : Nat → Prop} {o : Nat} {z : OpS} (hk : Kp (fun k => k = o) W W1) (hsz : W1.heap.size = W.heap.size) (h : OpMore W1 F o z w') : OpMore W F o z w' :=
 ⟨hk.comp h.1 (fun _ _ e => e), by have := h.2; rw [hsz] at this; exact this⟩
theorem op_core (W : World) (F : Nat → Prop) (o : Nat) (y : OpS) (hy : OpAt W F o y) (hlt : ∀ k, F k → k < W.heap.size) :
  Calls Tryz.prog 242 #[.pointer (some ⟨o, 0, none⟩)] W (MorePost W F o y.core 0) := by
 obtain ⟨sv, pv, P, ho, hsh, hpa, hP⟩ := hy.obj
 have hall : ∀ V : World, Kp (fun _ => False) W V → (V.cell? ⟨o, 0, none⟩ = some (.int .i64 y.c.l.nodes) ∧ V.cell? ⟨o, 1, none⟩ = some (.int .i64 y.c.l.slots) ∧ V.cell? ⟨o, 2, none⟩ = some (.int .i64 y.c.l.holders) ∧ V.cell? ⟨o, 3, none⟩ = some (.int .u32 y.c.l.tag) ∧ V.cell? ⟨o, 12, none⟩ = some (.int .u32 y.i)) := fun V hk => by
  have q := (obj_cells (hk.heap ho (fun e => e))).1
  exact ⟨q 0, q 1, q 2, q 3, q 12⟩
 have hall2 : ∀ V : World, Kp (fun _ => False) W V → ∀ u : Value, ((V.setCell ⟨o, 14, none⟩ u).cell? ⟨o, 0, none⟩ = some (.int .i64 y.c.l.nodes) ∧ (V.setCell ⟨o, 14, none⟩ u).cell? ⟨o, 1, none⟩ = some (.int .i64 y.c.l.slots) ∧ (V.setCell ⟨o, 14, none⟩ u).cell? ⟨o, 2, none⟩ = some (.int .i64 y.c.l.holders) ∧ (V.setCell ⟨o, 14, none⟩ u).cell? ⟨o, 3, none⟩ = some (.int .u32 y.c.l.tag) ∧ (V.setCell ⟨o, 14, none⟩ u).cell? ⟨o, 12, none⟩ = some (.int .u32 y.i)) := fun V hk u => by
  have q := (obj_cells (hp_same _ o 14 u (hk.heap ho (fun e => e)))).1
  exact ⟨q 0, q 1, q 2, q 3, q 12⟩
 have hgo : ∀ V : World, Kp (fun _ => False) W V → ∀ (t : TypeId) (v : Value), Calls Tryz.prog 236 #[.pointer (some ⟨o, 0, none⟩), .iface t v] V (fun e w' => e = .returned (.int .i64 0) ∧ w' = V.setCell ⟨o, 14, none⟩ (.iface t v)) := fun V hk t v => op_goes V o t v pv ((obj_cells (hk.heap ho (fun e => e))).1 14) ((obj_cells (hk.heap ho (fun e => e))).2.1 14)
 have hnt := fun V => taglist_NewTake y.c.l hy.right.1 0 V
 have hng := fun V => taglist_NewGive y.c.l hy.right.1 0 y.i hy.ri V
 unfold LCfg.v at hnt hng
 have HNT := Lib.hid hnt
 have HNG := Lib.hid hng
 have HALL := Lib.hid hall
 have HALL2 := Lib.hid hall2
 have HGO := Lib.hid hgo
 have HY := Lib.hid hy
 have HLT := Lib.hid hlt
 have c10 : W.cell? ⟨o, 10, none⟩ = some (.bool y.push) := (obj_cells ho).1 10
 clear hall hall2 hgo hy hlt ho hsh hpa hP hnt hng
 cases hp : y.push
 ·have ey : y.core = { y with part := .tt (newTake y.c.l 0) } := by unfold OpS.core; rw [hp]; rfl
  rw [ey]
  rw [hp] at c10
  clear ey hp
  obtain ⟨a0, a1, a2, a3, _⟩ := HALL.out W (Kp.refl _ _)
  go_enter Tryz.func242, Tryz.ntmps242
  go_wp2_with fail
  refine (HNT.out W).mono ?_
  rintro e w1 ⟨t, rfl, ht, hkA, hx⟩
  have hgo1 := HGO.out w1 hkA
  go_wp2_with fail
  refine (hgo1 _ _).mono ?_
  rintro e w2 ⟨rfl, rfl⟩
  go_wp2
  go_ret
  exact ⟨rfl, HY.out.newPart HLT.out hkA (.tt (newTake y.c.l 0)) _ ⟨t, rfl, hx, rfl⟩⟩
 ·have ey : y.core = { y with part := .tg (newGive y.c.l 0 y.i) } := by unfold OpS.core; rw [hp]; rfl
  rw [ey]
  rw [hp] at c10
  clear ey hp
  go_enter Tryz.func242, Tryz.ntmps242
  go_wp2_with fail
  go_region_held3 (fun V => V.cell? ⟨o, 0, none⟩ = some (.int .i64 y.c.l.nodes) ∧ V.cell? ⟨o, 1, none⟩ = some (.int .i64 y.c.l.slots) ∧ V.cell? ⟨o, 2, none⟩ = some (.int .i64 y.c.l.holders) ∧ V.cell? ⟨o, 3, none⟩ = some (.int .u32 y.c.l.tag) ∧ V.cell? ⟨o, 12, none⟩ = some (.int .u32 y.i))
   (first | exact HALL.out _ (Kp.refl _ _) | exact HALL.out _ (Kp.refl _ _).drew | exact HALL.out _ hkA | exact HALL2.out _ hkA _)
   ((first
    | (go_at_call 252; refine (HNG.out W.drew).mono ?_; rintro e w1 ⟨t, rfl, ht, hk1, hx⟩; have hkA := Kp.undrew hk1)
    | (go_at_call 236; refine (HGO.out w1 hkA _ _).mono ?_; rintro e w2 ⟨rfl, rfl⟩)))
  go_wp2
  go_ret
  exact ⟨rfl, HY.out.newPart HLT.out hkA (.tg (newGive y.c.l 0 y.i)) _ ⟨t, rfl, hx, rfl⟩⟩
theorem op_back (W : World) (F : Nat → Prop) (o : Nat) (y : OpS) (hy : OpAt W F o y) (hlt : ∀ k, F k → k < W.heap.size) :
  Calls Tryz.prog 245 #[.pointer (some ⟨o, 0, none⟩)] W (MorePost W F o y.back 0) := by
 obtain ⟨sv, pv, P, ho, hsh, hpa, hP⟩ := hy.obj
 have hall : ∀ V : World, Kp (fun _ => False) W V → (V.cell? ⟨o, 0, none⟩ = some (.int .i64 y.c.l.nodes) ∧ V.cell? ⟨o, 1, none⟩ = some (.int .i64 y.c.l.slots) ∧ V.cell? ⟨o, 2, none⟩ = some (.int .i64 y.c.l.holders) ∧ V.cell? ⟨o, 3, none⟩ = some (.int .u32 y.c.l.tag) ∧ V.cell? ⟨o, 4, none⟩ = some (.int .i64 y.c.budget) ∧ V.cell? ⟨o, 7, none⟩ = some (sv) ∧ V.cell? ⟨o, 12, none⟩ = some (.int .u32 y.i)) := fun V hk => by
  have q := (obj_cells (hk.heap ho (fun e => e))).1
  exact ⟨q 0, q 1, q 2, q 3, q 4, q 7, q 12⟩
 have hall2 : ∀ V : World, Kp (fun _ => False) W V → ∀ u : Value, ((V.setCell ⟨o, 14, none⟩ u).cell? ⟨o, 0, none⟩ = some (.int .i64 y.c.l.nodes) ∧ (V.setCell ⟨o, 14, none⟩ u).cell? ⟨o, 1, none⟩ = some (.int .i64 y.c.l.slots) ∧ (V.setCell ⟨o, 14, none⟩ u).cell? ⟨o, 2, none⟩ = some (.int .i64 y.c.l.holders) ∧ (V.setCell ⟨o, 14, none⟩ u).cell? ⟨o, 3, none⟩ = some (.int .u32 y.c.l.tag) ∧ (V.setCell ⟨o, 14, none⟩ u).cell? ⟨o, 4, none⟩ = some (.int .i64 y.c.budget) ∧ (V.setCell ⟨o, 14, none⟩ u).cell? ⟨o, 7, none⟩ = some (sv) ∧ (V.setCell ⟨o, 14, none⟩ u).cell? ⟨o, 12, none⟩ = some (.int .u32 y.i)) := fun V hk u => by
  have q := (obj_cells (hp_same _ o 14 u (hk.heap ho (fun e => e)))).1
  exact ⟨q 0, q 1, q 2, q 3, q 4, q 7, q 12⟩
 have hgo : ∀ V : World, Kp (fun _ => False) W V → ∀ (t : TypeId) (v : Value), Calls Tryz.prog 236 #[.pointer (some ⟨o, 0, none⟩), .iface t v] V (fun e w' => e = .returned (.int .i64 0) ∧ w' = V.setCell ⟨o, 14, none⟩ (.iface t v)) := fun V hk t v => op_goes V o t v pv ((obj_cells (hk.heap ho (fun e => e))).1 14) ((obj_cells (hk.heap ho (fun e => e))).2.1 14)
 have hng := fun V (hk : Kp (fun _ => False) W V) => arena_NewGive V y.c.l hy.right.1 F y.c.budget (by have := hy.right.2; omega) sv y.shelf (hsh.kept (fun k o _ ho => hk.heap ho (fun e => e)) (fun _ h => h)) hy.few y.i hy.ri
 obtain ⟨A, cc, rfl⟩ := row_slice hsh.row
 unfold LCfg.v at hng
 have HNG := Lib.hid hng
 have HALL := Lib.hid hall
 have HALL2 := Lib.hid hall2
 have HGO := Lib.hid hgo
 have HY := Lib.hid hy
 have HLT := Lib.hid hlt
 clear hall hall2 hgo ho hsh hpa hP hng hlt
 unfold OpS.back
 go_enter Tryz.func245, Tryz.ntmps245
 go_wp2_with fail
 go_region_held3 (fun V => V.cell? ⟨o, 0, none⟩ = some (.int .i64 y.c.l.nodes) ∧ V.cell? ⟨o, 1, none⟩ = some (.int .i64 y.c.l.slots) ∧ V.cell? ⟨o, 2, none⟩ = some (.int .i64 y.c.l.holders) ∧ V.cell? ⟨o, 3, none⟩ = some (.int .u32 y.c.l.tag) ∧ V.cell? ⟨o, 4, none⟩ = some (.int .i64 y.c.budget) ∧ V.cell? ⟨o, 7, none⟩ = some (.slice A y.shelf.length cc) ∧ V.cell? ⟨o, 12, none⟩ = some (.int .u32 y.i))
  (first | exact HALL.out _ (Kp.refl _ _) | exact HALL.out _ (Kp.refl _ _).drew | exact HALL.out _ hkA | exact HALL2.out _ hkA _)
  ((first
   | (go_at_call 253; refine (HNG.out W.drew (Kp.refl _ _).drew).mono ?_; rintro e w1 ⟨t, rfl, ht, hk1, hx⟩; have hkA := Kp.undrew hk1)
   | (go_at_call 236; refine (HGO.out w1 hkA _ _).mono ?_; rintro e w2 ⟨rfl, rfl⟩)))
 go_wp2
 go_ret
 exact ⟨rfl, HY.out.newPart HLT.out hkA (.ag (newTries y.c.budget y.shelf (newGive y.c.l 1 y.i)) y.i) _ ⟨t, rfl, hx, hy.ri.1, hy.ri.2, hy.few⟩⟩
theorem op_has (W : World) (F : Nat → Prop) (o : Nat) (y : OpS) (hy : OpAt W F o y) (hlt : ∀ k, F k → k < W.heap.size) (i : Int) (hi : 0 ≤ i ∧ i < 4294967296) :
  Calls Tryz.prog 243 #[.pointer (some ⟨o, 0, none⟩), .int .u32 i] W (MorePost W F o (y.has i) 0) := by
 obtain ⟨sv, pv, P, ho, hsh, hpa, hP⟩ := hy.obj
 have f12 : W.frozen? ⟨o, 12, none⟩ = false := (obj_cells ho).2.1 12
 have c12 : W.cell? ⟨o, 12, none⟩ = some (.int .u32 y.i) := (obj_cells ho).1 12
 have ho1 := hp_same _ o 12 (.int .u32 i) ho
 have hy1 : OpAt (W.setCell ⟨o, 12, none⟩ (.int .u32 i)) F o { y with i := i } := hy.put 12 _ (fun _ _ => rfl) rfl rfl rfl rfl hy.rv hi
 have hk1 : Kp (fun k => k = o) W (W.setCell ⟨o, 12, none⟩ (.int .u32 i)) := Kp.st (S := fun k => k = o) (Kp.refl _ _) (.inl rfl) 12 _
 have hsz1 : (W.setCell ⟨o, 12, none⟩ (.int .u32 i)).heap.size = W.heap.size := by simp [World.setCell]
 have hlv := fun V => layout_Value y.c.l V hy.right.1 i hi
 unfold LCfg.v at hlv
 have HLV := Lib.hid hlv
 have HY1 := Lib.hid hy1
 have HK1 := Lib.hid hk1
 have HLT := Lib.hid hlt
 have HO1 := Lib.hid ho1
 have HSZ := Lib.hid hsz1
 clear hlv hy1 hk1 hlt ho1 hsz1 hsh hpa hP ho
 go_enter Tryz.func243, Tryz.ntmps243
 have b0 : (W.setCell ⟨o, 12, none⟩ (.int .u32 i)).cell? ⟨o, 0, none⟩ = some (.int .i64 y.c.l.nodes) := (obj_cells HO1.out).1 0
 have b1 : (W.setCell ⟨o, 12, none⟩ (.int .u32 i)).cell? ⟨o, 1, none⟩ = some (.int .i64 y.c.l.slots) := (obj_cells HO1.out).1 1
 have b2 : (W.setCell ⟨o, 12, none⟩ (.int .u32 i)).cell? ⟨o, 2, none⟩ = some (.int .i64 y.c.l.holders) := (obj_cells HO1.out).1 2
 have b3 : (W.setCell ⟨o, 12, none⟩ (.int .u32 i)).cell? ⟨o, 3, none⟩ = some (.int .u32 y.c.l.tag) := (obj_cells HO1.out).1 3
 go_wp2_with fail
 refine (HLV.out _).mono ?_
 rintro e w1 ⟨rfl, hb1⟩
 have hkA : Kp (fun _ => False) (W.setCell ⟨o, 12, none⟩ (.int .u32 i)) w1 := Kp.nb hb1
 have hgo1 := fun t v => op_goes w1 o t v pv ((obj_cells (hkA.heap HO1.out (fun e => e))).1 14) ((obj_cells (hkA.heap HO1.out (fun e => e))).2.1 14)
 clear b0 b1 b2 b3 hb1 f12 c12
 go_wp2_with fail
 refine (hgo1 _ _).mono ?_
 rintro e w2 ⟨rfl, rfl⟩
 go_wp2
 go_ret
 exact ⟨rfl, OpMore.base HK1.out HSZ.out (HY1.out.newPart (fun k hk => by rw [HSZ.out]; exact HLT.out k hk) hkA (.acc (y.c.l.valueAt i) false) _ rfl)⟩
end Go.Proofs.YtgdoeoackhfikaaGreatDoor
