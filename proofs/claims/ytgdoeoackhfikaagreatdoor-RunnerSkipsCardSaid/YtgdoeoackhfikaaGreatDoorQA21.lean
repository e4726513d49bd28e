/-
  Proved: RunnerSkips answers true and leaves its arguments as they were, for every input; where the package-level variables that the row lists hold what the program's text lays (the card ties that).
-/
import Derived.Test.YtgdoeoackhfikaaGreatDoorQA19
import Derived.Test.YtgdoeoackhfikaaGreatDoorQA20
namespace Go.Proofs.YtgdoeoackhfikaaGreatDoor
open Go.RowKit Go.Proofs.YtgdoeoackhfikaaGreatDoorW.PrintWords
set_option maxRecDepth 100000
set_option maxHeartbeats 40000000
set_option linter.unusedSimpArgs false
set_option linter.unusedVariables false
attribute [local go_sem] hs_other hs_alloc hs_falloc
attribute [local go_sem ↓] Go.wp_at_zero Go.wp_at_succ
theorem skips_walk (nodes slots budget tag threads : Int) (r0 : -9223372036854775808 ≤ nodes ∧ nodes ≤ 9223372036854775807) (r1 : -9223372036854775808 ≤ slots ∧ slots ≤ 9223372036854775807) (r2 : -9223372036854775808 ≤ budget ∧ budget ≤ 9223372036854775807) (r3 : 0 ≤ tag ∧ tag < 4294967296) (r4 : -9223372036854775808 ≤ threads ∧ threads ≤ 9223372036854775807) (s : ByteArray) (w : World) (hG : GG w) :
  Calls Tryz.prog 6 #[.int .i64 nodes, .int .i64 slots, .int .i64 budget, .int .u32 tag, .int .i64 threads, .string s] w fun e w' => e = .returned (.bool true) ∧ Below w.heap.size w w' := by
 obtain ⟨c, hc, hw, htg, q1, q2, q3, hcf⟩ := config_ok nodes slots budget tag r0 r1 r2 r3
 clear q1 q2 q3
 obtain ⟨ρ, p0, p8, hpick⟩ := pick_ok threads r4 8 (by decide)
 obtain ⟨n, hnz⟩ : ∃ n : Nat, (n : Int) = 1 + ρ := ⟨(1 + ρ).toNat, by omega⟩
 have hn : 1 ≤ n ∧ n ≤ 8 := by omega
 have hwr : IntKind.i64.wrap (1 + ρ) = (n : Int) := by rw [wrap_small _ (by omega), hnz]
 have hwr2 : wrap64 (1 + ρ) = (n : Int) := by unfold wrap64; omega
 clear hnz
 obtain ⟨ws, hwl, hstk⟩ := stack_made c hc hw (by rw [htg]; exact r3)
 have HCF := Lib.hid hcf
 have HPK := Lib.hid hpick
 have hst := hstk n hn
 unfold ECfg.v at hst
 have HST := Lib.hid hst
 have HWL := Lib.hid hwl
 have HC := Lib.hid hc
 clear hcf hst hstk hwl hpick hc hw htg
 go_enter Tryz.func6, Tryz.ntmps6
 go_wp2_with fail
 refine (shown_walk w hG).mono ?_
 rintro e w1 ⟨rfl, hb1⟩
 have hk1 : Kp (fun _ => False) w w1 := Kp.nb hb1
 clear hb1
 go_wp2_with fail
 refine (G.hatstandlaw17_config.calls _ _ _ _ _ _ _ _ _ _ _ w1 HCF.out).mono ?_
 rintro e w2 ⟨rfl, hb2⟩
 have hk2 : Kp (fun _ => False) w w2 := hk1.also (Kp.nb hb2)
 clear hb2
 go_wp2_with fail
 refine any_world (p := fun W => Calls Tryz.prog _ _ W _) ?_
 intro w3 hW3
 have hk3 : Kp (fun _ => False) w w3 := by rw [hW3]; exact hk2.alloc _
 have hO3 : w3.heap[w2.heap.size]? = some (.cells #[.int .i64 c.l.nodes, .int .i64 c.l.slots, .int .i64 c.l.holders, .int .u32 c.l.tag, .int .i64 c.budget, .int .i64 c.base, .int .u64 c.wait] 35 (0, 0)) := by rw [hW3]; exact hp_new _ _ _ rfl
 clear hW3
 refine (G.hatstandlaw17_pick.calls threads 8 ρ w3 HPK.out).mono ?_
 rintro e w4 ⟨rfl, hdr⟩
 obtain ⟨nd, hdr⟩ := hdr.out
 have hk34 : Kp (fun _ => False) w3 w4 := by rw [hdr]; exact (Kp.refl _ _).drewN nd
 have hk4 : Kp (fun _ => False) w w4 := hk3.also hk34
 have hO4 := hk34.heap hO3 (fun e => e)
 clear hdr hk34
 have a0 : w4.cell? ⟨w2.heap.size, 0, none⟩ = some (.int .i64 c.l.nodes) := (obj_cells hO4).1 0
 have a1 : w4.cell? ⟨w2.heap.size, 1, none⟩ = some (.int .i64 c.l.slots) := (obj_cells hO4).1 1
 have a2 : w4.cell? ⟨w2.heap.size, 2, none⟩ = some (.int .i64 c.l.holders) := (obj_cells hO4).1 2
 have a3 : w4.cell? ⟨w2.heap.size, 3, none⟩ = some (.int .u32 c.l.tag) := (obj_cells hO4).1 3
 have a4 : w4.cell? ⟨w2.heap.size, 4, none⟩ = some (.int .i64 c.budget) := (obj_cells hO4).1 4
 have a5 : w4.cell? ⟨w2.heap.size, 5, none⟩ = some (.int .i64 c.base) := (obj_cells hO4).1 5
 have a6 : w4.cell? ⟨w2.heap.size, 6, none⟩ = some (.int .u64 c.wait) := (obj_cells hO4).1 6
 go_wp2_with fail
 clear hwr hwr2
 refine (HST.out w4).mono ?_
 rintro e w5 ⟨B1, rfl, hR1, hk45, hf1⟩
 have hk5 : Kp (fun _ => False) w w5 := hk4.also hk45
 have HR1 := Lib.hid hR1
 clear hR1
 have hO5 := hk45.heap hO4 (fun e => e)
 clear a0 a1 a2 a3 a4 a5 a6
 have a0 : w5.cell? ⟨w2.heap.size, 0, none⟩ = some (.int .i64 c.l.nodes) := (obj_cells hO5).1 0
 have a1 : w5.cell? ⟨w2.heap.size, 1, none⟩ = some (.int .i64 c.l.slots) := (obj_cells hO5).1 1
 have a2 : w5.cell? ⟨w2.heap.size, 2, none⟩ = some (.int .i64 c.l.holders) := (obj_cells hO5).1 2
 have a3 : w5.cell? ⟨w2.heap.size, 3, none⟩ = some (.int .u32 c.l.tag) := (obj_cells hO5).1 3
 have a4 : w5.cell? ⟨w2.heap.size, 4, none⟩ = some (.int .i64 c.budget) := (obj_cells hO5).1 4
 have a5 : w5.cell? ⟨w2.heap.size, 5, none⟩ = some (.int .i64 c.base) := (obj_cells hO5).1 5
 have a6 : w5.cell? ⟨w2.heap.size, 6, none⟩ = some (.int .u64 c.wait) := (obj_cells hO5).1 6
 go_wp2_with fail
 refine (HST.out w5).mono ?_
 rintro e w6 ⟨B2, rfl, hR2, hk56, hf2⟩
 have hk6 : Kp (fun _ => False) w w6 := hk5.also hk56
 have HR2 := Lib.hid hR2
 have hR1 := HR1.out.kept hk56 (fun _ _ e => e)
 have hdis : ∀ k, B1.all k → ¬ B2.all k := fun k h1 h2 => by
  have := HR1.out.all_lt h1
  have := hf2 k h2
  omega
 have HR1 := Lib.hid hR1
 clear hR1 hR2 a0 a1 a2 a3 a4 a5 a6
 rcases Nat.lt_or_ge 3000 s.size with hs | hs
 ·have hd : decide (3000 < (s.size : Int)) = true := decide_eq_true (by omega)
  go_wp2
  go_ret
  exact ⟨rfl, hk6.blw⟩
 have hd : decide (3000 < (s.size : Int)) = false := decide_eq_false (by omega)
 have hI0 := newRun_inv c HC.out n ws
 generalize hσ : newRun c n ws = σ at *
 have hq1 := runner_Sched w6 B1 σ HR1.out
 have hq2 := runner_Sched w6 B2 σ HR2.out
 go_wp2_with fail
 refine (hq1).mono ?_
 rintro e w7 ⟨rfl, hww7⟩
 obtain rfl : w6 = w7 := by first | exact hww7.symm | exact hww7
 go_wp2_with fail
 refine (hq2).mono ?_
 rintro e w7 ⟨rfl, hww7⟩
 obtain rfl : w6 = w7 := by first | exact hww7.symm | exact hww7
 have hpa := G.glyph_Parse.calls s (parseF s) w6 (GG_at hG hk6.blw) (by unfold G.glyph_Parse.f; rw [if_pos (by omega)])
 obtain ⟨es, hes⟩ : ∃ es, es = parseF s := ⟨_, rfl⟩
 have hlen : es.length ≤ 3000 := by rw [hes]; exact Nat.le_trans (parseF_len s) hs
 have hrng : ∀ e ∈ es, ∀ z ∈ e.f1, 0 ≤ z ∧ z < 18446744073709551616 := by rw [hes]; exact parseF_range s
 rw [← hes] at hpa
 have HRG := Lib.hid hrng
 have HLEN := Lib.hid hlen
 have HI0 := Lib.hid hI0
 clear hrng hlen hes hI0 hσ hq1 hq2
 go_wp2_with fail
 refine hpa.mono ?_
 rintro e w7 ⟨v0, rfl, hN, hb7⟩
 obtain ⟨A, c0, rfl⟩ := Kd.N_slice hN
 have hk67 : Kp (fun _ => False) w6 w7 := Kp.nb hb7
 have hN7 := Kd.N_bound hN
 have HN7 := Lib.hid hN7
 have HRA := Lib.hid (HR1.out.kept hk67 (fun _ _ e => e))
 have HRB := Lib.hid (HR2.out.kept hk67 (fun _ _ e => e))
 have hlt1 : ∀ k, B1.all k → k < w6.heap.size := fun k hk => HR1.out.all_lt hk
 have hlt2 : ∀ k, B2.all k → k < w6.heap.size := fun k hk => HR2.out.all_lt hk
 have s67 := hk67.size
 clear hN hb7 hN7 hpa
 go_wp2_with fail
 refine wp_world ?_
 intro W0 hW0
 obtain rfl : w7 = W0 := hW0.symm
 go_loopw [23] (fun i wr => ∃ (j : Nat) (Ba Bb : RB), j ≤ es.length ∧ i = .int .i64 j ∧ B1.Like Ba ∧ B2.Like Bb ∧ RunAt wr Ba (σ.runs (es.take j)).1 ∧ RunAt wr Bb (σ.runs (es.take j)).1 ∧ (∀ k, Ba.all k → ¬ Bb.all k) ∧ Kp (fun k => B1.all k ∨ B2.all k) w7 wr ∧ (∀ k, Ba.all k → B1.all k ∨ w7.heap.size ≤ k) ∧ (∀ k, Bb.all k → B2.all k ∨ w7.heap.size ≤ k) ∧ Kd.N G.k33 39 wr w6.heap.size (fun k => w6.heap.size ≤ k ∧ k < w7.heap.size) (.slice A es.length c0) es) (fun i _ => es.length - (intOf i).toNat)
 case atStart =>
  exact ⟨0, B1, B2, by omega, rfl, RB.Like.refl B1, RB.Like.refl B2, HRA.out, HRB.out, hdis, Kp.refl _ _, fun k e => .inl e, fun k e => .inl e, HN7.out⟩
 case round =>
  obtain ⟨j, Ba, Bb, hj, rfl, hLa, hLb, hRa, hRb, hdj, hK, hAa, hAb, hN⟩ := hrel
  have hIj := HI0.out.runs (es.take j)
  have hlj : (es.take j).length ≤ 3000 := by rw [List.length_take]; have := HLEN.out; omega
  by_cases hlt : j < es.length
  ·have hdj1 : decide ((j : Int) < (es.length : Int)) = true := decide_eq_true (by omega)
   obtain ⟨en, he⟩ : ∃ en, es[j]? = some en := ⟨_, List.getElem?_eq_getElem hlt⟩
   have HWJ := Lib.hid (wrap_succ j (by have := HLEN.out; omega))
   have htk : es.take (j + 1) = es.take j ++ [en] := by rw [List.take_add_one, he]; rfl
   have hrs : (σ.runs (es.take (j + 1))).1 = ((σ.runs (es.take j)).1.do_ (entOf en)).1 := by rw [htk, Run.runs_snoc]
   have HRS := Lib.hid hrs
   clear htk hrs
   generalize (σ.runs (es.take j)).1 = τ at *
   obtain ⟨z, hz⟩ : ∃ z, z = τ.do_ (entOf en) := ⟨_, rfl⟩
   have HZ := Lib.hid hz
   clear hz
   have hfew := hIj.few (by omega)
   have hevs : τ.evs.length ≤ 1000000 := by have := hIj.evs; omega
   have hsteps := hIj.steps (by omega) (entOf en)
   have hg1 := runner_Sched wr Ba τ hRa
   have hg2 := sched_Mem wr Ba.s Ba.mb.m Ba.q Ba.tg _ _ hRa.sch
   have hg3 := mem_Count wr Ba.mb _ hRa.mem
   have hg4 := events_as wr Ba τ hRa hfew hevs
   rw [hLa.r] at hg1 hg4
   have HRa := Lib.hid hRa
   have HRb := Lib.hid hRb
   have HN := Lib.hid hN
   clear hRa hRb hN
   go_wp2_with fail
   refine (hg1).mono ?_
   rintro e w8 ⟨rfl, hww8⟩
   obtain rfl : wr = w8 := by first | exact hww8.symm | exact hww8
   go_wp2_with fail
   refine (hg2).mono ?_
   rintro e w8 ⟨rfl, hww8⟩
   obtain rfl : wr = w8 := by first | exact hww8.symm | exact hww8
   go_wp2_with fail
   refine (hg3).mono ?_
   rintro e w8 ⟨rfl, hww8⟩
   obtain rfl : wr = w8 := by first | exact hww8.symm | exact hww8
   go_wp2_with fail
   refine hg4.mono ?_
   rintro e w8 ⟨A8, c8, rfl, hk8, _, _⟩
   have hok : ∀ k, (w6.heap.size ≤ k ∧ k < w7.heap.size) → ¬ (Ba.all k ∨ Bb.all k) := fun k hk e => by
    rcases e with e | e
    ·rcases hAa k e with h | h
     ·have := hlt1 k h; omega
     ·omega
    ·rcases hAb k e with h | h
     ·have := hlt2 k h; omega
     ·omega
   have hN8 := Kd.N_step HN.out (w1 := w8) (fun k hk hlt => hk8.block k hlt (fun e => e))
   obtain ⟨ad, A1, a1, rfl, hbl, e0, e1, e2, e3, hargs⟩ := entry_read hN8 he
   have hRa8 := HRa.out.kept hk8 (fun _ _ e => e)
   have hRb8 := HRb.out.kept hk8 (fun _ _ e => e)
   have hdo := runner_Do w8 Ba τ hRa8 hfew en.f0 A1 a1 en.f1 (fun hp => by
    obtain ⟨zd, h1, h2, h3⟩ := hargs hp
    exact ⟨zd, h1, ⟨h2, HRG.out en (List.mem_of_getElem? he)⟩, fun h => hok _ h3 (.inl h)⟩) en.f2 en.f3 hsteps
   have hze : τ.do_ ⟨en.f0, en.f1, en.f2, en.f3⟩ = z := by rw [HZ.out]; rfl
   rw [hLa.r, hze] at hdo
   have HN8 := Lib.hid hN8
   have HRb8 := Lib.hid hRb8
   have HAR := Lib.hid hargs
   have hsz8 := hk8.size
   clear hN8 hRb8 hargs hRa8 hg1 hg2 hg3 hg4
   go_wp2_with fail
   refine hdo.mono ?_
   rintro e w9 ⟨rfl, Ba', y1, y2, y3, y4⟩
   obtain ⟨hRb9, hd9⟩ := HRb8.out.beside y3 (fun k hk e => hdj k e hk) y4
   have hN9 := Kd.N_step HN8.out (w1 := w9) (fun k hk hlt => y3.block k hlt (fun e => hok k hk (.inl e)))
   have hsz9 := y3.size
   have HN9 := Lib.hid hN9
   have HRb9 := Lib.hid hRb9
   have hAa9 : ∀ k, Ba'.all k → B1.all k ∨ w7.heap.size ≤ k := fun k e => by
    rcases y4 k e with h | h
    ·exact hAa k h
    ·exact .inr (by have := hK.size; omega)
   have hK9 : Kp (fun k => B1.all k ∨ B2.all k) w7 w9 := (hK.also hk8).comp y3 (fun k hk e => by
    rcases hAa k e with h | h
    ·exact .inl h
    ·omega)
   have HY2 := Lib.hid y2
   clear hN9 hRb9 y3 e0 e1 e2 e3 hdo y2
   by_cases hz0 : z.2 = 0
   ·have hz0' : z.2 = (0 : Int) := hz0
    rw [hz0']
    obtain ⟨ad', A2, a2, had, hbl2, f0, f1, f2, f3, hargs2⟩ := entry_read HN9.out he
    obtain rfl : ad = ad' := Option.some.inj had
    have hdo2 := runner_Do w9 Bb τ HRb9.out hfew en.f0 A2 a2 en.f1 (fun hp => by
     obtain ⟨zd, h1, h2, h3⟩ := hargs2 hp
     exact ⟨zd, h1, ⟨h2, HRG.out en (List.mem_of_getElem? he)⟩, fun h => hok _ h3 (.inr h)⟩) en.f2 en.f3 hsteps
    rw [hLb.r, hze] at hdo2
    have hz0x : z.2 = 0 := hz0
    clear hargs2 hz0 hz0' had
    go_wp2_with fail
    refine hdo2.mono ?_
    rintro e w10 ⟨he10, Bb', x1, x2, x3, x4⟩
    rw [hz0x] at he10
    subst he10
    clear hz0x
    obtain ⟨hRa10, hd10⟩ := HY2.out.beside x3 (fun k hk e => hd9 k e hk) x4
    have hN10 := Kd.N_step HN9.out (w1 := w10) (fun k hk hlt => x3.block k hlt (fun e => hok k hk (.inr e)))
    have hsz10 := x3.size
    have hAb10 : ∀ k, Bb'.all k → B2.all k ∨ w7.heap.size ≤ k := fun k e => by
     rcases x4 k e with h | h
     ·exact hAb k h
     ·exact .inr (by have := hK.size; omega)
    have hK10 : Kp (fun k => B1.all k ∨ B2.all k) w7 w10 := hK9.comp x3 (fun k hk e => by
     rcases hAb k e with h | h
     ·exact .inr h
     ·omega)
    have HX := Lib.hid x2
    have HRa10 := Lib.hid hRa10
    have HN10 := Lib.hid hN10
    clear hRa10 hN10 x3 hdo2 x2 f0 f1 f2 f3
    go_wp2_with fail
    refine ⟨⟨j + 1, Ba', Bb', by omega, (by rw [HWJ.out]), ⟨y1.r.trans hLa.r, y1.s.trans hLa.s, y1.q.trans hLa.q, y1.k.trans hLa.k, y1.m.trans hLa.m⟩, ⟨x1.r.trans hLb.r, x1.s.trans hLb.s, x1.q.trans hLb.q, x1.k.trans hLb.k, x1.m.trans hLb.m⟩, ?_, ?_, fun k h1 h2 => hd10 k h1 h2, hK10, hAa9, hAb10, HN10.out⟩, by rw [HWJ.out]; simp only [intOf]; omega⟩
    ·rw [HRS.out, ← HZ.out]; exact HRa10.out
    ·rw [HRS.out, ← HZ.out]; exact HX.out
   ·have hsame : z.1 = τ := by rw [HZ.out]; exact do_err τ (entOf en) (by rw [← HZ.out]; exact hz0)
    have t1 : (z.2 != 0) = true := by rw [bne_iff_ne]; exact hz0
    have t2 : (z.2 == 0) = false := beq_eq_false_iff_ne.2 hz0
    have hy2 := HY2.out
    rw [hsame] at hy2
    have hg1 := runner_Sched w9 Ba' τ hy2
    have hg2 := sched_Mem w9 Ba'.s Ba'.mb.m Ba'.q Ba'.tg _ _ hy2.sch
    have hg3 := mem_Count w9 Ba'.mb _ hy2.mem
    have hg4 := events_as w9 Ba' τ hy2 hfew hevs
    rw [y1.r, hLa.r] at hg1 hg4
    have HY := Lib.hid hy2
    have hsm : Hid (z.1 = τ) := Lib.hid hsame
    have hz0h : Hid (z.2 ≠ 0) := Lib.hid hz0
    clear hy2 hz0 hsame HY2
    go_wp2_with fail
    refine (hg1).mono ?_
    rintro e w10 ⟨rfl, hww10⟩
    obtain rfl : w9 = w10 := by first | exact hww10.symm | exact hww10
    go_wp2_with fail
    refine (hg2).mono ?_
    rintro e w10 ⟨rfl, hww10⟩
    obtain rfl : w9 = w10 := by first | exact hww10.symm | exact hww10
    go_wp2_with fail
    refine (hg3).mono ?_
    rintro e w10 ⟨rfl, hww10⟩
    obtain rfl : w9 = w10 := by first | exact hww10.symm | exact hww10
    go_wp2_with fail
    refine hg4.mono ?_
    rintro e w10 ⟨A10, c10, rfl, hk10, _, _⟩
    have HRa10 := Lib.hid (HY.out.kept hk10 (fun _ _ e => e))
    have HRb10 := Lib.hid (HRb9.out.kept hk10 (fun _ _ e => e))
    have HN10 := Lib.hid (Kd.N_step HN9.out (w1 := w10) (fun k hk hlt => hk10.block k hlt (fun e => e)))
    have hK10 := hK9.also hk10
    clear hg1 hg2 hg3 hg4
    go_wp2_with fail
    refine ⟨⟨j + 1, Ba', Bb, by omega, (by rw [HWJ.out]), ⟨y1.r.trans hLa.r, y1.s.trans hLa.s, y1.q.trans hLa.q, y1.k.trans hLa.k, y1.m.trans hLa.m⟩, hLb, ?_, ?_, fun k h1 h2 => hd9 k h2 h1, hK10, hAa9, hAb, HN10.out⟩, by rw [HWJ.out]; simp only [intOf]; omega⟩
    ·rw [HRS.out, ← HZ.out, hsm.out]; exact HRa10.out
    ·rw [HRS.out, ← HZ.out, hsm.out]; exact HRb10.out
  ·have hdj1 : decide ((j : Int) < (es.length : Int)) = false := decide_eq_false (by omega)
   generalize (σ.runs (es.take j)).1 = τ at *
   have hfew := hIj.few (by omega)
   have hevs : τ.evs.length ≤ 1000000 := by have := hIj.evs; omega
   have hg1 := runner_Sched wr Ba τ hRa
   have hg2 := runner_Sched wr Bb τ hRb
   have hga := events_as wr Ba τ hRa hfew hevs
   rw [hLa.r] at hg1 hga
   rw [hLb.r] at hg2
   have HRa := Lib.hid hRa
   have HRb := Lib.hid hRb
   clear hRa hRb hN
   go_wp2_with fail
   refine (hg1).mono ?_
   rintro e w8 ⟨rfl, hww8⟩
   obtain rfl : wr = w8 := by first | exact hww8.symm | exact hww8
   go_wp2_with fail
   refine (hg2).mono ?_
   rintro e w8 ⟨rfl, hww8⟩
   obtain rfl : wr = w8 := by first | exact hww8.symm | exact hww8
   go_wp2_with fail
   refine hga.mono ?_
   rintro e w8 ⟨A8, c8, rfl, hk8, _, has8⟩
   go_wp2_with fail
   refine (has8 w8 (Kp.refl _ _)).mono ?_
   rintro e w9 ⟨A9, c9, rfl, hk9, hr9⟩
   have hkr9 : Kp (fun _ => False) wr w9 := hk8.also hk9
   have hgb := events_as w9 Bb τ (HRb.out.kept hkr9 (fun _ _ e => e)) hfew hevs
   rw [hLb.r] at hgb
   have HR9 := Lib.hid hr9
   clear has8 hr9 hga
   go_wp2_with fail
   refine hgb.mono ?_
   rintro e w10 ⟨A10, c10, rfl, hk10, _, has10⟩
   go_wp2_with fail
   refine (has10 w10 (Kp.refl _ _)).mono ?_
   rintro e w11 ⟨A11, c11, rfl, hk11, hr11⟩
   have hsm := events_same w11 A9 A11 c9 c11 τ.evs.length _ (by rw [List.length_map, List.length_map]) hevs (HR9.out w11 (hk10.also hk11)) (hr11 w11 (Kp.refl _ _))
   have hkr11 : Kp (fun _ => False) wr w11 := (hkr9.also hk10).also hk11
   clear has10 hr11 hgb HR9
   go_wp2_with fail
   refine hsm.mono ?_
   rintro e w12 ⟨rfl, hk12⟩
   have hkr12 : Kp (fun _ => False) wr w12 := hkr11.also hk12
   have hRa := HRa.out.kept hkr12 (fun _ _ e => e)
   have hRb := HRb.out.kept hkr12 (fun _ _ e => e)
   have hm1 := sched_Mem w12 Ba.s Ba.mb.m Ba.q Ba.tg _ _ hRa.sch
   have hm2 := words_row w12 Ba.mb _ hRa.mem
   have HRa12 := Lib.hid hRa
   have HRb12 := Lib.hid hRb
   clear hsm hRa hRb
   go_wp2_with fail
   refine (hm1).mono ?_
   rintro e w13 ⟨rfl, hww13⟩
   obtain rfl : w12 = w13 := by first | exact hww13.symm | exact hww13
   go_wp2_with fail
   refine hm2.mono ?_
   rintro e w13 ⟨A13, c13, rfl, hk13, hr13⟩
   have HR13 := Lib.hid hr13
   have hRb := HRb12.out.kept hk13 (fun _ _ e => e)
   have hm3 := sched_Mem w13 Bb.s Bb.mb.m Bb.q Bb.tg _ _ hRb.sch
   have hm4 := words_row w13 Bb.mb _ hRb.mem
   clear hr13 hm1 hm2 hRb
   go_wp2_with fail
   refine (hm3).mono ?_
   rintro e w14 ⟨rfl, hww14⟩
   obtain rfl : w13 = w14 := by first | exact hww14.symm | exact hww14
   go_wp2_with fail
   refine hm4.mono ?_
   rintro e w14 ⟨A14, c14, rfl, hk14, hr14⟩
   have hws : τ.mem.words.length ≤ 1000000 := by have := HRa12.out.mem.few; omega
   have hsw := words_same w14 A13 A14 c13 c14 τ.mem.words hws (HR13.out w14 hk14) (hr14 w14 (Kp.refl _ _))
   clear hr14 HR13 hm3 hm4
   go_wp2_with fail
   refine hsw.mono ?_
   rintro e w15 ⟨rfl, hk15⟩
   have hkx : Kp (fun _ => False) w12 w15 := (hk13.also hk14).also hk15
   have hRa := HRa12.out.kept hkx (fun _ _ e => e)
   have hRb := HRb12.out.kept hkx (fun _ _ e => e)
   have u1 := sched_Mem w15 Ba.s Ba.mb.m Ba.q Ba.tg _ _ hRa.sch
   have u2 := mem_Count w15 Ba.mb _ hRa.mem
   have u3 := sched_Mem w15 Bb.s Bb.mb.m Bb.q Bb.tg _ _ hRb.sch
   have u4 := mem_Count w15 Bb.mb _ hRb.mem
   have u5 := sched_Picks w15 Ba.s Ba.mb.m Ba.q Ba.tg _ _ hRa.sch
   have u6 := sched_Picks w15 Bb.s Bb.mb.m Bb.q Bb.tg _ _ hRb.sch
   have u7 := sched_Source w15 Ba.s Ba.mb.m Ba.q Ba.tg _ _ hRa.sch
   have u8 := source_Now Ba.q τ.src.now Ba.dv w15 hRa.src.own
   have u9 := sched_Source w15 Bb.s Bb.mb.m Bb.q Bb.tg _ _ hRb.sch
   have u10 := source_Now Bb.q τ.src.now Bb.dv w15 hRb.src.own
   have u11 := source_Left w15 Ba.q Ba.dv τ.src hRa.src
   have u12 := source_Left w15 Bb.q Bb.dv τ.src hRb.src
   have hfin : Kp (fun _ => False) w w15 := by
    have k1 : Kp (fun k => B1.all k ∨ B2.all k) w7 w15 := (hK.also hkr12).also hkx
    exact (hk6.also hk67).comp k1 (fun k hk e => by
     rcases e with e | e
     ·have h5 := hf1 k e; have := hk4.size; omega
     ·have h5 := hf2 k e; have := hk5.size; omega)
   clear hsw hRa hRb
   go_wp2_with fail
   refine (u1).mono ?_
   rintro e w16 ⟨rfl, hww16⟩
   obtain rfl : w15 = w16 := by first | exact hww16.symm | exact hww16
   go_wp2_with fail
   refine (u2).mono ?_
   rintro e w16 ⟨rfl, hww16⟩
   obtain rfl : w15 = w16 := by first | exact hww16.symm | exact hww16
   go_wp2_with fail
   refine (u3).mono ?_
   rintro e w16 ⟨rfl, hww16⟩
   obtain rfl : w15 = w16 := by first | exact hww16.symm | exact hww16
   go_wp2_with fail
   refine (u4).mono ?_
   rintro e w16 ⟨rfl, hww16⟩
   obtain rfl : w15 = w16 := by first | exact hww16.symm | exact hww16
   go_wp2_with fail
   refine (u5).mono ?_
   rintro e w16 ⟨rfl, hww16⟩
   obtain rfl : w15 = w16 := by first | exact hww16.symm | exact hww16
   go_wp2_with fail
   refine (u6).mono ?_
   rintro e w16 ⟨rfl, hww16⟩
   obtain rfl : w15 = w16 := by first | exact hww16.symm | exact hww16
   go_wp2_with fail
   refine (u7).mono ?_
   rintro e w16 ⟨rfl, hww16⟩
   obtain rfl : w15 = w16 := by first | exact hww16.symm | exact hww16
   go_wp2_with fail
   refine (u8).mono ?_
   rintro e w16 ⟨rfl, hww16⟩
   obtain rfl : w15 = w16 := by first | exact hww16.symm | exact hww16
   go_wp2_with fail
   refine (u9).mono ?_
   rintro e w16 ⟨rfl, hww16⟩
   obtain rfl : w15 = w16 := by first | exact hww16.symm | exact hww16
   go_wp2_with fail
   refine (u10).mono ?_
   rintro e w16 ⟨rfl, hww16⟩
   obtain rfl : w15 = w16 := by first | exact hww16.symm | exact hww16
   go_wp2_with fail
   refine (u7).mono ?_
   rintro e w16 ⟨rfl, hww16⟩
   obtain rfl : w15 = w16 := by first | exact hww16.symm | exact hww16
   go_wp2_with fail
   refine (u11).mono ?_
   rintro e w16 ⟨rfl, hww16⟩
   obtain rfl : w15 = w16 := by first | exact hww16.symm | exact hww16
   go_wp2_with fail
   refine (u9).mono ?_
   rintro e w16 ⟨rfl, hww16⟩
   obtain rfl : w15 = w16 := by first | exact hww16.symm | exact hww16
   go_wp2_with fail
   refine (u12).mono ?_
   rintro e w16 ⟨rfl, hww16⟩
   obtain rfl : w15 = w16 := by first | exact hww16.symm | exact hww16
   go_wp2
   go_ret
   exact ⟨rfl, hfin.blw⟩
end Go.Proofs.YtgdoeoackhfikaaGreatDoor

namespace Go.Proofs.YtgdoeoackhfikaaGreatDoor
set_option linter.unusedVariables false
set_option linter.unusedSimpArgs false
open Go.ChangeShapes Go.WideShapes Go.ChangeAt Go.RowKit Go.Proofs.YtgdoeoackhfikaaGreatDoorW.PrintWords
open Go.ChangeMaps (open_string shut_string)
set_option maxRecDepth 100000
theorem runnerSkips_reads (os : Os) {H : Type} (enc : TypeId × Value → H) : ∃ places, DataW.whole enc Tryz.prog ((World.laidAll Tryz.prog os laid0).forCall (fun _ _ => 0) ⟨#[], #[.int .i64 0, .int .i64 0, .int .i64 0, .int .u32 0, .int .i64 0, .string ByteArray.empty], []⟩).memory Tryz.f6.params.toList Rows.runnerSkipsSpec.vars false #[(.int .i64 0 : Value), (.int .i64 0 : Value), (.int .i64 0 : Value), (.int .u32 0 : Value), (.int .i64 0 : Value), (.string ByteArray.empty : Value)].toList 8 = some ([.lit (.int .i64 0), .lit (.int .i64 0), .lit (.int .i64 0), .lit (.int .u32 0), .lit (.int .i64 0), .lit (.string [])], [], places) :=
 ⟨[], by kernel_rfl⟩
theorem runnerSkips_lifted (os : Os) (started : os.Started) (H : Type) (enc : TypeId × Value → H) (F : Stop.Interp) :
  ReturnsInHanded {} Tryz.checked os 6 .any ((OpenSpec.ofChange Rows.runnerSkipsSpec).preRow enc Tryz.prog Tryz.f6 Rows.runnerSkipsRow.domain false Rows.runnerSkipsRow.laid) (((OpenSpec.ofChange Rows.runnerSkipsSpec).at F).post enc Tryz.prog Tryz.f6 false true false false) := by
 obtain ⟨places, hx⟩ := runnerSkips_reads os enc
 refine lifted_law started #[.int .i64 0, .int .i64 0, .int .i64 0, .int .u32 0, .int .i64 0, .string ByteArray.empty] Tryz.func6 (by kernel_rfl) rfl rfl ?_ ?_ (by kernel_rfl) (OpenSpec.preRow_of_cond 8 hx (by kernel_rfl) (fun k hk => by cases hk) (by kernel_rfl) (wit_met os _)) ?_
 ·intro ds hl
  rw [Tryz.params6] at hl
  match ds, hl with
  | [d0, d1, d2, d3, d4, d5], _ => rfl
 ·intro t ht
  rw [Tryz.params6] at ht
  have hm : t ∈ [3, 3, 3, 30, 3, 9] := ht
  have hall : ([3, 3, 3, 30, 3, 9].all fun u => Tryz.prog.readableRec u && decide (u < Tryz.prog.types.size)) = true := by kernel_rfl
  simpa using List.all_eq_true.1 hall t hm
 ·intro W base args ds p hval hA hG hsz
  rw [Tryz.params6] at hA hval hsz
  obtain ⟨v0, vs0, d0, ds0, p0, q0, hargs, rfl, rfl, h0, r0⟩ := trodAll_cons hA
  obtain ⟨v1, vs1, d1, ds1, p1, q1, rfl, rfl, rfl, h1, r1⟩ := trodAll_cons r0
  obtain ⟨v2, vs2, d2, ds2, p2, q2, rfl, rfl, rfl, h2, r2⟩ := trodAll_cons r1
  obtain ⟨v3, vs3, d3, ds3, p3, q3, rfl, rfl, rfl, h3, r3⟩ := trodAll_cons r2
  obtain ⟨v4, vs4, d4, ds4, p4, q4, rfl, rfl, rfl, h4, r4⟩ := trodAll_cons r3
  obtain ⟨v5, vs5, d5, ds5, p5, q5, rfl, rfl, rfl, h5, r5⟩ := trodAll_cons r4
  obtain ⟨rfl, rfl, rfl⟩ := trodAll_nil r5
  obtain rfl : args = #[v0, v1, v2, v3, v4, v5] := by cases args; simp_all
  obtain ⟨a0, rfl, rfl, rfl, w0⟩ := open_int Tryz.underlying3 (hval 0 3 v0 rfl rfl) h0
  obtain ⟨a1, rfl, rfl, rfl, w1⟩ := open_int Tryz.underlying3 (hval 1 3 v1 rfl rfl) h1
  obtain ⟨a2, rfl, rfl, rfl, w2⟩ := open_int Tryz.underlying3 (hval 2 3 v2 rfl rfl) h2
  obtain ⟨a3, rfl, rfl, rfl, w3⟩ := open_int Tryz.underlying30 (hval 3 30 v3 rfl rfl) h3
  obtain ⟨a4, rfl, rfl, rfl, w4⟩ := open_int Tryz.underlying3 (hval 4 3 v4 rfl rfl) h4
  obtain ⟨a5, rfl, rfl, rfl, _⟩ := open_string Tryz.underlying9 (hval 5 9 v5 rfl rfl) h5
  exact skips_walk a0 a1 a2 a3 a4 (by have := wf_i64 w0; omega) (by have := wf_i64 w1; omega) (by have := wf_i64 w2; omega) (wf_u32 w3) (by have := wf_i64 w4; omega) a5 W hG
theorem runnerSkips_said : Rows.RunnerSkipsSaid :=
 OpenClaim.holds_of_cond 6 Tryz.f6 rfl rfl rfl rfl rfl rfl rfl ⟨rfl, rfl, rfl, rfl, rfl⟩ rfl rfl rfl rfl rfl (by kernel_rfl) Tryz.func6 (by kernel_rfl)
  (of_decide_eq_true (by kernel_rfl)) (by unfold Func.isWrapper; first | (rw [if_pos (by decide +kernel)]; kernel_rfl) | (rw [if_neg (by decide +kernel)]; exact ⟨rfl, rfl⟩))
  (fun os started H enc _ F => by rw [OpenClaim.pre_eq_preRow]; exact runnerSkips_lifted os started H enc F)
theorem runnerSkips_plain (f : FuncId) (fn : Func) (hf : Tryz.pinned.checked.prog.funcNamed "hatstand/hatstandlaw17.RunnerSkips" = some f) (hfn : Tryz.pinned.checked.prog.funcs[f]? = some fn) :
  true = Tryz.pinned.checked.prog.looks [] ∧ ∀ (j : Nat) t, fn.params[j]? = some t → Tryz.pinned.checked.prog.wantsStandIn t = false := by
 obtain rfl : f = 6 := Option.some.inj ((show Tryz.prog.funcNamed "hatstand/hatstandlaw17.RunnerSkips" = some 6 by kernel_rfl).symm.trans hf) |>.symm
 obtain rfl : fn = Tryz.f6 := (Option.some.inj (Tryz.func6.symm.trans hfn)).symm
 refine ⟨by kernel_rfl, fun j t ht => ?_⟩
 rw [Tryz.params6] at ht
 have hm : t ∈ [3, 3, 3, 30, 3, 9] := by simpa using Array.mem_of_getElem? ht
 have hall : ([3, 3, 3, 30, 3, 9].all fun u => !Tryz.prog.wantsStandIn u) = true := by kernel_rfl
 exact (show Tryz.prog.wantsStandIn t = false by simpa using List.all_eq_true.1 hall t hm)
theorem runnerSkips_card : Rows.RunnerSkipsCardSaid :=
 Claim7.holds_tied_plain_at .later [] _ _ _ _ runnerSkips_said (fun _ h => by cases h) (by kernel_rfl) (fun _ h => by cases h) runnerSkips_row_tie rfl ⟨rfl, rfl⟩ (by kernel_rfl) rfl runnerSkips_plain (by kernel_rfl)
end Go.Proofs.YtgdoeoackhfikaaGreatDoor

namespace Go.Proofs.YtgdoeoackhfikaaGreatDoor
set_option linter.unusedVariables false
set_option linter.unusedSimpArgs false
theorem runnerSkips_holds : Rows.RunnerSkipsCardSaid := runnerSkips_card
#print axioms runnerSkips_holds
end Go.Proofs.YtgdoeoackhfikaaGreatDoor
