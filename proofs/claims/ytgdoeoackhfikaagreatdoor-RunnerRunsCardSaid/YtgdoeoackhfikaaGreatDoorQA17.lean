/-
  Parts of the proof of runnerSkips_holds: RunRun, RunLoop, Shown.
-/
import Derived.Test.YtgdoeoackhfikaaGreatDoorQA14
import Derived.Test.YtgdoeoackhfikaaGreatDoorQA8
import Derived.Test.YtgdoeoackhfikaaGreatDoorQA6
namespace Go.Proofs.YtgdoeoackhfikaaGreatDoor
open Go.RowKit Go.Proofs.YtgdoeoackhfikaaGreatDoorW.PrintWords
set_option maxRecDepth 100000
set_option maxHeartbeats 4000000
set_option linter.unusedSimpArgs false
set_option linter.unusedVariables false
attribute [local go_sem] hs_other hs_alloc hs_falloc
attribute [local go_sem ↓] Go.wp_at_zero Go.wp_at_succ
def entOf (e : G.S33) : Ent := ⟨e.f0, e.f1, e.f2, e.f3⟩
def Run.runs (σ : Run) : List G.S33 → Run × List Int
 | [] => (σ, [])
 | e :: es => (((σ.do_ (entOf e)).1.runs es).1, (σ.do_ (entOf e)).2 :: ((σ.do_ (entOf e)).1.runs es).2)
theorem Run.runs_append (σ : Run) (a b : List G.S33) : σ.runs (a ++ b) = (((σ.runs a).1.runs b).1, (σ.runs a).2 ++ ((σ.runs a).1.runs b).2) := by
 induction a generalizing σ with
 | nil => rfl
 | cons e a ih => simp only [List.cons_append, Run.runs, ih]
theorem Run.runs_snoc (σ : Run) (a : List G.S33) (e : G.S33) : σ.runs (a ++ [e]) = (((σ.runs a).1.do_ (entOf e)).1, (σ.runs a).2 ++ [((σ.runs a).1.do_ (entOf e)).2]) := by
 rw [Run.runs_append]
 rfl
theorem RunAt.all_lt {w : World} {B : RB} {σ : Run} (h : RunAt w B σ) {k : Nat} (hk : B.all k) : k < w.heap.size := by
 rcases hk with e | ⟨u, e⟩
 ·exact h.fix_lt e
 ·exact (h.fpx u k e).2
theorem args_in {w : World} {ok : Nat → Prop} {A : Option Addr} {l : List Int} (h : ∀ W' : World, (∀ k, ok k → W'.heap[k]? = w.heap[k]?) → (Kd.int .u64).C W' A l.length l) (hl : 0 < l.length) : ∃ ad, A = some ad ∧ (∀ j u, (nums .u64 l)[j]? = some u → w.cell? (ad.add j) = some u) ∧ ok ad.block := by
 have h0 := h w (fun _ _ => rfl)
 obtain ⟨h1, h2, h3⟩ := h0
 obtain ⟨ad, rfl, hc⟩ := h3 hl
 have hcell : ∀ j u, (nums .u64 l)[j]? = some u → w.cell? (ad.add j) = some u := fun j u hj => by
  simp only [nums, List.getElem?_map] at hj
  obtain ⟨p, hp, rfl⟩ := Option.map_eq_some_iff.1 hj
  obtain ⟨c, hc1, hc2, hc3⟩ := hc j p hp
  have e : c = [.int .u64 p] := hc2
  subst e
  have := hc3 0 _ rfl
  have e1 : (Kd.int IntKind.u64).sz = 1 := rfl
  rw [e1] at this
  simpa using this
 refine ⟨ad, rfl, hcell, ?_⟩
 by_cases hok : ok ad.block
 ·exact hok
 exfalso
 obtain ⟨z, hz⟩ : ∃ z, l[0]? = some z := ⟨_, List.getElem?_eq_getElem hl⟩
 have hc0 : w.cell? ad = some (.int .u64 z) := by
  have := hcell 0 (.int .u64 z) (by simp [nums, hz])
  rwa [Addr.add_zero'] at this
 have hw := h (w.setCell ad (.bool true)) (fun k hk => Below.heap_setCell w ad _ k (fun e => hok (e ▸ hk)))
 obtain ⟨_, _, h3⟩ := hw
 obtain ⟨ad', e, hc'⟩ := h3 hl
 injection e with e
 subst e
 obtain ⟨c, _, hc2, hc3⟩ := hc' 0 z hz
 have e : c = [.int .u64 z] := hc2
 subst e
 have h4 := hc3 0 _ rfl
 have e1 : (Kd.int IntKind.u64).sz = 1 := rfl
 rw [e1] at h4
 simp only [Nat.zero_mul, Nat.zero_add, Addr.add_zero'] at h4
 rw [World.cell?_setCell_same _ _ _ hc0] at h4
 cases h4
theorem runner_Events (w : World) (B : RB) (σ : Run) (h : RunAt w B σ) (hf : σ.Few) :
  Calls Tryz.prog 18 #[.pointer (some ⟨B.r, 0, none⟩)] w fun e w' => ∃ v', e = .returned v' ∧ w'.ownsRow w.heap.size 64 5 v' σ.evs.length (σ.evs.flatMap evV) ∧ Kp (fun _ => False) w w' := by
 have h1 : ∀ u ∈ σ.evs.flatMap evV, u.oneCell' = true := fun u hu => by
  obtain ⟨x, _, hx⟩ := List.mem_flatMap.1 hu
  simp [evV] at hx
  rcases hx with rfl | rfl | rfl | rfl | rfl <;> rfl
 have hcl := clone_ev w 0 B.ev σ.evs.length (σ.evs.flatMap evV) h.evr h1 (by have := hf.evs; omega)
 obtain ⟨q, _, _⟩ := obj_cells h.run
 obtain ⟨A, cc, hev⟩ := row_slice h.evr
 have c3 : w.cell? ⟨B.r, 3, none⟩ = some (.slice A σ.evs.length cc) := by rw [← hev]; exact q 3
 rw [hev] at hcl
 clear q h hev h1
 go_enter Tryz.func18, Tryz.ntmps18
 go_wp2_with fail
 refine hcl.mono ?_
 rintro e w1 ⟨v', rfl, hr, hb⟩
 obtain ⟨A', c', rfl⟩ := row_slice hr
 have HR := Lib.hid hr
 clear hr
 go_wp2
 go_ret
 exact ⟨_, rfl, HR.out, Kp.nb hb⟩
theorem runner_Sched (w : World) (B : RB) (σ : Run) (h : RunAt w B σ) :
  Calls Tryz.prog 15 #[.pointer (some ⟨B.r, 0, none⟩)] w fun e w' => e = .returned (.pointer (some ⟨B.s, 0, none⟩)) ∧ w' = w := by
 obtain ⟨q, _, _⟩ := obj_cells h.run
 have c0 : w.cell? ⟨B.r, 0, none⟩ = some (.pointer (some ⟨B.s, 0, none⟩)) := q 0
 clear q h
 go_enter Tryz.func15, Tryz.ntmps15
 go_wp2
 go_ret
 exact ⟨rfl, rfl⟩
end Go.Proofs.YtgdoeoackhfikaaGreatDoor

namespace Go.Proofs.YtgdoeoackhfikaaGreatDoor
open Go.RowKit Go.Proofs.YtgdoeoackhfikaaGreatDoorW.PrintWords
set_option maxRecDepth 100000
set_option maxHeartbeats 4000000
set_option linter.unusedSimpArgs false
set_option linter.unusedVariables false
attribute [local go_sem] hs_other hs_alloc hs_falloc
attribute [local go_sem ↓] Go.wp_at_zero Go.wp_at_succ
theorem info_errno : (Tryz.prog.info? 27).map (fun i => (i.zero, i.size, i.bytes)) = some (some (.int .i64 0), 1, 8) := by kernel_rfl
theorem entry_read {w : World} {base : Nat} {ok : Nat → Prop} {A : Option Addr} {n c : Nat} {es : List G.S33} (h : Kd.N G.k33 39 w base ok (.slice A n c) es) {j : Nat} {e : G.S33} (hj : es[j]? = some e) :
  ∃ ad A1 c1, A = some ad ∧ ad.block < w.heap.size ∧ w.cell? (ad.add (j * 4)) = some (.int .i32 e.f0) ∧ w.cell? ⟨(ad.add (j * 4)).block, (ad.add (j * 4)).off + 1, none⟩ = some (.slice A1 e.f1.length c1) ∧ w.cell? ⟨(ad.add (j * 4)).block, (ad.add (j * 4)).off + 2, none⟩ = some (.bool e.f2) ∧ w.cell? ⟨(ad.add (j * 4)).block, (ad.add (j * 4)).off + 3, none⟩ = some (.int .i64 e.f3) ∧
   (0 < e.f1.length → ∃ a1, A1 = some a1 ∧ (∀ i u, (nums .u64 e.f1)[i]? = some u → w.cell? (a1.add i) = some u) ∧ ok a1.block) := by
 have hlt : j < es.length := (List.getElem?_eq_some_iff.1 hj).1
 have hn := (Kd.N_reads' h).1
 obtain ⟨ad, cs, rfl, hcl, hK, hcc, _⟩ := Kd.F_get (Kd.N_F h) G.z33 (j : Int) (by omega) (by omega)
 obtain ⟨A1, c1, rfl, l1, hF⟩ := G.k33_openF hK
 have e1 : es.getD (j : Int).toNat G.z33 = e := by simp [List.getD, hj]
 rw [e1] at hcc hF l1
 have hc : ∀ i u, ([.int .i32 e.f0, .slice A1 e.f1.length c1, .bool e.f2, .int .i64 e.f3] : List Value)[i]? = some u → w.cell? (ad.add (j * 4 + i)) = some u := hcc
 refine ⟨ad, A1, c1, rfl, ?_, hc 0 _ rfl, by rw [← add_field _ _ 1 (by omega)]; exact hc 1 _ rfl, by rw [← add_field _ _ 2 (by omega)]; exact hc 2 _ rfl, by rw [← add_field _ _ 3 (by omega)]; exact hc 3 _ rfl, fun hp => args_in (fun W' hW => hF W' (fun k hk _ => hW k hk)) hp⟩
 have := World.block_lt_of_cell? w _ (hc 0 _ rfl)
 have hb : ∀ (a : Addr) (m : Nat), (a.add m).block = a.block := fun a m => by unfold Addr.add; split <;> rfl
 rwa [hb] at this
theorem runner_Run (w : World) (hG : GG w) (B : RB) (σ : Run) (h : RunAt w B σ) (s : ByteArray) (hs : s.size ≤ 100000000) (hgood : ∀ a e b, parseF s = a ++ e :: b → (σ.runs a).1.Few ∧ (σ.runs a).1.Steps (entOf e)) (hrng : ∀ e ∈ parseF s, ∀ z ∈ e.f1, 0 ≤ z ∧ z < 18446744073709551616) (hlen : (parseF s).length ≤ 100000000) :
  Calls Tryz.prog 20 #[.pointer (some ⟨B.r, 0, none⟩), .string s] w fun e w' => ∃ v : Value, e = .returned v ∧ w'.ownsRow w.heap.size 27 1 v (parseF s).length (nums .i64 (σ.runs (parseF s)).2) ∧ ∃ B', B.Like B' ∧ RunAt w' B' (σ.runs (parseF s)).1 ∧ Kp B.all w w' ∧ (∀ k, B'.all k → B.all k ∨ w.heap.size ≤ k) ∧ (∀ k, v.ownBlock = some k → ¬ B'.all k) := by
 have hpa := fun W (hk : Kp (fun _ => False) w W) => G.glyph_Parse.calls s (parseF s) W (GG_at hG hk.blw) (by unfold G.glyph_Parse.f; rw [if_pos hs])
 have hlt0 : ∀ k, B.all k → k < w.heap.size := fun k hk => h.all_lt hk
 obtain ⟨es, hes⟩ : ∃ es, es = parseF s := ⟨_, rfl⟩
 rw [← hes] at hgood hrng hlen hpa ⊢
 obtain ⟨i0, hi, hz0, hz1, hz2⟩ := info_parts info_errno
 have H := Lib.hid h
 have HPA := Lib.hid hpa
 have HG := Lib.hid hgood
 have HRG := Lib.hid hrng
 clear h hpa hgood hrng hes
 go_enter Tryz.func20, Tryz.ntmps20
 go_wp2_with fail
 refine (HPA.out _ (Kp.refl _ _)).mono ?_
 rintro e w1 ⟨v0, rfl, hN, hb1⟩
 obtain ⟨A, c0, rfl⟩ := Kd.N_slice hN
 have hk1 : Kp (fun _ => False) w w1 := Kp.nb hb1
 have hN1 := Kd.N_bound hN
 have HN1 := Lib.hid hN1
 clear hN hN1
 go_wp2_with fail
 refine wp_world ?_
 intro W0 hW0
 obtain rfl : w1 = W0 := hW0.symm
 go_loopw [5, 11] (fun v i wr => ∃ (j : Nat) (Bj : RB), j ≤ es.length ∧ i = .int .i64 j ∧ B.Like Bj ∧ RunAt wr Bj (σ.runs (es.take j)).1 ∧ Kp B.all w wr ∧ (∀ k, Bj.all k → B.all k ∨ w1.heap.size ≤ k) ∧ Kd.N G.k33 39 wr w.heap.size (fun k => w.heap.size ≤ k ∧ k < w1.heap.size) (.slice A es.length c0) es ∧ wr.ownsRow w1.heap.size 27 1 v j (nums .i64 (σ.runs (es.take j)).2) ∧ (∀ k, v.ownBlock = some k → ¬ Bj.all k) ∧ w1.heap.size ≤ wr.heap.size) (fun _ i _ => es.length - (intOf i).toNat)
 case atStart =>
  exact ⟨0, B, by omega, rfl, RB.Like.refl B, H.out.kept hk1 (fun _ _ e => e), hk1.mono (fun _ e => e.elim), fun k e => .inl e, HN1.out, World.ownsRow_nil _ _ _ _, fun k e => by simp [Value.ownBlock] at e, Nat.le_refl _⟩
 case round =>
  obtain ⟨j, Bj, hj, rfl, hL, hR, hK, hall, hN, hown, hdis, hsz⟩ := hrel
  by_cases hlt : j < es.length
  ·have hd : decide ((j : Int) < (es.length : Int)) = true := decide_eq_true (by omega)
   obtain ⟨e, he⟩ : ∃ e, es[j]? = some e := ⟨_, List.getElem?_eq_getElem hlt⟩
   obtain ⟨ad, A1, a1, rfl, hbl, e0, e1, e2, e3, hargs⟩ := entry_read hN he
   have hgd := HG.out (es.take j) e (es.drop (j + 1)) (by
    have h1 : es.drop j = e :: es.drop (j + 1) := by
     rw [List.drop_eq_getElem_cons hlt]
     congr 1
     exact (List.getElem?_eq_some_iff.1 he).2
    rw [← h1, List.take_append_drop])
   have HR := Lib.hid hR
   have HN := Lib.hid hN
   have HO := Lib.hid hown
   have HAR := Lib.hid hargs
   clear hR hN hown hargs
   have hdo := fun (W : World) (hk : Kp (fun _ => False) wr W) => runner_Do W Bj (σ.runs (es.take j)).1 (HR.out.kept hk (fun _ _ e => e)) hgd.1 e.f0 A1 a1 e.f1 (fun hp => by
    obtain ⟨z, h1, h2, h3⟩ := HAR.out hp
    refine ⟨z, h1, ⟨fun i u hi => hk.cell (h2 i u hi) (fun e => e), HRG.out e (List.mem_of_getElem? he)⟩, fun hz => ?_⟩
    rcases hall _ hz with h4 | h4
    ·have := hlt0 _ h4; omega
    ·omega) e.f2 e.f3 hgd.2
   rw [hL.r] at hdo
   have HDO := Lib.hid hdo
   clear hdo hgd
   go_wp2_with fail
   refine (HDO.out _ ((Kp.refl _ _).alloc _)).mono ?_
   rintro e' w2 ⟨rfl, B2, y1, y2, y3, y4⟩
   have hK02 : Kp Bj.all wr w2 := (Kp.mono (S := fun _ => False) ((Kp.refl _ _).alloc _) (fun _ e => e.elim)).comp y3 (fun _ _ e => e)
   have s2 : wr.heap.size + 1 ≤ w2.heap.size := by have := y3.size; simpa using this
   have hb4 : ∀ k, B2.all k → Bj.all k ∨ wr.heap.size ≤ k := fun k e => (y4 k e).imp id (fun e => by simp at e; omega)
   have hown2 := hK02.row HO.out hdis
   have hlv : ∀ k, Value.ownBlock u5 = some k → k < wr.heap.size := fun k e => (HO.out.lt k e).2
   have HO2 := Lib.hid hown2
   have HY := Lib.hid y2
   have hlast : ((σ.runs (es.take j)).1.do_ { op := e.f0, args := e.f1, ok := e.f2, at_ := e.f3 }) = ((σ.runs (es.take j)).1.do_ (entOf e)) := rfl
   obtain ⟨zz, hzz⟩ : ∃ zz, zz = ((σ.runs (es.take j)).1.do_ { op := e.f0, args := e.f1, ok := e.f2, at_ := e.f3 }) := ⟨_, rfl⟩
   have HZZ := Lib.hid hzz
   rw [← hzz] at HY
   rw [← hzz]
   clear hown2 y2 y3 y4 hlast hzz
   have hnew : ∀ j u, ([.int .i64 zz.2] : List Value)[j]? = some u → (w2.alloc (.cells #[.int .i64 zz.2] 27)).cell? ((⟨w2.heap.size, 0, none⟩ : Addr).add j) = some u := World.news_of_block (heap_alloc_new _ _)
   have HNW := Lib.hid hnew
   clear hnew
   go_wp2_with (at_builtin; refine wpList_append_lies _ rfl _ _ 50 rfl w1.heap.size 27 i0 (.int .i64 0) 1 8 Tryz.underlying50 hi hz0 hz1 hz2 rfl (by decide) _ _ _ rfl (row_alloc HO2.out _) ⟨w2.heap.size, 0, none⟩ 1 1 [.int .i64 zz.2] rfl (by simp) HNW.out (by simp [Value.oneCell']) (by omega) (by unfold maxLen; omega) (by omega) (by simp; omega) _ rfl ?_)
   intro g' cap' w5 hown5 hgr hat hlt5
   have hat' : u5.ownBlock = some g' ∨ g' = w2.heap.size + 1 := by simpa using hat
   have K25 : Kp (fun k => u5.ownBlock = some k) w2 w5 := ((Kp.refl _ _).alloc _).grown hgr (fun k _ e => e)
   have s5 := K25.size
   have hge : ∀ k, u5.ownBlock = some k → w1.heap.size ≤ k := fun k e => (HO.out.lt k e).1
   have hd2 : ∀ k, B2.all k → u5.ownBlock ≠ some k := fun k hk e => by
    rcases hb4 k hk with h4 | h4
    ·exact hdis k e h4
    ·have := hlv k e; omega
   have HR5 : Hid (RunAt w5 B2 zz.1) := Lib.hid (HY.out.kept K25 (fun k hk e => hd2 k hk e))
   have K05 : Kp (fun k => Bj.all k ∨ u5.ownBlock = some k) wr w5 := (hK02.mono (fun _ e => .inl e)).comp K25 (fun _ _ e => .inr e)
   have hokn : ∀ k, (w.heap.size ≤ k ∧ k < w1.heap.size) → ¬ (Bj.all k ∨ u5.ownBlock = some k) := fun k hk e => by
    rcases e with e | e
    ·rcases hall k e with h4 | h4
     ·have := hlt0 _ h4; omega
     ·omega
    ·have := hge k e; omega
   have HN5 := Lib.hid (Kd.N_step HN.out (w1 := w5) (fun k hk hlt => K05.block k hlt (hokn k hk)))
   have KF : Kp B.all w w5 := hK.comp K05 (fun k hk e => by
    rcases e with e | e
    ·rcases hall k e with h4 | h4
     ·exact h4
     ·have := hk1.size; omega
    ·have := hge k e; have := hk1.size; omega)
   have hall5 : ∀ k, B2.all k → B.all k ∨ w1.heap.size ≤ k := fun k e => by
    rcases hb4 k e with h4 | h4
    ·exact hall k h4
    ·exact .inr (by omega)
   have hdis5 : ∀ k, (Value.slice (some ⟨g', 0, none⟩) (j + 1) cap').ownBlock = some k → ¬ B2.all k := fun k e hk => by
    injection e with e
    have e : g' = k := e
    subst e
    rcases hat' with h4 | h4
    ·exact hd2 _ hk h4
    ·have := HY.out.all_lt hk; omega
   have htk : es.take (j + 1) = es.take j ++ [e] := by rw [List.take_add_one, he]; rfl
   have hrs : σ.runs (es.take (j + 1)) = (zz.1, (σ.runs (es.take j)).2 ++ [zz.2]) := by rw [htk, Run.runs_snoc, HZZ.out]; rfl
   have HO5 := Lib.hid hown5
   have HRS := Lib.hid hrs
   clear hown5 hgr hat hrs htk
   go_wp2
   refine ⟨⟨j + 1, B2, by omega, by simp, ⟨y1.r.trans hL.r, y1.s.trans hL.s, y1.q.trans hL.q, y1.k.trans hL.k, y1.m.trans hL.m⟩, ?_, KF, hall5, HN5.out, ?_, hdis5, by omega⟩, by simp [intOf]; omega⟩
   ·rw [HRS.out]; exact HR5.out
   ·rw [HRS.out]
    have e : nums .i64 ((σ.runs (es.take j)).2 ++ [zz.2]) = nums .i64 (σ.runs (es.take j)).2 ++ [.int .i64 zz.2] := by simp [nums]
    rw [e]
    exact HO5.out
  ·have hd : decide ((j : Int) < (es.length : Int)) = false := decide_eq_false (by omega)
   have hjn : j = es.length := by omega
   subst hjn
   rw [List.take_length] at hR hown
   obtain ⟨Av, cv, hv⟩ := row_slice hown
   subst hv
   have HO := Lib.hid hown
   have HR := Lib.hid hR
   have HN := Lib.hid hN
   clear hown hR hN
   go_wp2
   go_ret
   exact ⟨_, rfl, row_base HO.out hk1.size, Bj, hL, HR.out, hK, fun k e => (hall k e).imp id (fun e => Nat.le_trans hk1.size e), hdis⟩
end Go.Proofs.YtgdoeoackhfikaaGreatDoor

namespace Go.Proofs.YtgdoeoackhfikaaGreatDoor
open Go.RowKit Go.Proofs.YtgdoeoackhfikaaGreatDoorW.PrintWords
set_option maxRecDepth 100000
set_option maxHeartbeats 4000000
set_option linter.unusedSimpArgs false
set_option linter.unusedVariables false
attribute [local go_sem] hs_other hs_alloc hs_falloc
attribute [local go_sem ↓] Go.wp_at_zero Go.wp_at_succ

theorem opSteps_take (y : OpS) (m : MemS) (r : SrcS) (z : TL) (hp : y.part = .tt z) (hst : y.st = 0) (h3 : (z.step m).1.st ≠ 3) (h1 : (z.step m).1.st ≠ 1) (hn : m.notes.length < 1000000000) : OpSteps y m r := by
 intro w b s dv F o hb hs hA ha hx
 have he : y.step m r = ({ { y with part := .tt (z.step m).1 } with st := (z.step m).1.st }, (z.step m).2, r) := by
  have hnx : y.next m r = ({ y with part := .tt (z.step m).1 }, (z.step m).2, r, (z.step m).1.st) := by
   unfold OpS.next
   rw [hp]
   dsimp only
   unfold OpS.tried
   rw [if_neg h3, if_pos h1]
  unfold OpS.step
  rw [if_pos hst, hnx]
 rw [he]
 have hstep := op_step_take w b m hb hn F hA o y hx z hp h3 h1 (.pointer (some ⟨s, 0, none⟩))
 exact op_Step_of w b m (z.step m).2 hb s dv r r hs F hA ha o y { y with part := .tt (z.step m).1 } hx hst (z.step m).1.st rfl (hstep.mono fun e w' h => ⟨h.1, h.2.src hs ha⟩)

def evS (x : Ev) : G.S64 := ⟨x.t, x.ret, x.push, x.v, x.st⟩
theorem flat_get {α : Type} (f : α → List Value) (n : Nat) (l : List α) (hf : ∀ x ∈ l, (f x).length = n) {j : Nat} {x : α} (hj : l[j]? = some x) (i : Nat) (hi : i < n) : (l.flatMap f)[j * n + i]? = (f x)[i]? := by
 induction l generalizing j with
 | nil => simp at hj
 | cons a l ih =>
  have ha := hf a (by simp)
  rw [List.flatMap_cons]
  cases j with
  | zero =>
   simp at hj
   subst hj
   rw [List.getElem?_append_left (by rw [ha]; omega)]
   simp
  | succ j =>
   simp at hj
   rw [List.getElem?_append_right (by rw [ha, Nat.succ_mul]; omega)]
   have e : (j + 1) * n + i - (f a).length = j * n + i := by rw [ha, Nat.succ_mul]; omega
   rw [e]
   exact ih (fun y hy => hf y (by simp [hy])) hj
theorem evs_C {w : World} {base : Nat} {A : Option Addr} {c : Nat} {l : List Ev} (h : w.ownsRow base 64 5 (.slice A l.length c) l.length (l.flatMap evV)) : Kd.C G.k64 w A l.length (l.map evS) ∧ l.length ≤ c := by
 obtain ⟨h1, h2⟩ := h
 rcases h2 with ⟨hv, h0⟩ | ⟨g, cap, cur, hv, hg, hh, hnc, hcm, hcs, hct⟩
 ·have hl : l = [] := List.eq_nil_of_length_eq_zero h0
  subst hl
  injection hv with e1 e2 e3
  exact ⟨⟨rfl, by simp, fun h => by simp at h⟩, by simp⟩
 ·injection hv with e1 e2 e3
  subst e1
  subst e3
  refine ⟨⟨by simp, by unfold maxLen at hcm; omega, fun hp => ⟨_, rfl, fun j p hj => ?_⟩⟩, hnc⟩
  rw [List.getElem?_map] at hj
  obtain ⟨x, hx, rfl⟩ := Option.map_eq_some_iff.1 hj
  refine ⟨evV x, rfl, G.k64_mk w (evS x), fun i u hu => ?_⟩
  have hi : i < 5 := by have := (List.getElem?_eq_some_iff.1 hu).1; simpa [evV] using this
  have hrow : w.ownsRow base 64 5 (.slice (some ⟨g, 0, none⟩) l.length c) l.length (l.flatMap evV) := ⟨h1, .inr ⟨g, c, cur, rfl, hg, hh, hnc, hcm, hcs, hct⟩⟩
  have hcell := row_one hrow (j * 5 + i) u (by rw [flat_get evV 5 l (fun _ _ => rfl) hx i hi]; exact hu) g rfl
  have e5 : G.k64.sz = 5 := rfl
  rw [e5, addr_add]
  exact hcell

instance decS33 : DecidableEq G.S33 := fun a b => decidable_of_iff (a.f0 = b.f0 ∧ a.f1 = b.f1 ∧ a.f2 = b.f2 ∧ a.f3 = b.f3) (by cases a; cases b; simp)
instance decS64 : DecidableEq G.S64 := fun a b => decidable_of_iff (a.f0 = b.f0 ∧ a.f1 = b.f1 ∧ a.f2 = b.f2 ∧ a.f3 = b.f3 ∧ a.f4 = b.f4) (by cases a; cases b; simp)
instance decS116 : DecidableEq G.S116 := fun a b => decidable_of_iff (a.f0 = b.f0 ∧ a.f1 = b.f1 ∧ a.f2 = b.f2 ∧ a.f3 = b.f3 ∧ a.f4 = b.f4) (by cases a; cases b; simp)
def c1 : ECfg := ⟨⟨1, 0, 0, 0⟩, 0, 1, 0⟩
def ws1 : List Int := [0, 1, 0, 0]
def s1 : ByteArray := ⟨#[226, 134, 147, 48, 226, 128, 162, 48, 226, 134, 145, 48, 44, 53, 226, 128, 162, 49]⟩
def es1 : List G.S33 := [⟨8595, [0], true, 0⟩, ⟨8226, [0], true, 4⟩, ⟨8593, [0, 5], true, 8⟩, ⟨8226, [1], true, 14⟩]
def evs1 : List G.S64 := [⟨0, false, false, 0, 0⟩, ⟨0, true, false, 0, 2⟩, ⟨0, false, true, 5, 0⟩]
def evr1 : List G.S116 := [⟨0, false, false, 0, 0⟩, ⟨0, true, false, 0, 2⟩, ⟨0, false, true, 5, 0⟩]
theorem parse_s1 : parseF s1 = es1 := by decide +kernel
theorem fresh_c1 : G.layout_Fresh.f 20 1 0 0 0 = some (ws1, 0) := by decide +kernel
theorem runs_s1 : ((newRun c1 1 ws1).runs es1).2 = [0, 0, 0, 4] := by decide +kernel
theorem evs_s1 : ((newRun c1 1 ws1).runs es1).1.evs.map evS = evs1 := by decide +kernel
theorem as_s1 : G.hatstandlaw17_asEvents.f 10 evs1 = some evr1 := by decide +kernel
theorem same_s1 : G.hatstandlaw17_same.f 10 evr1 evr1 = some true := by decide +kernel
theorem few_of (σ : Run) (h : decide (σ.picks < 1000000000 ∧ σ.evs.length < 1000000000 ∧ σ.src.draws.length ≤ 1000000000) = true) : σ.Few := by
 have := of_decide_eq_true h
 exact ⟨this.1, this.2.1, this.2.2⟩
theorem good_s1 : ∀ a e b, parseF s1 = a ++ e :: b → ((newRun c1 1 ws1).runs a).1.Few ∧ ((newRun c1 1 ws1).runs a).1.Steps (entOf e) := by
 rw [parse_s1]
 intro a e b h
 rcases a with _ | ⟨a0, _ | ⟨a1, _ | ⟨a2, _ | ⟨a3, a⟩⟩⟩⟩
 ·simp [es1] at h
  obtain ⟨rfl, rfl⟩ := h
  exact ⟨few_of _ (by decide +kernel), fun h => by cases h⟩
 ·simp [es1] at h
  obtain ⟨rfl, rfl, rfl⟩ := h
  refine ⟨few_of _ (by decide +kernel), fun _ x y hx hy => ?_⟩
  have hx' : some (⟨[], Pol.new 0, some (newPop c1 [] (Pol.new 0)), false⟩ : Th) = some x := hx
  injection hx' with hx'
  subst hx'
  injection hy with hy
  subst hy
  exact opSteps_take _ _ _ (newTake ⟨1, 0, 0, 0⟩ 0) rfl (by decide +kernel) (by decide +kernel) (by decide +kernel) (by decide +kernel)
 ·simp [es1] at h
  obtain ⟨rfl, rfl, rfl, rfl⟩ := h
  exact ⟨few_of _ (by decide +kernel), fun h => by cases h⟩
 ·simp [es1] at h
  obtain ⟨rfl, rfl, rfl, rfl, rfl⟩ := h
  refine ⟨few_of _ (by decide +kernel), fun _ x y hx hy => ?_⟩
  have hx' : (none : Option Th) = some x := hx
  cases hx'
 ·simp [es1] at h
theorem evr1_C {W : World} {g : Nat} (h : W.heap[g]? = some (.cells #[.int .i64 0, .bool false, .bool false, .int .u64 0, .int .i64 0, .int .i64 0, .bool true, .bool false, .int .u64 0, .int .i64 2, .int .i64 0, .bool false, .bool true, .int .u64 5, .int .i64 0] 116 (0, 0))) : Kd.C G.k116 W (some ⟨g, 0, none⟩) 3 evr1 := by
 refine ⟨rfl, by decide, fun _ => ⟨_, rfl, fun j p hj => ?_⟩⟩
 have hcell : ∀ i, W.cell? ⟨g, i, none⟩ = _ := (obj_cells h).1
 have e5 : G.k116.sz = 5 := rfl
 match j, hj with
 | 0, hj =>
  cases hj
  refine ⟨_, rfl, G.k116_mk W ⟨0, false, false, 0, 0⟩, fun i u hu => ?_⟩
  have hi : i < 5 := by have := (List.getElem?_eq_some_iff.1 hu).1; simpa using this
  rw [e5, addr_add, hcell]
  match i, hu with
  | 0, hu => exact hu
  | 1, hu => exact hu
  | 2, hu => exact hu
  | 3, hu => exact hu
  | 4, hu => exact hu
  | i + 5, _ => omega
 | 1, hj =>
  cases hj
  refine ⟨_, rfl, G.k116_mk W ⟨0, true, false, 0, 2⟩, fun i u hu => ?_⟩
  have hi : i < 5 := by have := (List.getElem?_eq_some_iff.1 hu).1; simpa using this
  rw [e5, addr_add, hcell]
  match i, hu with
  | 0, hu => exact hu
  | 1, hu => exact hu
  | 2, hu => exact hu
  | 3, hu => exact hu
  | 4, hu => exact hu
  | i + 5, _ => omega
 | 2, hj =>
  cases hj
  refine ⟨_, rfl, G.k116_mk W ⟨0, false, true, 5, 0⟩, fun i u hu => ?_⟩
  have hi : i < 5 := by have := (List.getElem?_eq_some_iff.1 hu).1; simpa using this
  rw [e5, addr_add, hcell]
  match i, hu with
  | 0, hu => exact hu
  | 1, hu => exact hu
  | 2, hu => exact hu
  | 3, hu => exact hu
  | 4, hu => exact hu
  | i + 5, _ => omega
 | j + 3, hj => simp [evr1] at hj
theorem shown_walk (w : World) (hG : GG w) :
  Calls Tryz.prog 10 #[] w fun e w' => e = .returned (.bool true) ∧ Below w.heap.size w w' := by
 have hst := runner_Stack w c1 (by decide) (by decide) 1 (by decide) 20 ws1 fresh_c1 (by decide) (by decide) (by decide)
 have hv : ECfg.v c1 = .agg #[.int .i64 1, .int .i64 0, .int .i64 0, .int .u32 0, .int .i64 0, .int .i64 1, .int .u64 0] := rfl
 rw [hv] at hst
 clear hv
 go_enter Tryz.func10, Tryz.ntmps10
 go_wp2_with fail
 refine hst.mono ?_
 rintro e w1 ⟨B, rfl, hR, hk1, hfr⟩
 have HR := Lib.hid hR
 have hsc := runner_Sched w1 B _ hR
 clear hR
 go_wp2_with fail
 refine hsc.mono ?_
 rintro e w1' ⟨rfl, hw⟩
 obtain rfl : w1 = w1' := hw.symm
 have hrun := runner_Run w1 (GG_at hG hk1.blw) B (newRun c1 1 ws1) HR.out s1 (by decide) good_s1 (by rw [parse_s1]; decide) (by rw [parse_s1]; decide)
 rw [parse_s1, runs_s1] at hrun
 unfold s1 at hrun
 go_wp2_with fail
 refine hrun.mono ?_
 rintro e w2 ⟨v, rfl, hown, B2, hL, hR2, hK2, hall2, hdis⟩
 obtain ⟨A, cc, rfl⟩ := row_slice hown
 obtain ⟨g, rfl⟩ : ∃ g, A = some ⟨g, 0, none⟩ := by
  rcases hown.2 with ⟨hv, h0⟩ | ⟨g, cap, cur, hv, _⟩
  ·simp [es1] at h0
  ·injection hv with e1 _ _
   exact ⟨g, e1⟩
 have d0 : w2.cell? ⟨g, 0, none⟩ = some (.int .i64 0) := row_one hown 0 _ rfl g rfl
 have d1 : w2.cell? ⟨g, 1, none⟩ = some (.int .i64 0) := row_one hown 1 _ rfl g rfl
 have d2 : w2.cell? ⟨g, 2, none⟩ = some (.int .i64 0) := row_one hown 2 _ rfl g rfl
 have d3 : w2.cell? ⟨g, 3, none⟩ = some (.int .i64 4) := row_one hown 3 _ rfl g rfl
 have hl4 : es1.length = 4 := rfl
 rw [hl4]
 have hev := runner_Events w2 B2 _ hR2 (few_of _ (by decide +kernel))
 rw [hL.r] at hev
 clear hown hR2
 go_wp2_with fail
 refine hev.mono ?_
 rintro e w3 ⟨v3, rfl, hown3, hk3⟩
 have hl3 : ((newRun c1 1 ws1).runs es1).1.evs.length = evs1.length := by rw [← evs_s1, List.length_map]
 obtain ⟨A3, c3, rfl⟩ := row_slice hown3
 obtain ⟨hC3, hc3⟩ := evs_C hown3
 rw [evs_s1, hl3] at hC3
 rw [hl3] at hc3
 rw [hl3]
 have has := G.hatstandlaw17_asEvents.calls 10 A3 c3 evs1 evr1 w3 hC3 hc3 as_s1
 have hls : evs1.length = 3 := rfl
 rw [hls] at has ⊢
 clear hown3 hC3 hev d0 d1 d2
 go_wp2_with fail
 refine has.mono ?_
 rintro e w4 ⟨v4, rfl, hR4, hb4⟩
 obtain ⟨A4, c4, rfl⟩ := Kd.N_slice (Kd.R_N hR4)
 have hC4 := Kd.R_reads' hR4
 have hlr : evr1.length = 3 := rfl
 rw [hlr] at hC4 ⊢
 have HC4 := Lib.hid hC4
 clear hR4 hC4 has
 go_wp2_with fail
 have hsame := G.hatstandlaw17_same.calls 10 A4 c4 evr1 (some ⟨w4.heap.size, 0, none⟩) 3 evr1 true (w4.alloc (.cells #[.int .i64 0, .bool false, .bool false, .int .u64 0, .int .i64 0, .int .i64 0, .bool true, .bool false, .int .u64 0, .int .i64 2, .int .i64 0, .bool false, .bool true, .int .u64 5, .int .i64 0] 116))
  (Kd.C_below HC4.out.2.2 ((Below.refl _ w4).alloc (Nat.le_refl _) _)) HC4.out.2.1 (evr1_C (hp_new _ _ _ rfl)) (Nat.le_refl _) same_s1
 rw [hlr] at hsame
 refine hsame.mono ?_
 rintro e w5 ⟨rfl, hdr⟩
 obtain ⟨nd, hdr⟩ := hdr.out
 have k5 : Kp (fun _ => False) w4 w5 := by rw [hdr]; exact ((Kp.refl _ _).alloc _).drewN nd
 clear hdr hsame
 go_wp2
 go_ret
 have k2 : Kp (fun _ => False) w w2 := hk1.comp hK2 (fun k hk e => by have := hfr k e; omega)
 exact ⟨rfl, (((k2.also hk3).also (Kp.nb hb4)).also k5).blw⟩
end Go.Proofs.YtgdoeoackhfikaaGreatDoor
