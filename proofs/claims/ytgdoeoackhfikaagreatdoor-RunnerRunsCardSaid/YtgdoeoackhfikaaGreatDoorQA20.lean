/-
  Parts of the proof of runnerSkips_holds: CardBaseR, CardOpenR.
-/
import Derived.Test.YtgdoeoackhfikaaGreatDoorCards
import Derived.Test.YtgdoeoackhfikaaGreatDoorTie
import Derived.Test.YtgdoeoackhfikaaGreatDoorQA2
import Derived.Test.YtgdoeoackhfikaaGreatDoorQA6
import Derived.WalkKit
import Derived.ProofKit
import Derived.OpenShut
import Derived.ShutString
import Derived.LaidMore
import Derived.Lay
import Derived.LaidLaws
import Derived.Carry
import Derived.Deep.DeepHandedRow
import Derived.Deep.DeepWitnessRowRef
import Derived.Deep.Slices
import Derived.SizedLaws
namespace Go.Proofs.YtgdoeoackhfikaaGreatDoor
set_option linter.unusedVariables false
set_option linter.unusedSimpArgs false
open Go.ChangeShapes Go.WideShapes Go.ChangeAt Go.RowKit
set_option maxRecDepth 100000
theorem own : ownKnob Tryz.prog.godebug = none := by kernel_rfl
theorem laidOut : laidOutB Tryz.prog = true := by kernel_rfl
noncomputable def laid0 : List (String × DataW Unit) := Rows.runnerErrsRow.laid

theorem tab_of_laid {W : World} (h : laidMetH Tryz.prog laid0 W) : Lib.TabIs Tryz.prog W "internal/strconv.uint64pow10" .u64 Lib.pow10Tab := by
 have h1 := h.filter (fun x => x.1 == "internal/strconv.uint64pow10")
 have e : (laid0.filter fun x => x.1 == "internal/strconv.uint64pow10") = [("internal/strconv.uint64pow10", Lib.tabData .u64 Lib.pow10Tab)] := by kernel_rfl
 rw [e, MakeChecks.laidMetH_plain _ _ _ (by kernel_rfl)] at h1
 exact Lib.tabIs_of_head (t := 263) (e := 33) (n := 20) (g := 2) (by kernel_rfl) (by kernel_rfl) (by kernel_rfl) (by kernel_rfl) (by kernel_rfl) (by kernel_rfl) h1
theorem one_of_shape {P : Program} {w : World} {g : Nat} {t : TypeId} {zero : Array Value} (h : w.ShapedOpen P) (hg : g < P.globals.size)
  (h0 : ((begin P (fun _ _ => 0) default).world.heap[g]?).bind Obj.row? = some (zero, t)) (hz : zero.size = 1)
  (hb : P.buildable t = true) (hc : P.cellTypes P.depth t = some [t]) : ∃ v, w.cell? ⟨g, 0, none⟩ = some v ∧ Cell.ok P w .any 0 t v := by
 obtain ⟨cs, hh, hs, hr⟩ := h.1 g zero t hg h0
 obtain ⟨ts, hts, _, hall⟩ := hr hb
 rw [hc] at hts
 cases hts
 have h1 : 0 < cs.size := by omega
 obtain ⟨u, hu', hok⟩ := hall 0 cs[0] (by simp [h1])
 have : u = t := by simpa using hu'.symm
 subst this
 exact ⟨cs[0], by simp [World.cell?, hh, h1], hok⟩
theorem maxLen_of_shape {w : World} (h : w.ShapedOpen Tryz.prog) : ∃ m : Int, w.cell? ⟨3, 0, none⟩ = some (.int .i64 m) := by
 obtain ⟨v, hv, hok⟩ := one_of_shape (g := 3) (t := 3) (zero := #[.int .i64 0]) h (of_decide_eq_true (by kernel_rfl)) (by kernel_rfl) rfl (by kernel_rfl) (by kernel_rfl)
 have hu : Tryz.prog.underlying 3 = some (.int .i64) := by kernel_rfl
 unfold Cell.ok at hok
 rw [hu] at hok
 cases v <;> first | (simp at hok; done) | skip
 simp at hok
 exact ⟨_, hok.1 ▸ hv⟩
theorem iface_at {W : World} {name : String} {nm : String} {d : DataW Unit} {g : Nat} {t : TypeId} {ms : Array (String × TypeId)} (h : laidMetH Tryz.prog [(name, .iface nm d)] W)
  (hn : (DataW.iface nm d : DataW Unit).handleName?.isNone = true)
  (hg : Tryz.prog.globalNamed name = some g) (hty : (Tryz.prog.globals[g]?).map (·.type) = some t) (hi : Tryz.prog.underlying t = some (.interface ms)) :
  ∃ ev, W.cell? ⟨g, 0, none⟩ = some ev ∧ (ev = .nilIface ∨ ∃ te pe, ev = .iface te pe) := by
 rw [MakeChecks.laidMetH_plain _ _ _ (by simp [hn])] at h
 obtain ⟨ps, ⟨g', t', cs, fuel, p, q, hg', ht', hvar, hd, _, _⟩, _⟩ := h
 obtain rfl := Option.some.inj (hg.symm.trans hg')
 obtain rfl := Option.some.inj (hty.symm.trans ht')
 obtain ⟨_, u, v, hcs, _⟩ := iface_of_trod hi hd
 refine ⟨.iface u v, ?_, .inr ⟨_, _, rfl⟩⟩
 have := World.var?_cell hg hvar 0
 rw [this]
 have h0 : cs.toList[0]? = some (Value.iface u v) := by rw [hcs]; rfl
 simpa using h0
theorem ground_of {W : World} (h : laidMetH Tryz.prog laid0 W) (hs : W.ShapedOpen Tryz.prog) : GG W := by
 refine ⟨tab_of_laid h, ?_, ?_, maxLen_of_shape hs⟩
 ·have h1 := h.filter (fun x => x.1 == "strconv.ErrSyntax")
  have e : (laid0.filter fun x => x.1 == "strconv.ErrSyntax") = [("strconv.ErrSyntax", Rows.laid_strconv_ErrSyntax)] := by kernel_rfl
  rw [e] at h1
  exact iface_at h1 (by kernel_rfl) (by kernel_rfl) (t := 189) (by kernel_rfl) (ms := #[("Error", 306)]) (by kernel_rfl)
 ·have h1 := h.filter (fun x => x.1 == "strconv.ErrRange")
  have e : (laid0.filter fun x => x.1 == "strconv.ErrRange") = [("strconv.ErrRange", Rows.laid_strconv_ErrRange)] := by kernel_rfl
  rw [e] at h1
  exact iface_at h1 (by kernel_rfl) (by kernel_rfl) (t := 189) (by kernel_rfl) (ms := #[("Error", 306)]) (by kernel_rfl)

theorem wit_shape (os : Os) (args : Array Value) : ((World.laidAll Tryz.prog os laid0).forCall (fun _ _ => 0) ⟨#[], args, []⟩).Shaped Tryz.prog := World.shaped_of_ZipB (by kernel_rfl) (by kernel_rfl)
theorem wit_met (os : Os) (args : Array Value) : laidMetH Tryz.prog laid0 ((World.laidAll Tryz.prog os laid0).forCall (fun _ _ => 0) ⟨#[], args, []⟩).memory := by
 rw [MakeChecks.laidMetH_plain _ _ _ (by kernel_rfl)]
 exact laidMet_laidAll args (by kernel_rfl) (by kernel_rfl)
theorem wit_os (os : Os) : (World.laidAll Tryz.prog os laid0).os = os := World.laidAll_os _ _ _

theorem trodAll_length {H : Type} {enc : TypeId × Value → H} {P : Program} {W : World} {base : Nat} {sp : Nat → Bool} {held : Bool} : ∀ {ts : List TypeId} {vs : List Value} {ds : List (DataW H)} {ps : List MemPlace},
  DataW.TrodAll enc P W base sp held ts vs ds ps → ds.length = ts.length ∧ vs.length = ts.length
 | [], vs, ds, ps, h => by
  obtain ⟨rfl, rfl, rfl⟩ := ChangeShapes.trodAll_nil h
  exact ⟨rfl, rfl⟩
 | t :: ts, vs, ds, ps, h => by
  obtain ⟨v, vs', d, ds', p, q, rfl, rfl, rfl, _, h2⟩ := ChangeShapes.trodAll_cons h
  obtain ⟨e1, e2⟩ := trodAll_length h2
  exact ⟨by simp [e1], by simp [e2]⟩
theorem trodAll_stays {H : Type} {enc : TypeId × Value → H} {W W' : World} {sp : Nat → Bool} (hb : Below W.heap.size W W') : ∀ {ts : List TypeId} {vs : List Value} {ds : List (DataW H)} {ps : List MemPlace},
  (∀ t ∈ ts, Tryz.prog.readableRec t = true ∧ t < Tryz.prog.types.size) → DataW.TrodAll enc Tryz.prog W 0 (fun _ => true) true ts vs ds ps → (∀ x ∈ ps, x.block < W.heap.size) → (∀ x ∈ ps, sp x.block = true) →
  DataW.TrodAll enc Tryz.prog W' 0 sp true ts vs ds ps
 | [], vs, ds, ps, _, h, _, _ => by
  obtain ⟨rfl, rfl, rfl⟩ := ChangeShapes.trodAll_nil h
  exact trodAll_mk0
 | t :: ts, vs, ds, ps, hr, h, hlt, hs => by
  obtain ⟨v, vs', d, ds', p, q, rfl, rfl, rfl, h1, h2⟩ := ChangeShapes.trodAll_cons h
  have ht := hr t (List.mem_cons_self ..)
  exact trodAll_cons_mk (WideElems.Trod_stays laidOut ht.1 ht.2 h1 (fun x hx => hb.same (hlt x (List.mem_append_left _ hx))) (fun x hx => hs x (List.mem_append_left _ hx)))
   (trodAll_stays hb (fun u hu => hr u (List.mem_cons_of_mem _ hu)) h2 (fun x hx => hlt x (List.mem_append_right _ hx)) (fun x hx => hs x (List.mem_append_right _ hx)))

theorem lifted_law {os : Os} (started : os.Started) {H : Type} {enc : TypeId × Value → H} {F : Stop.Interp} {f : FuncId} {fn : Func} {s : ChangeSpec} (args0 : Array Value)
  (hfn : Tryz.checked.prog.funcs[f]? = some fn) (noInit : Tryz.checked.prog.inits.idxOf? f = none) (hvars : s.vars = []) (hres : fn.resultTypes = #[4])
  (hspec : ∀ (ds : List (DataW H)), ds.length = fn.params.toList.length → s.fn H ds = { results := [.lit (.bool true)], args := ds })
  (hread : ∀ t ∈ fn.params.toList, Tryz.prog.readableRec t = true ∧ t < Tryz.prog.types.size)
  (hok : Input.okWideB Tryz.checked.prog ((World.laidAll Tryz.prog os laid0).forCall (fun _ _ => 0) ⟨#[], args0, []⟩) f ⟨#[], args0, []⟩ = true)
  (hrow : (OpenSpec.ofChange s).preRow enc Tryz.checked.prog fn [] false laid0 ((World.laidAll Tryz.prog os laid0).forCall (fun _ _ => 0) ⟨#[], args0, []⟩).memory args0)
  (hcalls : ∀ (W : World) (base : Nat) (args : Array Value) (ds : List (DataW H)) (p : List MemPlace),
   (∀ (j : Nat) t v, fn.params[j]? = some t → args[j]? = some v → Value.okWide Tryz.prog W .any base t v) →
   DataW.TrodAll enc Tryz.prog W 0 (fun _ => true) true fn.params.toList args.toList ds p → GG W →
   (DataW.weightsEach Tryz.prog (fn.params.toList ++ (OpenSpec.ofChange s).bare.plain.varTypes Tryz.prog) (ds ++ [])).all (· ≤ reachBytes) = true →
   Calls Tryz.prog f args W fun e w' => e = .returned (.bool true) ∧ Below W.heap.size W w') :
  ReturnsInHanded {} Tryz.checked os f .any ((OpenSpec.ofChange s).preRow enc Tryz.prog fn [] false laid0) (((OpenSpec.ofChange s).at F).post enc Tryz.prog fn false true false false) := by
 refine returnsInHanded_of_row (C := Tryz.checked) (s := OpenSpec.ofChange s) own started noInit hfn
  ⟨World.laidAll Tryz.prog os laid0, fun _ _ => 0, ⟨#[], args0, []⟩, wit_os os, wit_shape os args0, (Input.okWide_of_okWideB (base := 0) hok).1, (Input.okWide_of_okWideB hok).2, hrow, by
   simp only [Assume.holds]
   exact ⟨by simp, by simp, by simp, by simp, by simp⟩⟩ ?_
 intro W base args ds gs before hval hW _ _ hsz hL hsh _
 have hW' := hW
 obtain ⟨p, q, hA, hV, rfl, hfz, hnd⟩ := hW
 have hV' : DataW.TrodVars enc Tryz.prog W (fun _ => true) s.vars gs q := hV
 rw [hvars] at hV'
 obtain ⟨rfl, rfl⟩ := ChangeShapes.trodVars_none hV'
 have hA' : DataW.TrodAll enc Tryz.prog W 0 (fun _ => true) true fn.params.toList args.toList ds p := hA
 have e1 := hspec ds (trodAll_length hA').1
 simp only [List.append_nil] at hW'
 refine (hcalls W base args ds p hval hA' (ground_of hL hsh) hsz).mono fun e W' ⟨he, hg⟩ => ?_
 subst he
 have hlt : ∀ x ∈ p, x.block < W.heap.size := fun x hx => hW'.lt x hx
 have hres' : ∀ (b : Nat) (sp : Nat → Bool) (hd : Bool), DataW.TrodAll enc Tryz.prog W' b sp hd fn.resultTypes.toList ((Value.bool true).resultList fn.resultTypes.size) (s.fn H (ds ++ [])).results [] := by
  intro b sp hd
  rw [List.append_nil, e1, hres]
  exact trodAll_cons_mk (shut_bool Tryz.underlying4 _) trodAll_mk0
 have hargs' : ∀ sp : Nat → Bool, (∀ x ∈ p, sp x.block = true) → DataW.TrodAll enc Tryz.prog W' 0 sp true fn.params.toList args.toList (s.fn H (ds ++ [])).args p := by
  intro sp hsp
  rw [List.append_nil, e1]
  exact trodAll_stays hg hread hA' hlt hsp
 have hv' : ∀ sp : Nat → Bool, DataW.TrodVars enc Tryz.prog W' sp s.vars (s.fn H (ds ++ [])).vars [] := by
  intro sp
  rw [List.append_nil, e1, hvars]
  exact rfl
 exact ⟨_, rfl, ds, [], p, [], p, [], hW', hres' _ _ _, hargs' _ (fun x hx => by simpa using hlt x hx), hv' _, hg.frame _, fun h => by cases h⟩
end Go.Proofs.YtgdoeoackhfikaaGreatDoor

namespace Go.Proofs.YtgdoeoackhfikaaGreatDoor
set_option linter.unusedVariables false
set_option linter.unusedSimpArgs false
open Go.ChangeShapes Go.WideShapes Go.ChangeAt Go.RowKit Go.Proofs.YtgdoeoackhfikaaGreatDoorW.PrintWords
set_option maxRecDepth 100000
section
variable {H : Type} {enc : TypeId × Value → H} {W : World}
end
end Go.Proofs.YtgdoeoackhfikaaGreatDoor
