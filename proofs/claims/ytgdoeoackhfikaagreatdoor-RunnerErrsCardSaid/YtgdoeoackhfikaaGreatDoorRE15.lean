/-
  Proved: RunnerErrs answers true and leaves its arguments as they were, for every input; where the package-level variables that the row lists hold what the program's text lays (the card ties that).
-/
import Derived.Test.YtgdoeoackhfikaaGreatDoorRE14
import Derived.Test.YtgdoeoackhfikaaGreatDoorRE13
namespace Go.Proofs.YtgdoeoackhfikaaGreatDoor
set_option linter.unusedVariables false
set_option linter.unusedSimpArgs false
open Go.ChangeShapes Go.WideShapes Go.ChangeAt Go.RowKit Go.Proofs.YtgdoeoackhfikaaGreatDoorW.PrintWords
open Go.ChangeMaps (open_string shut_string)
set_option maxRecDepth 100000

theorem runnerErrs_reads (os : Os) {H : Type} (enc : TypeId × Value → H) : ∃ places, DataW.whole enc Tryz.prog ((World.laidAll Tryz.prog os laid0).forCall (fun _ _ => 0) ⟨#[], #[.int .i64 0, .int .i32 0, .slice none 0 0, .bool false], []⟩).memory Tryz.f3.params.toList Rows.runnerErrsSpec.vars false #[(.int .i64 0 : Value), (.int .i32 0 : Value), (.slice none 0 0 : Value), (.bool false : Value)].toList 8 = some ([.lit (.int .i64 0), .lit (.int .i32 0), .nil, .lit (.bool false)], [], places) :=
  ⟨[], by kernel_rfl⟩
theorem runnerErrs_lifted (os : Os) (started : os.Started) (H : Type) (enc : TypeId × Value → H) (F : Stop.Interp) :
    ReturnsInHanded {} Tryz.checked os 3 .any ((OpenSpec.ofChange Rows.runnerErrsSpec).preRow enc Tryz.prog Tryz.f3 Rows.runnerErrsRow.domain false Rows.runnerErrsRow.laid) (((OpenSpec.ofChange Rows.runnerErrsSpec).at F).post enc Tryz.prog Tryz.f3 false true false false) := by
  obtain ⟨places, hx⟩ := runnerErrs_reads os enc
  refine lifted_law started #[.int .i64 0, .int .i32 0, .slice none 0 0, .bool false] Tryz.func3 (by kernel_rfl) rfl rfl ?_ ?_ (by kernel_rfl) (OpenSpec.preRow_of_cond 8 hx (by kernel_rfl) (fun k hk => by cases hk) (by kernel_rfl) (wit_met os _)) ?_
  · intro ds hl
    rw [Tryz.params3] at hl
    match ds, hl with
    | [d0, d1, d2, d3], _ => rfl
  · intro t ht
    rw [Tryz.params3] at ht
    have hm : t ∈ [3, 21, 22, 4] := ht
    have hall : ([3, 21, 22, 4].all fun u => Tryz.prog.readableRec u && decide (u < Tryz.prog.types.size)) = true := by kernel_rfl
    simpa using List.all_eq_true.1 hall t hm
  · intro W base args ds p hval hA hG hsz
    rw [Tryz.params3] at hA hval hsz
    obtain ⟨v0, vs0, d0, ds0, p0, q0, hargs, rfl, rfl, h0, r0⟩ := trodAll_cons hA
    obtain ⟨v1, vs1, d1, ds1, p1, q1, rfl, rfl, rfl, h1, r1⟩ := trodAll_cons r0
    obtain ⟨v2, vs2, d2, ds2, p2, q2, rfl, rfl, rfl, h2, r2⟩ := trodAll_cons r1
    obtain ⟨v3, vs3, d3, ds3, p3, q3, rfl, rfl, rfl, h3, r3⟩ := trodAll_cons r2
    obtain ⟨rfl, rfl, rfl⟩ := trodAll_nil r3
    obtain rfl : args = #[v0, v1, v2, v3] := by cases args; simp_all
    obtain ⟨a0, rfl, rfl, rfl, w0⟩ := open_int Tryz.underlying3 (hval 0 3 v0 rfl rfl) h0
    obtain ⟨a1, rfl, rfl, rfl, w1⟩ := open_int Tryz.underlying21 (hval 1 21 v1 rfl rfl) h1
    obtain ⟨A2, c2, a2, rfl, hc2, hr2, w2⟩ := open_arg Tryz.underlying22 (by kernel_rfl) (opens_int Tryz.underlying33) (hval 2 22 v2 rfl rfl) h2
    obtain ⟨a3, rfl, rfl, rfl⟩ := open_bool Tryz.underlying4 (hval 3 4 v3 rfl rfl) h3
    exact runnerErrs_walk a0 a1 (by have := wf_i64 w0; omega) A2 c2 a2 a3 W hG hr2 (fun z hz => wf_u64 (w2 z hz))

theorem runnerErrs_said : Rows.RunnerErrsSaid :=
  OpenClaim.holds_of_cond 3 Tryz.f3 rfl rfl rfl rfl rfl rfl rfl ⟨rfl, rfl, rfl, rfl, rfl⟩ rfl rfl rfl rfl rfl (by kernel_rfl) Tryz.func3 (by kernel_rfl)
    (of_decide_eq_true (by kernel_rfl)) (by unfold Func.isWrapper; first | (rw [if_pos (by decide +kernel)]; kernel_rfl) | (rw [if_neg (by decide +kernel)]; exact ⟨rfl, rfl⟩))
    (fun os started H enc _ F => by rw [OpenClaim.pre_eq_preRow]; exact runnerErrs_lifted os started H enc F)

theorem runnerErrs_plain (f : FuncId) (fn : Func) (hf : Tryz.pinned.checked.prog.funcNamed "hatstand/hatstandlaw17.RunnerErrs" = some f) (hfn : Tryz.pinned.checked.prog.funcs[f]? = some fn) :
    true = Tryz.pinned.checked.prog.looks [] ∧ ∀ (j : Nat) t, fn.params[j]? = some t → Tryz.pinned.checked.prog.wantsStandIn t = false := by
  obtain rfl : f = 3 := Option.some.inj ((show Tryz.prog.funcNamed "hatstand/hatstandlaw17.RunnerErrs" = some 3 by kernel_rfl).symm.trans hf) |>.symm
  obtain rfl : fn = Tryz.f3 := (Option.some.inj (Tryz.func3.symm.trans hfn)).symm
  refine ⟨by kernel_rfl, fun j t ht => ?_⟩
  rw [Tryz.params3] at ht
  have hm : t ∈ [3, 21, 22, 4] := by simpa using Array.mem_of_getElem? ht
  have hall : ([3, 21, 22, 4].all fun u => !Tryz.prog.wantsStandIn u) = true := by kernel_rfl
  exact (show Tryz.prog.wantsStandIn t = false by simpa using List.all_eq_true.1 hall t hm)

theorem runnerErrs_card : Rows.RunnerErrsCardSaid :=
  Claim7.holds_tied_plain_at .later [] _ _ _ _ runnerErrs_said (fun _ h => by cases h) (by kernel_rfl) (fun _ h => by cases h) runnerErrs_row_tie rfl ⟨rfl, rfl⟩ (by kernel_rfl) rfl runnerErrs_plain (by kernel_rfl)
end Go.Proofs.YtgdoeoackhfikaaGreatDoor

namespace Go.Proofs.YtgdoeoackhfikaaGreatDoor
set_option linter.unusedVariables false
set_option linter.unusedSimpArgs false
theorem runnerErrs_holds : Rows.RunnerErrsCardSaid := runnerErrs_card
#print axioms runnerErrs_holds
end Go.Proofs.YtgdoeoackhfikaaGreatDoor
