/- flonglaw09.TblParts returns true for every text and leaves it as it was; no condition of our own. -/
import Derived.Test.YtehbklgndkheoaaDoorPart7
import Derived.Test.YtehbklgndkheoaaDoorPart6
/- flonglaw09.TblParts: any text's look, and columns, and what lies between its tabs, is what the chapter says. No condition of our own: every text. -/
set_option linter.unusedVariables false
set_option maxRecDepth 100000
namespace Go.Proofs.YtehbklgndkheoaaDoor
open Go Go.RowKit Go.ChangeShapes Go.Proofs.VmX
open Go.ChangeMaps (open_string shut_string)
namespace TblParts

theorem enters (vs : Array Value) (w : World) : (callFunc 3 vs).run Tryd.prog w = .ok (.enter 3 vs) w := by
  unfold callFunc
  have h1 := Tryd.func3
  have hn : (Tryd.f3.name == "runtime.NumGoroutine") = false := by kernel_rfl
  have hb : Tryd.f3.body.isNone = false := by kernel_rfl
  simp only [Sem.run_bind, run_program, Result.andThen_ok, h1, hn, hb, Bool.false_eq_true, if_false, Sem.run_pure]

theorem params : Tryd.f3.params.toList = [9] := by kernel_rfl
theorem resTs : Tryd.f3.resultTypes = #[4] := by kernel_rfl

theorem contract (X : Type) (enc : TypeId × Value → X) (W : World) (base : Nat) (args : Array Value) (ds gs : List (DataW X)) (before : List MemPlace)
    (hval : ∀ (j : Nat) t v, Tryd.f3.params[j]? = some t → args[j]? = some v → Value.okWide Tryd.prog W .any base t v)
    (hW : DataW.Whole enc Tryd.prog Tryd.f3.params.toList Rows.tblPartsSpec.vars false W args.toList ds gs before) (hL : laidMetH Tryd.prog laidL W) (hS : W.ShapedOpen Tryd.prog) :
    Calls Tryd.prog 3 args W fun e W' => ∃ v, e = .returned v ∧ Rows.tblPartsSpec.post enc Tryd.prog Tryd.f3 false true false false W args v W' := by
  have hW' := hW
  obtain ⟨p, q, hA, hV, rfl, hfz, hnd⟩ := hW
  rw [params] at hA
  obtain ⟨v0, vs0, d0, ds0, p0, q0, hargs, rfl, rfl, h0, r0⟩ := trodAll_cons hA
  obtain ⟨rfl, rfl, rfl⟩ := trodAll_nil r0
  obtain rfl : args = #[v0] := by cases args; simp_all
  obtain ⟨rfl, rfl⟩ := trodVars_none hV
  obtain ⟨s, rfl, rfl, rfl, hmax⟩ := open_string Tryd.underlying9 (hval 0 9 v0 rfl rfl) h0
  refine (law_calls (vs := [.string s]) hL hS (enters _ W) (.cons _ _ _ _ (.str s.data.toList) .nil) (VmX.law_TblParts s.data.toList known_pure)).mono fun e W' ⟨he, hb⟩ => ?_
  subst he
  exact ⟨_, rfl, law_post (N := 3) hW' rfl rfl (by rw [params]; intro t ht; simp only [List.mem_singleton] at ht; subst ht; kernel_rfl) resTs Tryd.underlying4 hb⟩

theorem reads (os : Os) {X : Type} (enc : TypeId × Value → X) : ∃ places, DataW.whole enc Tryd.prog ((laidWorld os).forCall (fun _ _ => 0) ⟨#[], #[.string .empty], []⟩).memory Tryd.f3.params.toList Rows.tblPartsSpec.vars false #[Value.string .empty].toList 8 = some ([.lit (.string [])], [], places) :=
  ⟨[], by kernel_rfl⟩

theorem lifted (os : Os) (started : os.Started) (X : Type) (enc : TypeId × Value → X) (F : Stop.Interp) :
    ReturnsInHanded {} Tryd.checked os 3 .any ((OpenSpec.ofChange Rows.tblPartsSpec).preRow enc Tryd.prog Tryd.f3 Rows.tblPartsRow.domain false Rows.tblPartsRow.laid) (((OpenSpec.ofChange Rows.tblPartsSpec).at F).post enc Tryd.prog Tryd.f3 false true false false) := by
  obtain ⟨places, hx⟩ := reads os enc
  refine returnsInHanded_of_row (C := Tryd.checked) (s := OpenSpec.ofChange Rows.tblPartsSpec) own started (by kernel_rfl) Tryd.func3
    (witness_row_atRef (enc := enc) (C := Tryd.checked) false (laidWorld os) #[.string .empty] rfl (by kernel_rfl) (by kernel_rfl) (by kernel_rfl)
      (OpenSpec.preRow_of_cond 8 hx (by kernel_rfl) (fun k hk => by cases hk) (by kernel_rfl) (laid_met os _))) ?_
  intro W base args ds gs before hval hW _ _ _ hL hS _
  exact contract X enc W base args ds gs before hval hW hL hS

theorem said : Rows.TblPartsSaid :=
  OpenClaim.holds_of_cond 3 Tryd.f3 rfl rfl rfl rfl rfl rfl rfl ⟨rfl, rfl, rfl, rfl, rfl⟩ rfl rfl rfl rfl rfl (by kernel_rfl) Tryd.func3 (by kernel_rfl)
    (of_decide_eq_true (by kernel_rfl)) (by unfold Func.isWrapper; first | (rw [if_pos (by decide +kernel)]; kernel_rfl) | (rw [if_neg (by decide +kernel)]; exact ⟨rfl, rfl⟩))
    (fun os started X enc _ F => by rw [OpenClaim.pre_eq_preRow]; exact lifted os started X enc F)

theorem plain (f : FuncId) (fn : Func) (hf : Tryd.pinned.checked.prog.funcNamed "flong/flonglaw09.TblParts" = some f) (hfn : Tryd.pinned.checked.prog.funcs[f]? = some fn) :
    false = Tryd.pinned.checked.prog.looks [] ∧ ∀ (j : Nat) t, fn.params[j]? = some t → Tryd.pinned.checked.prog.wantsStandIn t = false := by
  obtain rfl : f = 3 := Option.some.inj ((show Tryd.prog.funcNamed "flong/flonglaw09.TblParts" = some 3 by kernel_rfl).symm.trans hf) |>.symm
  obtain rfl : fn = Tryd.f3 := (Option.some.inj (Tryd.func3.symm.trans hfn)).symm
  refine ⟨by kernel_rfl, fun j t ht => ?_⟩
  have hm : t ∈ Tryd.f3.params.toList := by simpa using Array.mem_of_getElem? ht
  rw [params] at hm
  obtain rfl : t = 9 := by simpa using hm
  exact (show Tryd.prog.wantsStandIn 9 = false by kernel_rfl)
end TblParts

/-- The card. -/
theorem tblParts_card : Rows.TblPartsCardSaid :=
  Claim7.holds_tied_plain_at .later [] _ _ _ _ TblParts.said (fun _ h => by cases h) (by kernel_rfl) (fun _ h => by cases h) tblParts_row_tie rfl ⟨rfl, rfl⟩ (by kernel_rfl) rfl TblParts.plain (by kernel_rfl)
end Go.Proofs.YtehbklgndkheoaaDoor
