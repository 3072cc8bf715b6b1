/- Joined by program out of: RowScriptWords. -/
import Derived.Test.YtigkblelhghjjaaGreatDoorDipI
import Derived.Test.YtigkblelhghjjaaGreatDoorDipE
import Derived.Test.YtigkblelhghjjaaGreatDoorDipT
import Derived.Test.YtigkblelhghjjaaGreatDoorCards
import Derived.Test.YtigkblelhghjjaaGreatDoorTie
import Derived.WalkKit
import Derived.ProofKit
import Derived.OpenShut
import Derived.Deep.DeepHandedRow
set_option linter.all false
/- The row of ScriptWords, and its card: whatever the input, the law returns true; its input reads behind the call as before. Condition: the law as a plain function answers true (its text in the seat's Law texts). -/
section
set_option linter.unusedVariables false
namespace Go.Proofs.YtigkblelhghjjaaGreatDoor.scriptWords
open Go.ChangeShapes Go.WideShapes Go.ChangeAt Go.RowKit Go.Dip
theorem met (os : Os) : laidMet Tryz.prog Rows.scriptWordsRow.laid ((laidWorld os).forCall (fun _ _ => 0) ⟨#[], #[.string ⟨#[]⟩], []⟩).memory := laid_met os _
theorem reads (os : Os) {H : Type} (enc : TypeId × Value → H) :
    ∃ places, DataW.whole enc Tryz.prog ((laidWorld os).forCall (fun _ _ => 0) ⟨#[], #[.string ⟨#[]⟩], []⟩).memory Tryz.f3.params.toList Rows.scriptWordsSpec.vars false (#[.string ⟨#[]⟩] : Array Value).toList 8 = some ([.lit (.string [])], [], places) := by
  have hw : (DataW.whole enc Tryz.prog ((laidWorld os).forCall (fun _ _ => 0) ⟨#[], #[.string ⟨#[]⟩], []⟩).memory Tryz.f3.params.toList Rows.scriptWordsSpec.vars false (#[.string ⟨#[]⟩] : Array Value).toList 8).map (fun x => (x.1, x.2.1)) = some ([.lit (.string [])], []) := by kernel_rfl
  obtain ⟨⟨x1, x2, x3⟩, hx, hx1⟩ := Option.map_eq_some_iff.1 hw
  simp only [Prod.mk.injEq] at hx1
  obtain ⟨rfl, rfl⟩ := hx1
  exact ⟨x3, hx⟩
set_option maxRecDepth 100000 in
set_option maxHeartbeats 2000000 in
theorem lifted (os : Os) (started : os.Started) (H : Type) (enc : TypeId × Value → H) (F : Stop.Interp) :
    ReturnsInHanded {} Tryz.checked os 3 .any ((OpenSpec.ofChange Rows.scriptWordsSpec).preRow enc Tryz.prog Tryz.f3 Rows.scriptWordsRow.domain false Rows.scriptWordsRow.laid) (((OpenSpec.ofChange Rows.scriptWordsSpec).at F).post enc Tryz.prog Tryz.f3 false true false false) := by
  obtain ⟨places, hx⟩ := reads os enc
  refine returnsInHanded_of_row (C := Tryz.checked) (s := OpenSpec.ofChange Rows.scriptWordsSpec) own started (by kernel_rfl) Tryz.func3
    (witness_row_atRef (enc := enc) (C := Tryz.checked) false (laidWorld os) #[.string ⟨#[]⟩] rfl (by kernel_rfl) (by kernel_rfl) (by kernel_rfl) (OpenSpec.preRow_of_cond 8 hx (by kernel_rfl) (fun k hk => by cases hk) (by kernel_rfl) (met os))) ?_
  intro W base args ds gs before hval0 hW _ _ hsz hL hS _
  have hval : ∀ (j : Nat) t v, Tryz.f3.params[j]? = some t → args[j]? = some v → Value.okWide Tryz.prog W .any base t v := hval0
  have hW' := hW
  obtain ⟨p, q, hA0, hV, rfl, _, _⟩ := hW
  have hA : DataW.TrodAll enc Tryz.prog W 0 (fun _ => true) true Tryz.f3.params.toList args.toList ds p := hA0
  rw [Tryz.params3] at hA hval
  obtain ⟨v0, vs0, d0, ds0, p0, q0, hargs, rfl, rfl, h0, r0⟩ := trodAll_cons hA
  obtain ⟨rfl, rfl, rfl⟩ := trodAll_nil r0
  obtain rfl : args = #[v0] := by cases args; simp_all
  obtain ⟨rfl, rfl⟩ := trodVars_none hV
  obtain ⟨x0, t0, e0⟩ := arg_read tyOk closed bytesOk h0 (hval 0 9 v0 rfl rfl) (by simp [types]) (lights hsz 0 9 d0 rfl rfl)
  have k0 : ∀ x ∈ p0, x.block < W.heap.size := by obtain ⟨m, hm⟩ := h0; exact DataW.trod_lt m _ _ _ hm
  have hk := LawScriptWords.law x0 t0
  have hOk := LawScriptWords.ok (world_ok hL hS)
  refine (law_call (Go.Dip.enters_of Tryz.func3 (by kernel_rfl) (by kernel_rfl)) hOk (vs := [x0]) (args := #[v0]) rfl (fun i hi => ?_) hk).mono fun e W' ⟨he, bel⟩ => ?_
  · match i, hi with
    | 0, _ => exact e0
    | i + 1, h => exact absurd h (by simp)
  · subst he
    exact ⟨_, rfl, _, _, _, [], _, [], hW', trodAll_mk1 (shut_bool Tryz.underlying4 _), (trodAll_cons_mk (Below.trod laidOut (by kernel_rfl) (of_decide_eq_true (by kernel_rfl)) h0 bel k0) trodAll_mk0), rfl, bel.frame _, fun h => by cases h⟩
set_option maxRecDepth 100000 in
theorem facts : joinedFacts Tryz.prog 3 Tryz.f3 (OpenSpec.ofChange Rows.scriptWordsSpec).bare Rows.scriptWordsRow = true := facts_of q1 q2 q3 q4 q5 q6 q7 q8 q9 q10 q11 q12 q13 q14 q15 q16 q17 q18 q19 q20 q21 q22 q23 q24 q25 q26 q27 q28 q29 q30 q31 q32
set_option maxRecDepth 100000 in
theorem said : Rows.ScriptWordsSaid :=
  OpenClaim.holds_of_cond 3 Tryz.f3 rfl rfl rfl rfl rfl rfl rfl ⟨rfl, rfl, rfl, rfl, rfl⟩ rfl rfl rfl rfl rfl (by kernel_rfl) Tryz.func3 facts
    (of_decide_eq_true (by kernel_rfl)) (by unfold Func.isWrapper; first | (rw [if_pos (by decide +kernel)]; kernel_rfl) | (rw [if_neg (by decide +kernel)]; exact ⟨rfl, rfl⟩))
    (fun os started H enc _ F => by rw [OpenClaim.pre_eq_preRow]; exact lifted os started H enc F)
theorem plain (f : FuncId) (fn : Func) (hf : Tryz.pinned.checked.prog.funcNamed "diptych/diptychlaw21.ScriptWords" = some f) (hfn : Tryz.pinned.checked.prog.funcs[f]? = some fn) :
    true = Tryz.pinned.checked.prog.looks [] ∧ ∀ (j : Nat) t, fn.params[j]? = some t → Tryz.pinned.checked.prog.wantsStandIn t = false := by
  obtain rfl : f = 3 := Option.some.inj ((show Tryz.prog.funcNamed "diptych/diptychlaw21.ScriptWords" = some 3 by kernel_rfl).symm.trans hf) |>.symm
  obtain rfl : fn = Tryz.f3 := (Option.some.inj (Tryz.func3.symm.trans hfn)).symm
  refine ⟨by kernel_rfl, fun j t ht => ?_⟩
  rw [Tryz.params3] at ht
  have hm := Array.mem_of_getElem? ht
  simp at hm
  rcases hm with rfl
  all_goals first | exact (show Tryz.prog.wantsStandIn _ = false by kernel_rfl)
theorem goesNot : Rows.scriptWordsRow.goesBy Tryz.prog = false := by
  have h : ∀ g : FuncId, (Tryz.prog.funcs[g]?).any Func.goes = false := by
    intro g
    have h1 := Array.any_eq_false.1 noGo
    cases hg : Tryz.prog.funcs[g]? with
    | none => rfl
    | some fn =>
      obtain ⟨hi, rfl⟩ := Array.getElem?_eq_some_iff.1 hg
      simpa using h1 g hi
  have h2 : ∀ f : FuncId, Tryz.prog.goes f = false := by
    intro f
    unfold Program.goes
    rw [noGo, Bool.and_false, Bool.or_false]
    exact List.any_eq_false.2 fun g _ => by simp [h g]
  unfold OpenClaim.goesBy Program.goesAt Program.goesFrom
  cases Tryz.prog.funcNamed Rows.scriptWordsRow.func with
  | none => rfl
  | some f => simp only [Option.any_some, h2]; rfl
theorem card : Rows.ScriptWordsCardSaid :=
  Claim7.holds_tied_plain_at .later [] _ _ _ _ said (fun _ h => by cases h) (by kernel_rfl) (fun _ h => by cases h) scriptWords_row_tie rfl ⟨rfl, rfl⟩ (by kernel_rfl) rfl plain goesNot.symm
end Go.Proofs.YtigkblelhghjjaaGreatDoor.scriptWords
end
