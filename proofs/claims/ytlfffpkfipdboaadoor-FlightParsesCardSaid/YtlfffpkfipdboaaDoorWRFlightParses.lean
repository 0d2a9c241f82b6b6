/-
  The law FlightParses returns true for every input, and what it reads is as it was. No conditions.
-/
import Derived.Test.YtlfffpkfipdboaaDoorRows
import Derived.Test.YtlfffpkfipdboaaDoorCards
import Derived.Test.YtlfffpkfipdboaaDoorTie
import Derived.SevenTiedAt
import Derived.Test.YtlfffpkfipdboaaDoorFxRow
import Derived.Test.YtlfffpkfipdboaaDoorWSFs
import Derived.Test.YtlfffpkfipdboaaDoorWLQ4
import Derived.Test.YtlfffpkfipdboaaDoorWKFlightParses
set_option linter.unusedSimpArgs false
set_option linter.unusedVariables false
set_option maxRecDepth 100000
namespace Go.Proofs.YtlfffpkfipdboaaDoor
open Go Go.Fx Go.ChangeShapes Go.WideShapes Go.ChangeAt Go.RowKit Go.Proofs
theorem Tryd.own : ownKnob Tryd.prog.godebug = none := by kernel_rfl
theorem Tryd.laidOut : laidOutB Tryd.prog = true := by kernel_rfl
theorem flightParses_con {x0 : PV} (e0 : TopFits false [.str] x0) : FunEq Tryd.prog GG 3 [x0] (.bool true) := by
  obtain ⟨ys0, rfl, t0⟩ := e0
  obtain ⟨y0, zs0, rfl, f0, t1⟩ := TS.cons_inv t0
  obtain ⟨l0, rfl, w0, c0⟩ := fits_str f0
  obtain rfl := TS.nil_inv t1
  exact ok_coupletlaw20_FlightParses l0 true (law_FlightParses w0 c0)
theorem flightParses_lifted (os : Os) (started : os.Started) (H : Type) (enc : TypeId × Value → H) :
    ReturnsInHanded {} Tryd.checked os 3 .any (fun w args => (Rows.flightParsesSpec.pre enc Tryd.prog Tryd.f3 [] false w args ∧ laidMetH Tryd.prog laid5 w) ∧ sizedMet enc Tryd.prog Tryd.f3 (OpenSpec.ofChange Rows.flightParsesSpec) false w args) (Rows.flightParsesSpec.post enc Tryd.prog Tryd.f3 false true false false) := by
  refine returnsInHanded_of_change_and (C := Tryd.checked) (X := fun w _ => laidMetH Tryd.prog laid5 w) (fun _ _ _ hh h => h.of_heap hh) Tryd.own started (by kernel_rfl) Tryd.func3
    (ChangeSpec.witness_shaped (enc := enc) (C := Tryd.checked) (os := os) (X := fun w _ => laidMetH Tryd.prog laid5 w) false (World.laidAll Tryd.prog os laid5) #[.string ByteArray.empty] 8 rfl (World.shaped_of_ZipB (by kernel_rfl) (by kernel_rfl)) (by kernel_rfl) (by kernel_rfl) (by kernel_rfl) (door_met os _)) ?_
  intro W base args ds gs before hval0 hW _ _ hL _
  have hval : ∀ (j : Nat) t v, Tryd.f3.params[j]? = some t → args[j]? = some v → Value.okWide Tryd.prog W .any base t v := hval0
  have hW' := hW
  obtain ⟨p, q, hA0, hV, rfl, hfz, hnd⟩ := hW
  have hA : DataW.TrodAll enc Tryd.prog W 0 (fun _ => true) true Tryd.f3.params.toList args.toList ds p := hA0
  rw [Tryd.params3] at hA hval
  obtain ⟨v0, d0, rfl, rfl, h0⟩ := trodAll_one hA
  obtain ⟨rfl, rfl⟩ := trodVars_none hV
  obtain ⟨x0, e0, r0⟩ := open_arg (n := 8) (agg := false) (ts := [.str]) (by kernel_rfl) (by kernel_rfl) (hval 0 9 v0 rfl rfl) h0
  clear hA0 hval0
  simp only [List.append_nil] at hW'
  refine (funEqG_true (flightParses_con e0) W (glob_laid hL) (vs := [v0]) ⟨_, _, rfl, r0, rfl⟩).mono fun e W' ⟨he, hl⟩ => ?_
  subst he
  exact ⟨_, rfl, post_of_left (pa := p) (pv := []) hW' (fun _ _ _ => trodAll_mk1 (shut_bool Tryd.underlying4 true)) (fun sp hs => (trodAll_mk1 (trod_left Tryd.laidOut (by kernel_rfl) (of_decide_eq_true (by kernel_rfl)) h0 hl (fun x hx => hW'.lt x (by simp [hx])) (fun x hx => hs x (by simp [hx]))))) (fun _ _ => rfl) (by simp) hl (ok_one (by kernel_rfl) rfl (okWide_bool_mk Tryd.underlying4 true))⟩
theorem flightParses_k1 : Tryd.pinned.checked.prog.funcNamed Rows.flightParsesRow.func = some 3 := by kernel_rfl
theorem flightParses_k3 : Tryd.f3.isInstance Tryd.pinned.checked.prog Rows.flightParsesRow.origin Rows.flightParsesRow.targs := of_decide_eq_true (by kernel_rfl)
theorem flightParses_k4 : Tryd.f3.isWrapper Tryd.pinned.checked.prog Rows.flightParsesRow.wrapper Rows.flightParsesRow.mainSum := by unfold Func.isWrapper; rw [if_neg (by decide +kernel)]; exact ⟨rfl, rfl⟩
theorem flightParses_row_holds : Rows.FlightParsesSaid :=
  OpenClaim.holds_of_wide 3 Tryd.f3 rfl rfl rfl rfl rfl rfl rfl ⟨rfl, rfl, rfl, rfl, rfl⟩ rfl rfl rfl rfl rfl flightParses_k1 Tryd.func3 flightParses_k2 flightParses_k3 flightParses_k4
    (fun os started H enc _ => flightParses_lifted os started H enc)
theorem flightParses_holds : Rows.FlightParsesCardSaid :=
  Claim7.holds_tied_plain_at .later [] [.data, .data, .data, .data, .sentinel, .sentinel, .pinned] true (true, "9627bac25d8ebf23b8630a61fda4bfc3243d28b1e64acbb316cf949010993dd6") true
    flightParses_row_holds (fun _ h => by cases h) (by kernel_rfl) (fun _ h => by cases h) flightParses_row_tie rfl ⟨rfl, rfl⟩ (by kernel_rfl) rfl
    (fun f fn hf hfn => by
      obtain rfl : f = 3 := Option.some.inj ((show Tryd.prog.funcNamed Rows.flightParsesRow.func = some 3 by kernel_rfl).symm.trans hf) |>.symm
      obtain rfl : fn = Tryd.f3 := (Option.some.inj (Tryd.func3.symm.trans hfn)).symm
      exact ⟨by kernel_rfl, fun j t ht => by
        rw [Tryd.params3] at ht
        have hm : t ∈ [9] := by simpa using Array.mem_of_getElem? ht
        have hall : ([9].all fun u => !Tryd.prog.wantsStandIn u) = true := by kernel_rfl
        exact (show Tryd.prog.wantsStandIn t = false by simpa using List.all_eq_true.1 hall t hm)⟩)
    (by kernel_rfl)
end Go.Proofs.YtlfffpkfipdboaaDoor
