/-
  The law FlightBlank returns true for every input, and what it reads is as it was. No conditions.
-/
import Derived.Test.YtlfffpkfipdboaaDoorRows
import Derived.Test.YtlfffpkfipdboaaDoorCards
import Derived.Test.YtlfffpkfipdboaaDoorTie
import Derived.SevenTiedAt
import Derived.Test.YtlfffpkfipdboaaDoorFxRow
import Derived.Test.YtlfffpkfipdboaaDoorWSFs
import Derived.Test.YtlfffpkfipdboaaDoorWLQ4
import Derived.Test.YtlfffpkfipdboaaDoorWKFlightBlank
set_option linter.unusedSimpArgs false
set_option linter.unusedVariables false
set_option maxRecDepth 100000
namespace Go.Proofs.YtlfffpkfipdboaaDoor
open Go Go.Fx Go.ChangeShapes Go.WideShapes Go.ChangeAt Go.RowKit Go.Proofs
theorem Tryd.own : ownKnob Tryd.prog.godebug = none := by kernel_rfl
theorem Tryd.laidOut : laidOutB Tryd.prog = true := by kernel_rfl
theorem flightBlank_con {x0 : PV} {x1 : PV} (e0 : TopFits false [.str] x0) (e1 : TopFits false [(.int .u8)] x1) : FunEq Tryd.prog GG 6 [x0, x1] (.bool true) := by
  obtain ⟨ys0, rfl, t0⟩ := e0
  obtain ⟨y0, zs0, rfl, f0, t1⟩ := TS.cons_inv t0
  obtain ⟨l0, rfl, w0, c0⟩ := fits_str f0
  obtain rfl := TS.nil_inv t1
  obtain ⟨ys1, rfl, t2⟩ := e1
  obtain ⟨y2, zs2, rfl, f2, t3⟩ := TS.cons_inv t2
  obtain ⟨n2, rfl, w2⟩ := fits_int f2
  obtain rfl := TS.nil_inv t3
  exact ok_coupletlaw20_FlightBlank l0 n2 true (law_FlightBlank w0 c0 w2)
theorem flightBlank_lifted (os : Os) (started : os.Started) (H : Type) (enc : TypeId × Value → H) :
    ReturnsInHanded {} Tryd.checked os 6 .any (fun w args => (Rows.flightBlankSpec.pre enc Tryd.prog Tryd.f6 [] false w args ∧ laidMetH Tryd.prog laid5 w) ∧ sizedMet enc Tryd.prog Tryd.f6 (OpenSpec.ofChange Rows.flightBlankSpec) false w args) (Rows.flightBlankSpec.post enc Tryd.prog Tryd.f6 false true false false) := by
  refine returnsInHanded_of_change_and (C := Tryd.checked) (X := fun w _ => laidMetH Tryd.prog laid5 w) (fun _ _ _ hh h => h.of_heap hh) Tryd.own started (by kernel_rfl) Tryd.func6
    (ChangeSpec.witness_shaped (enc := enc) (C := Tryd.checked) (os := os) (X := fun w _ => laidMetH Tryd.prog laid5 w) false (World.laidAll Tryd.prog os laid5) #[.string ByteArray.empty, .int .u8 0] 8 rfl (World.shaped_of_ZipB (by kernel_rfl) (by kernel_rfl)) (by kernel_rfl) (by kernel_rfl) (by kernel_rfl) (door_met os _)) ?_
  intro W base args ds gs before hval0 hW _ _ hL _
  have hval : ∀ (j : Nat) t v, Tryd.f6.params[j]? = some t → args[j]? = some v → Value.okWide Tryd.prog W .any base t v := hval0
  have hW' := hW
  obtain ⟨p, q, hA0, hV, rfl, hfz, hnd⟩ := hW
  have hA : DataW.TrodAll enc Tryd.prog W 0 (fun _ => true) true Tryd.f6.params.toList args.toList ds p := hA0
  rw [Tryd.params6] at hA hval
  obtain ⟨v0, v1, d0, d1, p0, p1, rfl, rfl, rfl, h0, h1⟩ := trodAll_two hA
  obtain ⟨rfl, rfl⟩ := trodVars_none hV
  obtain ⟨x0, e0, r0⟩ := open_arg (n := 8) (agg := false) (ts := [.str]) (by kernel_rfl) (by kernel_rfl) (hval 0 9 v0 rfl rfl) h0
  obtain ⟨x1, e1, r1⟩ := open_arg (n := 8) (agg := false) (ts := [(.int .u8)]) (by kernel_rfl) (by kernel_rfl) (hval 1 5 v1 rfl rfl) h1
  clear hA0 hval0
  simp only [List.append_nil] at hW'
  refine (funEqG_true (flightBlank_con e0 e1) W (glob_laid hL) (vs := [v0, v1]) ⟨_, _, rfl, r0, ⟨_, _, rfl, r1, rfl⟩⟩).mono fun e W' ⟨he, hl⟩ => ?_
  subst he
  exact ⟨_, rfl, post_of_left (pa := (p0 ++ p1)) (pv := []) hW' (fun _ _ _ => trodAll_mk1 (shut_bool Tryd.underlying4 true)) (fun sp hs => (trodAll_mk2 (trod_left Tryd.laidOut (by kernel_rfl) (of_decide_eq_true (by kernel_rfl)) h0 hl (fun x hx => hW'.lt x (by simp [hx])) (fun x hx => hs x (by simp [hx]))) (trod_left Tryd.laidOut (by kernel_rfl) (of_decide_eq_true (by kernel_rfl)) h1 hl (fun x hx => hW'.lt x (by simp [hx])) (fun x hx => hs x (by simp [hx]))))) (fun _ _ => rfl) (by simp) hl (ok_one (by kernel_rfl) rfl (okWide_bool_mk Tryd.underlying4 true))⟩
theorem flightBlank_k1 : Tryd.pinned.checked.prog.funcNamed Rows.flightBlankRow.func = some 6 := by kernel_rfl
theorem flightBlank_k3 : Tryd.f6.isInstance Tryd.pinned.checked.prog Rows.flightBlankRow.origin Rows.flightBlankRow.targs := of_decide_eq_true (by kernel_rfl)
theorem flightBlank_k4 : Tryd.f6.isWrapper Tryd.pinned.checked.prog Rows.flightBlankRow.wrapper Rows.flightBlankRow.mainSum := by unfold Func.isWrapper; rw [if_neg (by decide +kernel)]; exact ⟨rfl, rfl⟩
theorem flightBlank_row_holds : Rows.FlightBlankSaid :=
  OpenClaim.holds_of_wide 6 Tryd.f6 rfl rfl rfl rfl rfl rfl rfl ⟨rfl, rfl, rfl, rfl, rfl⟩ rfl rfl rfl rfl rfl flightBlank_k1 Tryd.func6 flightBlank_k2 flightBlank_k3 flightBlank_k4
    (fun os started H enc _ => flightBlank_lifted os started H enc)
theorem flightBlank_holds : Rows.FlightBlankCardSaid :=
  Claim7.holds_tied_plain_at .later [] [.data, .data, .data, .data, .sentinel, .sentinel, .pinned] true (true, "9627bac25d8ebf23b8630a61fda4bfc3243d28b1e64acbb316cf949010993dd6") true
    flightBlank_row_holds (fun _ h => by cases h) (by kernel_rfl) (fun _ h => by cases h) flightBlank_row_tie rfl ⟨rfl, rfl⟩ (by kernel_rfl) rfl
    (fun f fn hf hfn => by
      obtain rfl : f = 6 := Option.some.inj ((show Tryd.prog.funcNamed Rows.flightBlankRow.func = some 6 by kernel_rfl).symm.trans hf) |>.symm
      obtain rfl : fn = Tryd.f6 := (Option.some.inj (Tryd.func6.symm.trans hfn)).symm
      exact ⟨by kernel_rfl, fun j t ht => by
        rw [Tryd.params6] at ht
        have hm : t ∈ [9, 5] := by simpa using Array.mem_of_getElem? ht
        have hall : ([9, 5].all fun u => !Tryd.prog.wantsStandIn u) = true := by kernel_rfl
        exact (show Tryd.prog.wantsStandIn t = false by simpa using List.all_eq_true.1 hall t hm)⟩)
    (by kernel_rfl)
end Go.Proofs.YtlfffpkfipdboaaDoor
