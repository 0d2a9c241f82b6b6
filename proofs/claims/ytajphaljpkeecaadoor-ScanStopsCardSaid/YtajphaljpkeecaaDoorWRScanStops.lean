/-
  The law ScanStops returns true for every input, and what it reads is as it was. No conditions.
-/
import Derived.Test.YtajphaljpkeecaaDoorRows
import Derived.Test.YtajphaljpkeecaaDoorCards
import Derived.Test.YtajphaljpkeecaaDoorTie
import Derived.SevenTiedAt
import Derived.Test.YtajphaljpkeecaaDoorFxRow
import Derived.Test.YtajphaljpkeecaaDoorWCTab
import Derived.Test.YtajphaljpkeecaaDoorWLS5
import Derived.Test.YtajphaljpkeecaaDoorWKScanStops
set_option linter.unusedSimpArgs false
set_option linter.unusedVariables false
set_option maxRecDepth 100000
namespace Go.Proofs.YtajphaljpkeecaaDoor
open Go Go.Fx Go.ChangeShapes Go.WideShapes Go.ChangeAt Go.RowKit Go.Proofs

theorem Tryd.own : ownKnob Tryd.prog.godebug = none := by kernel_rfl
theorem Tryd.laidOut : laidOutB Tryd.prog = true := by kernel_rfl

theorem scanStops_con {x0 : PV} {x1 : PV} (e0 : TopFits false [(.isl .u8)] x0) (e1 : TopFits false [(.int .u8)] x1) : FunEq Tryd.prog GG 16 [x0, x1] (.bool true) := by
  obtain ⟨ys0, rfl, t0⟩ := e0
  obtain ⟨y0, zs0, rfl, f0, t1⟩ := TS.cons_inv t0
  obtain ⟨b0, d0, l0, rfl, w0, c0, g0⟩ := fits_isl f0
  obtain rfl := TS.nil_inv t1
  obtain ⟨ys1, rfl, t2⟩ := e1
  obtain ⟨y2, zs2, rfl, f2, t3⟩ := TS.cons_inv t2
  obtain ⟨n2, rfl, w2⟩ := fits_int f2
  obtain rfl := TS.nil_inv t3
  exact ok_coupletlaw13_ScanStops b0 d0 l0 n2 true (law_ScanStops w0 c0 g0 w2)

theorem scanStops_lifted (os : Os) (started : os.Started) (H : Type) (enc : TypeId × Value → H) :
    ReturnsInHanded {} Tryd.checked os 16 .any (fun w args => (Rows.scanStopsSpec.pre enc Tryd.prog Tryd.f16 [] false w args ∧ laidMetH Tryd.prog laid5 w) ∧ sizedMet enc Tryd.prog Tryd.f16 (OpenSpec.ofChange Rows.scanStopsSpec) false w args) (Rows.scanStopsSpec.post enc Tryd.prog Tryd.f16 false true false false) := by
  refine returnsInHanded_of_change_and (C := Tryd.checked) (X := fun w _ => laidMetH Tryd.prog laid5 w) (fun _ _ _ hh h => h.of_heap hh) Tryd.own started (by kernel_rfl) Tryd.func16
    (ChangeSpec.witness_shaped (enc := enc) (C := Tryd.checked) (os := os) (X := fun w _ => laidMetH Tryd.prog laid5 w) false (World.doorLaid Tryd.prog 4000 os) #[.slice none 0 0, .int .u8 0] 8 rfl (World.shaped_of_RefB (by kernel_rfl) (by kernel_rfl)) (by kernel_rfl) (by kernel_rfl) (by kernel_rfl) (door_met os _)) ?_
  intro W base args ds gs before hval0 hW _ _ hL _
  have hval : ∀ (j : Nat) t v, Tryd.f16.params[j]? = some t → args[j]? = some v → Value.okWide Tryd.prog W .any base t v := hval0
  have hW' := hW
  obtain ⟨p, q, hA0, hV, rfl, hfz, hnd⟩ := hW
  have hA : DataW.TrodAll enc Tryd.prog W 0 (fun _ => true) true Tryd.f16.params.toList args.toList ds p := hA0
  rw [Tryd.params16] at hA hval
  obtain ⟨v0, v1, d0, d1, p0, p1, rfl, rfl, rfl, h0, h1⟩ := trodAll_two hA
  obtain ⟨rfl, rfl⟩ := trodVars_none hV
  obtain ⟨x0, e0, r0⟩ := open_arg (n := 8) (agg := false) (ts := [(.isl .u8)]) (by kernel_rfl) (by kernel_rfl) (hval 0 26 v0 rfl rfl) h0
  obtain ⟨x1, e1, r1⟩ := open_arg (n := 8) (agg := false) (ts := [(.int .u8)]) (by kernel_rfl) (by kernel_rfl) (hval 1 5 v1 rfl rfl) h1
  clear hA0 hval0
  simp only [List.append_nil] at hW'
  refine (funEqG_true (scanStops_con e0 e1) W (glob_laid hL) (vs := [v0, v1]) ⟨_, _, rfl, r0, ⟨_, _, rfl, r1, rfl⟩⟩).mono fun e W' ⟨he, hl⟩ => ?_
  subst he
  exact ⟨_, rfl, post_of_left (pa := (p0 ++ p1)) (pv := []) hW' (fun _ _ _ => trodAll_mk1 (shut_bool Tryd.underlying4 true)) (fun sp hs => (trodAll_mk2 (trod_left Tryd.laidOut (by kernel_rfl) (of_decide_eq_true (by kernel_rfl)) h0 hl (fun x hx => hW'.lt x (by simp [hx])) (fun x hx => hs x (by simp [hx]))) (trod_left Tryd.laidOut (by kernel_rfl) (of_decide_eq_true (by kernel_rfl)) h1 hl (fun x hx => hW'.lt x (by simp [hx])) (fun x hx => hs x (by simp [hx]))))) (fun _ _ => rfl) (by simp) hl (ok_one (by kernel_rfl) rfl (okWide_bool_mk Tryd.underlying4 true))⟩

theorem scanStops_k1 : Tryd.pinned.checked.prog.funcNamed Rows.scanStopsRow.func = some 16 := by kernel_rfl
theorem scanStops_k3 : Tryd.f16.isInstance Tryd.pinned.checked.prog Rows.scanStopsRow.origin Rows.scanStopsRow.targs := of_decide_eq_true (by kernel_rfl)
theorem scanStops_k4 : Tryd.f16.isWrapper Tryd.pinned.checked.prog Rows.scanStopsRow.wrapper Rows.scanStopsRow.mainSum := by unfold Func.isWrapper; rw [if_neg (by decide +kernel)]; exact ⟨rfl, rfl⟩

/-- The law ScanStops, for every input. -/
theorem scanStops_row_holds : Rows.ScanStopsSaid :=
  OpenClaim.holds_of_wide 16 Tryd.f16 rfl rfl rfl rfl rfl rfl rfl ⟨rfl, rfl, rfl, rfl, rfl⟩ rfl rfl rfl rfl rfl scanStops_k1 Tryd.func16 scanStops_k2 scanStops_k3 scanStops_k4
    (fun os started H enc _ => scanStops_lifted os started H enc)

/-- The card: the same, with the tables tied to the program's text. -/
theorem scanStops_holds : Rows.ScanStopsCardSaid :=
  Claim7.holds_tied_plain_at .later [] [.data] true (true, "b6d8c03616781264e46c06f32f3eb0f600499f0d77c3769dd3c312e239d18a09") false
    scanStops_row_holds (fun _ h => by cases h) (by kernel_rfl) (fun _ h => by cases h) scanStops_row_tie rfl ⟨rfl, rfl⟩ (by kernel_rfl) rfl
    (fun f fn hf hfn => by
      obtain rfl : f = 16 := Option.some.inj ((show Tryd.prog.funcNamed Rows.scanStopsRow.func = some 16 by kernel_rfl).symm.trans hf) |>.symm
      obtain rfl : fn = Tryd.f16 := (Option.some.inj (Tryd.func16.symm.trans hfn)).symm
      exact ⟨by kernel_rfl, fun j t ht => by
        rw [Tryd.params16] at ht
        have hm : t ∈ [26, 5] := by simpa using Array.mem_of_getElem? ht
        have hall : ([26, 5].all fun u => !Tryd.prog.wantsStandIn u) = true := by kernel_rfl
        exact (show Tryd.prog.wantsStandIn t = false by simpa using List.all_eq_true.1 hall t hm)⟩)
    (by kernel_rfl)

end Go.Proofs.YtajphaljpkeecaaDoor
