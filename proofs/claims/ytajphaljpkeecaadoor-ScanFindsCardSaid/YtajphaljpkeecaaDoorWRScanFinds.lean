/-
  The law ScanFinds returns true for every input, and what it reads is as it was. No conditions.
-/
import Derived.Test.YtajphaljpkeecaaDoorRows
import Derived.Test.YtajphaljpkeecaaDoorCards
import Derived.Test.YtajphaljpkeecaaDoorTie
import Derived.SevenTiedAt
import Derived.Test.YtajphaljpkeecaaDoorFxRow
import Derived.Test.YtajphaljpkeecaaDoorWWire
import Derived.Test.YtajphaljpkeecaaDoorWLS6
import Derived.Test.YtajphaljpkeecaaDoorWKScanFinds
set_option linter.unusedSimpArgs false
set_option linter.unusedVariables false
set_option maxRecDepth 100000
namespace Go.Proofs.YtajphaljpkeecaaDoor
open Go Go.Fx Go.ChangeShapes Go.WideShapes Go.ChangeAt Go.RowKit Go.Proofs
theorem Tryd.own : ownKnob Tryd.prog.godebug = none := by kernel_rfl
theorem Tryd.laidOut : laidOutB Tryd.prog = true := by kernel_rfl
theorem scanFinds_con {x0 : PV} (e0 : TopFits false [(.isl .u8)] x0) : FunEq Tryd.prog GG 14 [x0] (.bool true) := by
  obtain ⟨ys0, rfl, t0⟩ := e0
  obtain ⟨y0, zs0, rfl, f0, t1⟩ := TS.cons_inv t0
  obtain ⟨b0, d0, l0, rfl, w0, c0, g0⟩ := fits_isl f0
  obtain rfl := TS.nil_inv t1
  exact ok_coupletlaw13_ScanFinds b0 d0 l0 true (law_ScanFinds w0 c0 g0)
theorem scanFinds_lifted (os : Os) (started : os.Started) (H : Type) (enc : TypeId × Value → H) :
    ReturnsInHanded {} Tryd.checked os 14 .any (fun w args => (Rows.scanFindsSpec.pre enc Tryd.prog Tryd.f14 [] false w args ∧ laidMetH Tryd.prog laid5 w) ∧ sizedMet enc Tryd.prog Tryd.f14 (OpenSpec.ofChange Rows.scanFindsSpec) false w args) (Rows.scanFindsSpec.post enc Tryd.prog Tryd.f14 false true false false) := by
  refine returnsInHanded_of_change_and (C := Tryd.checked) (X := fun w _ => laidMetH Tryd.prog laid5 w) (fun _ _ _ hh h => h.of_heap hh) Tryd.own started (by kernel_rfl) Tryd.func14
    (ChangeSpec.witness_shaped (enc := enc) (C := Tryd.checked) (os := os) (X := fun w _ => laidMetH Tryd.prog laid5 w) false (World.doorLaid Tryd.prog 4000 os) #[.slice none 0 0] 8 rfl (World.shaped_of_RefB (by kernel_rfl) (by kernel_rfl)) (by kernel_rfl) (by kernel_rfl) (by kernel_rfl) (door_met os _)) ?_
  intro W base args ds gs before hval0 hW _ _ hL _
  have hval : ∀ (j : Nat) t v, Tryd.f14.params[j]? = some t → args[j]? = some v → Value.okWide Tryd.prog W .any base t v := hval0
  have hW' := hW
  obtain ⟨p, q, hA0, hV, rfl, hfz, hnd⟩ := hW
  have hA : DataW.TrodAll enc Tryd.prog W 0 (fun _ => true) true Tryd.f14.params.toList args.toList ds p := hA0
  rw [Tryd.params14] at hA hval
  obtain ⟨v0, d0, rfl, rfl, h0⟩ := trodAll_one hA
  obtain ⟨rfl, rfl⟩ := trodVars_none hV
  obtain ⟨x0, e0, r0⟩ := open_arg (n := 8) (agg := false) (ts := [(.isl .u8)]) (by kernel_rfl) (by kernel_rfl) (hval 0 26 v0 rfl rfl) h0
  clear hA0 hval0
  simp only [List.append_nil] at hW'
  refine (funEqG_true (scanFinds_con e0) W (glob_laid hL) (vs := [v0]) ⟨_, _, rfl, r0, rfl⟩).mono fun e W' ⟨he, hl⟩ => ?_
  subst he
  exact ⟨_, rfl, post_of_left (pa := p) (pv := []) hW' (fun _ _ _ => trodAll_mk1 (shut_bool Tryd.underlying4 true)) (fun sp hs => (trodAll_mk1 (trod_left Tryd.laidOut (by kernel_rfl) (of_decide_eq_true (by kernel_rfl)) h0 hl (fun x hx => hW'.lt x (by simp [hx])) (fun x hx => hs x (by simp [hx]))))) (fun _ _ => rfl) (by simp) hl (ok_one (by kernel_rfl) rfl (okWide_bool_mk Tryd.underlying4 true))⟩
theorem scanFinds_k1 : Tryd.pinned.checked.prog.funcNamed Rows.scanFindsRow.func = some 14 := by kernel_rfl
theorem scanFinds_k3 : Tryd.f14.isInstance Tryd.pinned.checked.prog Rows.scanFindsRow.origin Rows.scanFindsRow.targs := of_decide_eq_true (by kernel_rfl)
theorem scanFinds_k4 : Tryd.f14.isWrapper Tryd.pinned.checked.prog Rows.scanFindsRow.wrapper Rows.scanFindsRow.mainSum := by unfold Func.isWrapper; rw [if_neg (by decide +kernel)]; exact ⟨rfl, rfl⟩
theorem scanFinds_row_holds : Rows.ScanFindsSaid :=
  OpenClaim.holds_of_wide 14 Tryd.f14 rfl rfl rfl rfl rfl rfl rfl ⟨rfl, rfl, rfl, rfl, rfl⟩ rfl rfl rfl rfl rfl scanFinds_k1 Tryd.func14 scanFinds_k2 scanFinds_k3 scanFinds_k4
    (fun os started H enc _ => scanFinds_lifted os started H enc)
theorem scanFinds_holds : Rows.ScanFindsCardSaid :=
  Claim7.holds_tied_plain_at .later [] [.data] true (true, "b6d8c03616781264e46c06f32f3eb0f600499f0d77c3769dd3c312e239d18a09") false
    scanFinds_row_holds (fun _ h => by cases h) (by kernel_rfl) (fun _ h => by cases h) scanFinds_row_tie rfl ⟨rfl, rfl⟩ (by kernel_rfl) rfl
    (fun f fn hf hfn => by
      obtain rfl : f = 14 := Option.some.inj ((show Tryd.prog.funcNamed Rows.scanFindsRow.func = some 14 by kernel_rfl).symm.trans hf) |>.symm
      obtain rfl : fn = Tryd.f14 := (Option.some.inj (Tryd.func14.symm.trans hfn)).symm
      exact ⟨by kernel_rfl, fun j t ht => by
        rw [Tryd.params14] at ht
        have hm : t ∈ [26] := by simpa using Array.mem_of_getElem? ht
        have hall : ([26].all fun u => !Tryd.prog.wantsStandIn u) = true := by kernel_rfl
        exact (show Tryd.prog.wantsStandIn t = false by simpa using List.all_eq_true.1 hall t hm)⟩)
    (by kernel_rfl)
end Go.Proofs.YtajphaljpkeecaaDoor
