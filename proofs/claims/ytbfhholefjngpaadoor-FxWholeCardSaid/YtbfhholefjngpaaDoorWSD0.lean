/-
  Library functions off the kit's shelf, as functions that only compute (seat D, layer 02).
-/
import Derived.Test.YtbfhholefjngpaaDoorWSH
import Derived.Test.YtbfhholefjngpaaDoorFxCut
set_option linter.unusedVariables false
namespace Go.Proofs
open Go Go.Fx

def bytesI (l : List UInt8) : List Int := l.map fun b => (b.toNat : Int)

/-- What stays below is what a function that only computes leaves. -/
theorem grow_le {h : Heap} {w w' : World} (hs : h ≤ full w) : h ≤ Fx.grow h w w' := le_grow hs w'

/-- A table that is told whole. -/
theorem tab_is {P : Program} {G : Glob} {g : Nat} {name : String} {k : IntKind} {zs : List Int} (hn : P.globalNamed name = some g) (hg : G g = some (.iref k zs 0)) :
    ∀ (w : World) (h : Heap), h ≤ full w → GlobOk G h → Lib.TabIs P w name k zs := fun w h hs hG => by
  obtain ⟨⟨b, o, hp, hc⟩, c, ty, fz, h1, h2⟩ := hG g _ hg
  simp only [Value.pointer.injEq, Option.some.injEq, Addr.mk.injEq, Nat.add_zero, and_true] at hp
  obtain ⟨rfl, rfl⟩ := hp
  have hw : w.heap[g]? = some (.cells c ty fz) := hs _ _ h1
  unfold Lib.TabIs World.var?
  rw [hn]
  simp only [Option.bind_some, hw, Option.some.injEq]
  apply Array.ext
  · simp [h2]
  · intro j hj1 hj2
    have hz : j < zs.length := by omega
    obtain ⟨c', ty', fz', g1, g2⟩ := hc j (.int k zs[j]) (by rw [List.getElem?_map, List.getElem?_eq_getElem hz]; rfl)
    rw [h1] at g1
    cases g1
    rw [Nat.zero_add, Array.getElem?_eq_getElem hj1, Option.some.injEq] at g2
    rw [g2]; simp

theorem fn_Itoa {G : Glob} (hG : ∀ (w : World) (h : Heap), h ≤ full w → GlobOk G h → Lib.TabIs Tryd.prog w "internal/strconv.uint64pow10" .u64 Lib.pow10Tab) (n : Int) (h0 : -9223372036854775808 ≤ n) (h1 : n ≤ 9223372036854775807) :
    FunEq Tryd.prog G 37 [.int .i64 n] (.str (bytesI (Lib.itoa n))) := by
  refine ⟨by kernel_rfl, fun w h vs hs hg hv => ?_⟩
  obtain ⟨v, vs', rfl, hv0, rfl⟩ := hv
  have hv0 : v = .int .i64 n := hv0
  subst hv0
  refine (Tryd.strconv_Itoa n h0 h1 w (hG w h hs hg)).mono fun e w' ⟨he, k, os, hw⟩ => ⟨_, he, ⟨_, rfl, rfl⟩, ?_, ?_, ?_⟩
  all_goals subst hw
  · show w.heap.size ≤ (w.heap ++ os).size; rw [Array.size_append]; omega
  · intro b hb; show (w.heap ++ os)[b]? = _; rw [Array.getElem?_append_left hb]
  · exact ⟨rfl, rfl⟩
theorem strBytes_of {s : ByteArray} {l : List Int} (h : l = s.data.toList.map fun b => (b.toNat : Int)) : s.data.toList = strBytes l := by
  subst h
  simp only [strBytes, List.map_map]
  conv => lhs; rw [← List.map_id s.data.toList]
  apply List.map_congr_left
  intro b _
  simp
theorem relE_strs {h : Heap} : ∀ {es : List (List Int)} {vs : List Value}, PV.relE h 1 (es.map .str) vs → ∃ xs : List ByteArray, vs = xs.map Value.string ∧ xs.map (·.data.toList) = es.map strBytes
  | [], vs, e => ⟨[], e, rfl⟩
  | l :: es, vs, e => by
    obtain ⟨u, vs', rfl, hu, ⟨s, rfl, hs⟩, hr⟩ := e
    obtain ⟨xs, rfl, hx⟩ := relE_strs hr
    exact ⟨s :: xs, rfl, by rw [List.map_cons, List.map_cons, hx, strBytes_of hs]⟩
theorem fn_Join {G : Glob} {ex : Bool} (es : List (List Int)) (sep : List Int) (hne : es ≠ []) (hN : es.length ≤ 140737488355328) (hlen : (Lib.join (es.map strBytes) (strBytes sep)).length ≤ 140737488355328) :
    FunEq Tryd.prog G 38 [.sl false ex 1 (es.map .str), .str sep] (.str (bytesI (Lib.join (es.map strBytes) (strBytes sep)))) := by
  refine ⟨by kernel_rfl, fun w h vs hs hg hv => ?_⟩
  obtain ⟨v0, vs0, rfl, ⟨a, cap, rfl, h1, h2, h3, h4, us, hE, hC⟩, v1, vs1, rfl, ⟨s, rfl, hsep⟩, rfl⟩ := hv
  obtain ⟨xs, rfl, hx⟩ := relE_strs hE
  have hl : xs.length = (es.map PV.str).length := by have := congrArg List.length hx; simpa using this
  have hpos : 0 < es.length := List.length_pos_iff.mpr hne
  have hcap : 0 < cap := by rw [List.length_map] at h1; omega
  cases a with
  | none => exact absurd (h3.2 rfl) (by simp)
  | some ad =>
    obtain ⟨hsp, hcells⟩ := hC ad rfl
    obtain ⟨bk, o, sp⟩ := ad
    have hsp : sp = none := hsp hcap
    subst hsp
    have hsep' := strBytes_of hsep
    have hcell : ∀ (j : Nat) x, xs[j]? = some x → w.cell? ⟨bk, o + j, none⟩ = some (.string x) := fun j x hj => by
      obtain ⟨c, ty, fz, g1, g2⟩ := hcells j (.string x) (by rw [List.getElem?_map, hj]; rfl)
      have g1 := hs _ _ g1
      have g1 : w.heap[bk]? = some (.cells c ty fz) := g1
      simp [World.cell?, g1, g2]
    have hbk : bk < w.heap.size := by
      have h0 : 0 < xs.length := by rw [hl, List.length_map]; exact hpos
      obtain ⟨c, ty, fz, g1, _⟩ := hcells 0 (.string xs[0]) (by rw [List.getElem?_map, List.getElem?_eq_getElem h0]; rfl)
      exact (Array.getElem?_eq_some_iff.1 (hs _ _ g1)).1
    rw [← hl] at h1 ⊢
    rw [← hx, ← hsep'] at hlen
    refine (Tryd.strings_Join bk o cap xs s w hcell hbk (by rw [hl, List.length_map]; exact hN) h1 hlen).mono fun e w' ⟨he, hw⟩ => ⟨_, he, ⟨_, rfl, ?_⟩, hw.size, hw.block, hw.os, hw.output⟩
    rw [← hx, ← hsep']; rfl
theorem relE_of {h : Heap} : ∀ (fs : List (List UInt8)), PV.relE h 1 (fs.map fun f => .str (bytesI f)) (fs.map fun l => Value.string ⟨l.toArray⟩)
  | [] => rfl
  | f :: fs => ⟨.string ⟨f.toArray⟩, _, rfl, rfl, ⟨_, rfl, rfl⟩, relE_of fs⟩
theorem fn_Fields {G : Glob} (hG : ∀ (w : World) (h : Heap), h ≤ full w → GlobOk G h → Lib.TabIs Tryd.prog w "strings.asciiSpace" .u8 Lib.asciiSpaceTab) (l : List Int) (hl : l.length < 4294967281) (ha : ∀ n ∈ l, n < 128) :
    FunEq Tryd.prog G 39 [.str l] (.sl false true 1 ((Lib.fields (strBytes l)).map fun f => .str (bytesI f))) := by
  refine ⟨by kernel_rfl, fun w h vs hs hg hv => ?_⟩
  obtain ⟨v0, vs0, rfl, ⟨s, rfl, hsl⟩, rfl⟩ := hv
  have hb := strBytes_of hsl
  have hsz : s.size < 4294967281 := by
    have e : l.length = s.data.toList.length := by rw [hsl, List.length_map]
    have e2 : s.size = s.data.toList.length := by rw [Array.length_toList]; rfl
    rw [e2, ← e]; exact hl
  have hasc : ∀ (j : Nat) b, s.data.toList[j]? = some b → b.toNat < 128 := fun j b hj => by
    have hm : ((b.toNat : Nat) : Int) ∈ l := by rw [hsl]; exact List.mem_map.2 ⟨b, List.mem_of_getElem? hj, rfl⟩
    have := ha _ hm
    omega
  refine (Tryd.strings_Fields s w hsz hasc (hG w h hs hg)).mono fun e w' ⟨he, hw⟩ => ?_
  rw [hb] at he hw
  subst hw
  refine ⟨_, he, ⟨some ⟨w.heap.size, 0, none⟩, (Lib.fields (strBytes l)).length, by rw [List.length_map], (by rw [List.length_map]; exact Nat.le_refl _), fun _ => (by rw [List.length_map]), (by simp), fun e => (by cases e), _, relE_of _, fun ad e => ?_⟩, by rw [push_size]; omega, fun b hb => push_old w _ hb, ⟨rfl, rfl⟩⟩
  cases e
  refine ⟨fun _ => rfl, fun j u hj => ⟨_, _, _, by simp only [Fx.grow, Nat.lt_irrefl, if_false]; exact push_new w _, ?_⟩⟩
  rw [Nat.zero_add, List.getElem?_toArray]
  exact hj
end Go.Proofs
