/-
  Layer 14: the laws.
-/
import Derived.Test.YtjpfdipoijehcaaWLA
set_option linter.unusedSimpArgs false
set_option linter.unusedVariables false
namespace Go.Proofs
open Go Go.Fx

theorem awake14 : go_coupletlaw14_awake = some true := by kernel_rfl

/-- Whether a frame is the next one of a place. -/
def nextZ (b0 : Bool) (n1 n2 n3 n4 n5 : Int) (l : List Int) : Int :=
  if soundZ n3 n4 n5 l ≠ 0 then soundZ n3 n4 n5 l else if n3 = 1 then (if b0 = true ∧ n4 ≤ n2 then 7 else 0) else if b0 = false then 10
  else if n4 ≠ IntKind.wrap .i64 (n2 + 1) ∧ (n4 ≠ 0 ∨ n2 ≠ 4294967295) then 7 else if n5 ≠ n1 then 8 else 0

theorem check_Next {b0 : Bool} {n1 n2 n3 n4 n5 : Int} {b6 b7 : Bool} {l : List Int} (hl : l.length ≤ maxLen) (hb : b6 = true → l = []) : go_check_Next b0 n1 n2 n3 n4 n5 b6 b7 l = some (nextZ b0 n1 n2 n3 n4 n5 l) := by
  unfold go_check_Next nextZ
  rw [check_Sound hl hb, Option.bind_some]
  generalize soundZ n3 n4 n5 l = s
  by_cases h0 : s = 0
  · by_cases h1 : n3 = 1
    · cases b0 with
      | true => by_cases h2 : n4 ≤ n2 <;> simp [ibeq, ibne, h0, h1, h2]
      | false => simp [ibeq, ibne, h0, h1]
    · cases b0 with
      | false => simp [ibeq, ibne, h0, h1]
      | true =>
        by_cases h3 : n4 = IntKind.wrap .i64 (n2 + 1) <;> by_cases h4 : n4 = 0 <;> by_cases h5 : n2 = 4294967295 <;> by_cases h6 : n5 = n1 <;> simp [ibeq, ibne, h0, h1, h3, h4, h5, h6] <;> simp_all
  · simp [ibeq, ibne, h0]

theorem check_Behind {b0 : Bool} {n1 n2 n3 n4 n5 : Int} {b6 b7 : Bool} {l : List Int} (hl : l.length ≤ maxLen) (hb : b6 = true → l = []) :
    go_check_Behind b0 n1 n2 n3 n4 n5 b6 b7 l = some (if nextZ b0 n1 n2 n3 n4 n5 l = 0 then (true, n5, n4) else (b0, n1, n2)) := by
  unfold go_check_Behind
  rw [check_Next hl hb, Option.bind_some]
  by_cases h : nextZ b0 n1 n2 n3 n4 n5 l = 0 <;> simp [ibne, h]

theorem sound_ok {n0 n1 n2 : Int} {l : List Int} (h : soundZ n0 n1 n2 l = 0) : okF n0 n1 n2 l = true := by
  unfold soundZ at h
  cases hk : okF n0 n1 n2 l with
  | true => rfl
  | false => rw [hk] at h; simp at h

theorem law_CheckSounds {n0 n1 n2 : Int} {b3 b4 : Bool} {l : List Int} (w0 : (Lit.int .i64 n0).wf = true) (w1 : (Lit.int .i64 n1).wf = true) (w2 : (Lit.int .i64 n2).wf = true) (hl : l.length ≤ maxLen) (hw : ∀ n ∈ l, (Lit.int .i64 n).wf = true) (hn : b3 = true → l = []) :
    go_coupletlaw14_CheckSounds n0 n1 n2 b3 b4 l = some true := by
  unfold go_coupletlaw14_CheckSounds go_coupletlaw12_Given
  rw [awake14, check_Sound hl hn]
  simp only [Option.bind_some]
  rw [ref_Sound (wf_i64 w0).1 (wf_i64 w0).2 hl]
  by_cases h : ((l.length : Nat) : Int) > 40 <;> simp [h]

theorem law_CheckStarts {n0 n1 n2 : Int} {b3 b4 : Bool} {l : List Int} (w0 : (Lit.int .i64 n0).wf = true) (w1 : (Lit.int .i64 n1).wf = true) (w2 : (Lit.int .i64 n2).wf = true) (hl : l.length ≤ maxLen) (hw : ∀ n ∈ l, (Lit.int .i64 n).wf = true) (hn : b3 = true → l = []) :
    go_coupletlaw14_CheckStarts n0 n1 n2 b3 b4 l = some true := by
  unfold go_coupletlaw14_CheckStarts go_coupletlaw12_Given
  rw [awake14, check_Next hl hn, check_Behind hl hn]
  simp only [Option.bind_some]
  rw [ref_Sound (wf_i64 w0).1 (wf_i64 w0).2 hl]
  by_cases h : ((l.length : Nat) : Int) > 40
  · simp [h]
  simp only [h, decide_false, cond_false, Option.bind_some]
  have hN : nextZ false 0 0 n0 n1 n2 l = if soundZ n0 n1 n2 l ≠ 0 then soundZ n0 n1 n2 l else if n0 = 1 then 0 else 10 := by
    unfold nextZ
    by_cases h0 : soundZ n0 n1 n2 l = 0 <;> by_cases h1 : n0 = 1 <;> simp [h0, h1]
  rw [hN]
  clear hN
  generalize soundZ n0 n1 n2 l = s
  by_cases h0 : s = 0
  · by_cases h1 : n0 = 1 <;> simp [ibeq, ibne, h0, h1]
  · simp [ibeq, ibne, h0]

theorem ref_Next {b0 : Bool} {n1 n2 n3 n4 n5 : Int} {b6 b7 : Bool} {l : List Int} (w3 : (Lit.int .i64 n3).wf = true) (hl : l.length ≤ maxLen) (hb : -1099511627776 ≤ n2 ∧ n2 ≤ 1099511627776) :
    go_coupletref14_Next b0 n1 n2 n3 n4 n5 b6 b7 l = some (nextZ b0 n1 n2 n3 n4 n5 l) := by
  unfold go_coupletref14_Next nextZ
  rw [ref_Sound (wf_i64 w3).1 (wf_i64 w3).2 hl, Option.bind_some, w64 (a := n2 + 1) (by omega) (by omega)]
  have hr : soundZ n3 n4 n5 l = 0 → 0 ≤ n4 ∧ n4 ≤ 4294967295 := fun h0 => by
    obtain ⟨_, _, hr1, hr2, _⟩ := okF_cases (sound_ok h0)
    exact ⟨hr1, hr2⟩
  clear hl
  generalize soundZ n3 n4 n5 l = s at *
  by_cases h0 : s = 0
  · obtain ⟨hr1, hr2⟩ := hr h0
    by_cases h1 : n3 = 1
    · cases b0 with
      | true => by_cases h2 : n4 ≤ n2 <;> simp [ibeq, ibne, h0, h1, h2]
      | false => simp [ibeq, ibne, h0, h1]
    · cases b0 with
      | false => simp [ibeq, ibne, h0, h1]
      | true =>
        by_cases h5 : n2 = 4294967295
        · subst h5
          have h3 : ¬ n4 = 4294967296 := by omega
          by_cases h4 : n4 = 0 <;> by_cases h6 : n5 = n1 <;> simp [ibeq, ibne, h0, h1, h3, h4, h6]
        · by_cases h3 : n4 = n2 + 1 <;> by_cases h6 : n5 = n1 <;> simp [ibeq, ibne, h0, h1, h3, h5, h6]
  · simp [ibeq, ibne, h0]

theorem law_CheckNext {b0 : Bool} {n1 n2 n3 n4 n5 : Int} {b6 b7 : Bool} {l : List Int} (w1 : (Lit.int .i64 n1).wf = true) (w2 : (Lit.int .i64 n2).wf = true) (w3 : (Lit.int .i64 n3).wf = true) (w4 : (Lit.int .i64 n4).wf = true) (w5 : (Lit.int .i64 n5).wf = true)
    (hl : l.length ≤ maxLen) (hw : ∀ n ∈ l, (Lit.int .i64 n).wf = true) (hn : b6 = true → l = []) : go_coupletlaw14_CheckNext b0 n1 n2 n3 n4 n5 b6 b7 l = some true := by
  unfold go_coupletlaw14_CheckNext go_coupletlaw12_Given
  rw [awake14, check_Next hl hn, check_Behind hl hn]
  simp only [Option.bind_some]
  by_cases h : ((l.length : Nat) : Int) > 40
  · simp [h]
  by_cases g1 : n2 > 1099511627776
  · simp [h, g1]
  by_cases g2 : n2 < -1099511627776
  · simp [h, g1, g2]
  simp only [h, g1, g2, decide_false, cond_false]
  rw [ref_Next w3 hl ⟨by omega, by omega⟩]
  simp only [Option.bind_some]
  by_cases h0 : nextZ b0 n1 n2 n3 n4 n5 l = 0 <;> simp [ibeq, ibne, h0]

theorem law_CheckOnce {b0 : Bool} {n1 n2 n3 n4 n5 : Int} {b6 b7 : Bool} {l : List Int} {m3 m4 m5 : Int} {c6 c7 : Bool} {k : List Int} (w1 : (Lit.int .i64 n1).wf = true) (w2 : (Lit.int .i64 n2).wf = true) (w3 : (Lit.int .i64 n3).wf = true) (w4 : (Lit.int .i64 n4).wf = true) (w5 : (Lit.int .i64 n5).wf = true)
    (hl : l.length ≤ maxLen) (hw : ∀ n ∈ l, (Lit.int .i64 n).wf = true) (hn : b6 = true → l = []) (u3 : (Lit.int .i64 m3).wf = true) (u4 : (Lit.int .i64 m4).wf = true) (u5 : (Lit.int .i64 m5).wf = true)
    (ul : k.length ≤ maxLen) (uw : ∀ n ∈ k, (Lit.int .i64 n).wf = true) (un : c6 = true → k = []) : go_coupletlaw14_CheckOnce b0 n1 n2 n3 n4 n5 b6 b7 l m3 m4 m5 c6 c7 k = some true := by
  unfold go_coupletlaw14_CheckOnce
  rw [awake14, check_Next hl hn, check_Behind hl hn]
  simp only [Option.bind_some]
  by_cases h : ((l.length : Nat) : Int) > 40
  · simp [h]
  by_cases g : ((k.length : Nat) : Int) > 40
  · simp [h, g]
  simp only [h, g, decide_false, cond_false]
  by_cases h0 : nextZ b0 n1 n2 n3 n4 n5 l = 0
  · simp only [h0, if_true, show ((0 : Int) != 0) = false from rfl, cond_false]
    rw [check_Next hl hn]
    simp only [Option.bind_some, check_Next ul un, check_Behind ul un]
    have hs : soundZ n3 n4 n5 l = 0 := by
      unfold nextZ at h0
      by_cases hs : soundZ n3 n4 n5 l = 0
      · exact hs
      · rw [if_pos hs] at h0; exact absurd h0 hs
    obtain ⟨_, _, hr1, hr2, _⟩ := okF_cases (sound_ok hs)
    have again : ∀ (a b c : Int) (q : List Int), soundZ a b c q = 0 → 0 ≤ b → b ≤ 4294967295 → nextZ true c b a b c q = 7 := by
      intro a b c q hs hb1 hb2
      unfold nextZ
      rw [w64 (by omega) (by omega)]
      generalize soundZ a b c q = s at hs
      by_cases h1 : a = 1
      · simp [hs, h1]
      · have : b ≠ b + 1 := by omega
        by_cases h2 : b = 0
        · subst h2; simp [hs, h1]
        · simp [hs, h1, this, h2]
    have h7 := again n3 n4 n5 l hs hr1 hr2
    rw [h7]
    simp only [show ((7 : Int) != 7) = false from rfl, cond_false]
    by_cases g0 : nextZ true n5 n4 m3 m4 m5 k = 0
    · simp only [g0, if_true, show ((0 : Int) != 0) = false from rfl, cond_false, cond_true, Option.bind_some]
      have gs : soundZ m3 m4 m5 k = 0 := by
        unfold nextZ at g0
        by_cases hs : soundZ m3 m4 m5 k = 0
        · exact hs
        · rw [if_pos hs] at g0; exact absurd g0 hs
      obtain ⟨_, _, gr1, gr2, _⟩ := okF_cases (sound_ok gs)
      rw [again m3 m4 m5 k gs gr1 gr2]
      by_cases k1 : m3 = 1
      · simp [ibeq, k1]
      · have k2 : m5 = n5 := by
          unfold nextZ at g0
          rw [gs] at g0
          simp only [ne_eq, not_true_eq_false, if_false, k1] at g0
          by_cases k2 : m5 = n5
          · exact k2
          · simp [k2] at g0
            split at g0 <;> cases g0
        simp [ibeq, k1, k2]
    · simp [ibeq, ibne, g0]
  · simp [ibeq, ibne, h0]

end Go.Proofs
