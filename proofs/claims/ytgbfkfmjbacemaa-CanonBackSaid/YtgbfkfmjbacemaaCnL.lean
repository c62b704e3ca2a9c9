/- The contract of Table.Code. -/
import Derived.Test.YtgbfkfmjbacemaaCnK
namespace Go.Proofs.Ytgbfkfmjbacemaa.Cn
open Go.RowKit Go.Proofs.YtgbfkfmjbacemaaW.PrintWords Go.Proofs.YtgbfkfmjbacemaaW.PrintLast Go.Proofs.YtgbfkfmjbacemaaW.PrintMore Go.Proofs.Ytgbfkfmjbacemaa.PCanonReads Go.Proofs.Ytgbfkfmjbacemaa.Lb
attribute [local go_sem] max2_int min2_int max_two min_two
set_option linter.unusedVariables false
set_option linter.unusedSimpArgs false

/-- a symbol's code and length; 0, 0, if it has none. -/
def codeOf (ls : List Nat) (s : Int) : Nat × Nat := if 0 ≤ s then (CN.code ls s.toNat, ls.getD s.toNat 0) else (0, 0)
theorem code_zero {ls : List Nat} {s : Nat} (h : ls.getD s 0 = 0) : CN.code ls s = 0 := by unfold CN.code; rw [if_pos h]
theorem codes_rd (ls : List Nat) (s : Nat) (h : s < ls.length) : rd (codes ls) (s : Int) = (CN.code ls s : Int) := by simp [rd, codes, h]

set_option maxHeartbeats 1000000 in
set_option maxRecDepth 100000 in
theorem code_calls (g : Nat) (ls : List Nat) (s : Int) (w : World) (hT : IsT w g ls) (hN : ls.length ≤ 288) :
    Calls Try.prog 16 #[.pointer (some ⟨g, 0, none⟩), .int .i64 s] w fun e w' => e = .returned (.tuple #[.int .u32 ((codeOf ls s).1 : Int), .int .i64 ((codeOf ls s).2 : Int)]) ∧ Drawn0 w w' := by
  obtain ⟨A0, A1, c0, c1, q0, q1, _, hC0, hC1, _⟩ := hT.cells
  have HC0 := Aside0.mk hC0
  have HC1 := Aside0.mk hC1
  clear hC0 hC1 hT
  by_cases h0 : s < 0
  · have hr : Aside0 (codeOf ls s = (0, 0)) := ⟨by unfold codeOf; rw [if_neg (by omega)]⟩
    have g1 : decide (s < 0) = true := by simpa using h0
    go_enter Try.func16, Try.ntmps16
    go_wp2
    go_ret2
    exact ⟨by rw [hr.out]; rfl, Drawn0.refl _⟩
  · obtain ⟨s, rfl⟩ := Int.eq_ofNat_of_zero_le (by omega : 0 ≤ s)
    have g1 : decide (((s : Nat) : Int) < 0) = false := by simp only [decide_eq_false_iff_not]; omega
    by_cases h1 : ls.length ≤ s
    · have hr : Aside0 (codeOf ls (s : Int) = (0, 0)) := ⟨by
        have : ls.getD s 0 = 0 := by rw [List.getD_eq_getElem?_getD, List.getElem?_eq_none h1]; rfl
        unfold codeOf
        rw [if_pos (by omega), Int.toNat_natCast, code_zero this, this]⟩
      have g2 : decide ((ls.length : Int) ≤ (s : Int)) = true := by simp; omega
      have g3 : decide (ls.length ≤ s) = true := by simpa using h1
      clear h0
      go_enter Try.func16, Try.ntmps16
      go_wp2
      go_ret2
      exact ⟨by rw [hr.out]; rfl, Drawn0.refl _⟩
    · have hlt : s < ls.length := by omega
      have hd : ls.getD s 0 = ls[s] := by rw [List.getD_eq_getElem?_getD, List.getElem?_eq_getElem hlt, Option.getD_some]
      have hr : Aside0 (codeOf ls (s : Int) = (CN.code ls s, ls[s])) := ⟨by
        unfold codeOf
        rw [if_pos (by omega), Int.toNat_natCast, hd]⟩
      have g2 : decide ((ls.length : Int) ≤ (s : Int)) = false := by simp only [decide_eq_false_iff_not]; omega
      have g3 : decide (ls.length ≤ s) = false := by simpa using h1
      obtain ⟨ad, e1, hx⟩ := Kd.at_int HC0.out (s : Int) (by omega) (by omega)
      cases e1
      rw [Int.toNat_natCast, ints_rd ls s hlt] at hx
      obtain ⟨ad1, e1, hx1⟩ := Kd.at_int HC1.out (s : Int) (by omega) (by omega)
      cases e1
      rw [Int.toNat_natCast, codes_rd ls s hlt] at hx1
      have hz : CN.code ls s = 0 ∨ ls[s] ≠ 0 := by
        by_cases h : ls[s] = 0
        · exact .inl (code_zero (by rw [hd]; exact h))
        · exact .inr h
      have HZ := Aside0.mk hz
      clear h0 hd hz h1
      generalize hL : ls[s] = L at *
      generalize hcc : CN.code ls s = c at *
      clear hL hcc
      by_cases hL0 : L = 0
      · have g4 : ((L : Int) == 0) = true := by simp; omega
        have hc : c = 0 := by rcases HZ.out with h | h; exact h; exact absurd hL0 h
        have HR2 : Aside0 (codeOf ls (s : Int) = (0, 0)) := ⟨by rw [hr.out, hc, hL0]⟩
        clear hL0 hc
        go_enter Try.func16, Try.ntmps16
        go_wp2
        go_ret2
        exact ⟨by rw [HR2.out]; rfl, Drawn0.refl _⟩
      · have g4 : ((L : Int) == 0) = false := by simp; omega
        clear hL0
        go_enter Try.func16, Try.ntmps16
        go_wp2
        go_quiet (fail)
        go_wp2
        go_ret2
        exact ⟨by rw [hr.out]; rfl, ⟨⟨_, rfl⟩⟩⟩
end Go.Proofs.Ytgbfkfmjbacemaa.Cn
