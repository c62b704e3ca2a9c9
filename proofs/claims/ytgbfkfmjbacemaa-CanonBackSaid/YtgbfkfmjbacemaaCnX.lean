/- What was written by codes is read as it (plain lists). -/
import Derived.Test.YtgbfkfmjbacemaaCnV
namespace Go.Proofs.Ytgbfkfmjbacemaa.Cn
open Go.RowKit Go.Proofs.YtgbfkfmjbacemaaW.PrintWords Go.Proofs.YtgbfkfmjbacemaaW.PrintLast Go.Proofs.YtgbfkfmjbacemaaW.PrintMore Go.Proofs.Ytgbfkfmjbacemaa.PCanonReads Go.Proofs.Ytgbfkfmjbacemaa.Lb
set_option linter.unusedVariables false
set_option linter.unusedSimpArgs false

theorem val_take (l : List Nat) (hl : ∀ b ∈ l, b ≤ 1) (n m : Nat) (h1 : n ≤ m) (h2 : m ≤ l.length) : val 0 (l.take m) / 2 ^ (m - n) = val 0 (l.take n) := by
  obtain ⟨d, rfl⟩ : ∃ d, m = n + d := ⟨m - n, by omega⟩
  rw [show n + d - n = d by omega, List.take_add]
  have hlen : ((l.drop n).take d).length = d := by rw [List.length_take, List.length_drop]; omega
  have hlt := val_lt ((l.drop n).take d) (fun b hb => hl b (List.mem_of_mem_drop (List.mem_of_mem_take hb)))
  have e : val 0 (l.take n ++ (l.drop n).take d) = val 0 (l.take n) * 2 ^ d + val 0 ((l.drop n).take d) := by
    have : val 0 (l.take n ++ (l.drop n).take d) = val (val 0 (l.take n)) ((l.drop n).take d) := by unfold val; rw [List.foldl_append]
    rw [this, val_shift, hlen]
  rw [e]
  rw [hlen] at hlt
  rw [Nat.mul_comm, Nat.mul_add_div (Nat.pow_pos (by omega)), Nat.div_eq_of_lt hlt, Nat.add_zero]

theorem rd_back {ls bs : List Nat} (hb : ∀ x ∈ ls, x ≤ 15) (hbs : ∀ b ∈ bs, b ≤ 1) {s j : Nat} (h0 : ls.getD s 0 ≠ 0) (hj : j + ls.getD s 0 ≤ bs.length) (hc : CN.code ls s = val 0 ((bs.drop j).take (ls.getD s 0))) :
    rd1 ls bs 17 j 0 0 = (s, 0, j + ls.getD s 0) := by
  have hX : ∀ b ∈ bs.drop j, b ≤ 1 := fun b h => hbs b (List.mem_of_mem_drop h)
  have hXl : (bs.drop j).length = bs.length - j := List.length_drop
  have hs : s < ls.length := CN.getD_mem h0
  have h15 : ls.getD s 0 ≤ 15 := by rw [List.getD_eq_getElem?_getD, List.getElem?_eq_getElem hs]; exact hb _ (List.getElem_mem hs)
  have hfp := CN.fin_pos_first h0
  have long : ∀ n, ls.getD s 0 ≤ n → n ≤ 15 → j + n ≤ bs.length → ¬ CN.fin ls n ≤ val 0 ((bs.drop j).take n) := by
    intro n h1 h2 h3 h4
    have h5 := val_take (bs.drop j) hX _ n h1 (by omega)
    rw [← hc] at h5
    have hp : 0 < 2 ^ (n - ls.getD s 0) := Nat.pow_pos (by omega)
    have h6 : val 0 ((bs.drop j).take n) < (CN.code ls s + 1) * 2 ^ (n - ls.getD s 0) := by
      rw [← h5, Nat.mul_comm]; exact Nat.lt_mul_div_succ _ hp
    have h7 : (CN.code ls s + 1) * 2 ^ (n - ls.getD s 0) ≤ CN.fin ls (ls.getD s 0) * 2 ^ (n - ls.getD s 0) := Nat.mul_le_mul_right _ hfp.2
    rcases Nat.lt_or_ge (ls.getD s 0) n with h | h
    · have h8 := CN.fin_le_first (ls := ls) h h2
      have h9 : CN.first ls n ≤ CN.fin ls n := by unfold CN.fin; omega
      omega
    · have : n = ls.getD s 0 := by omega
      subst this
      rw [Nat.sub_self, Nat.pow_zero, Nat.mul_one] at h7
      rw [Nat.sub_self, Nat.pow_zero, Nat.mul_one] at h6
      omega
  rcases rd1_spec (ls := ls) (bs := bs) hb hbs 17 0 0 j rfl (by omega) (by simp) (by simp [CN.fin, CN.first, CN.cnt]) (by omega) with ⟨s', L, g1, g2, g3, g4, g5, g6⟩ | ⟨c', n', g1, g2, g3, g4, g5, g6, g7, g8⟩ | ⟨c', n', g1, g2, g3, g4, g5, g6, g7, g8⟩
  · rw [Nat.sub_zero] at g4 g5 g6
    have hss : s = s' := by
      refine Classical.byContradiction fun hne => ?_
      rcases Nat.le_total (ls.getD s 0) (ls.getD s' 0) with h | h
      · have := CN.prefix_free hb h0 hne h
        rw [g2] at this h
        have h5 := val_take (bs.drop j) hX _ L h (by omega)
        rw [← g6, ← hc] at h5
        exact this h5
      · have := CN.prefix_free hb (i := s') (k := s) (by omega) (fun e => hne e.symm) h
        rw [g2] at this h
        have h5 := val_take (bs.drop j) hX _ (ls.getD s 0) h (by omega)
        rw [← g6, ← hc] at h5
        exact this h5
    subst hss
    rw [g4, g2]
  · rw [Nat.sub_zero] at g4
    exfalso
    refine long n' (by omega) g2 (by omega) ?_
    rw [List.take_of_length_le (by omega), ← g8]
    exact g7
  · rw [Nat.sub_zero] at g3 g4 g8
    exfalso
    rcases Nat.lt_or_ge n' (ls.getD s 0) with h | h
    · have := none_bg g5 s hs
      unfold bg at this
      rw [decide_eq_false_iff_not] at this
      refine this ⟨by omega, by omega, ?_⟩
      rw [hc, g8]
      exact val_take (bs.drop j) hX _ _ (by omega) (by omega)
    · refine long n' h g2 g4 ?_
      rw [← g8]
      exact g7

/-- the bits that are written of a symbol. -/
def cw (ls : List Nat) (s : Nat) : List Nat := (lb (CN.code ls s) (ls.getD s 0)).reverse
theorem cw_length (ls : List Nat) (s : Nat) : (cw ls s).length = ls.getD s 0 := by unfold cw; rw [List.length_reverse, lb_length]
theorem cw_val {ls : List Nat} (hb : ∀ x ∈ ls, x ≤ 15) (hk : CN.kr ls ≤ 32768) {s : Nat} (h0 : ls.getD s 0 ≠ 0) : val 0 (cw ls s) = CN.code ls s := by
  unfold cw
  rw [lb_val, Nat.mod_eq_of_lt (CN.code_lt_pow hb hk h0)]

theorem hold_bits {xs B : List Nat} (h : Hold xs B) : ∃ R, bitsOf xs = B ++ R := by
  refine ⟨(bitsOf xs).drop B.length, ?_⟩
  have : (bitsOf xs).take B.length = B := by
    apply List.ext_getElem?
    intro p
    rw [List.getElem?_take]
    split
    · next hp =>
      have := h.2.1
      rw [bitsOf_get xs p (by omega), h.2.2 p (by omega), List.getD_eq_getElem?_getD, List.getElem?_eq_getElem hp]
      rfl
    · next hp => rw [List.getElem?_eq_none (by omega)]
  conv => lhs; rw [← List.take_append_drop B.length (bitsOf xs), this]

/-- **A WORD IS READ BACK.** -/
theorem rd_word {ls xs P R : List Nat} (hb : ∀ x ∈ ls, x ≤ 15) (hk : CN.kr ls ≤ 32768) {s : Nat} (h0 : ls.getD s 0 ≠ 0) (hh : Hold xs (P ++ (cw ls s ++ R))) :
    rd1 ls (bitsOf xs) 17 P.length 0 0 = (s, 0, P.length + ls.getD s 0) := by
  obtain ⟨R2, hR⟩ := hold_bits hh
  refine rd_back hb (bits_le xs) h0 ?_ ?_
  · rw [hR]; simp only [List.length_append, cw_length]; omega
  · rw [hR, List.append_assoc, List.drop_left, List.append_assoc, List.take_left' (cw_length ls s), cw_val hb hk h0]
end Go.Proofs.Ytgbfkfmjbacemaa.Cn
