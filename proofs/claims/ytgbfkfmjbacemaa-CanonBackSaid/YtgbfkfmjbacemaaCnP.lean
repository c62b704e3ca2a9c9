/- What is read of a row of bits: a symbol, or the end, or no symbol. -/
import Derived.Test.YtgbfkfmjbacemaaCnO
namespace Go.Proofs.Ytgbfkfmjbacemaa.Cn
open Go.RowKit Go.Proofs.YtgbfkfmjbacemaaW.PrintWords Go.Proofs.YtgbfkfmjbacemaaW.PrintLast Go.Proofs.YtgbfkfmjbacemaaW.PrintMore Go.Proofs.Ytgbfkfmjbacemaa.PCanonReads Go.Proofs.Ytgbfkfmjbacemaa.Lb

/-- the number of bits, the highest one first, behind a number. -/
def val (c : Nat) (l : List Nat) : Nat := l.foldl (fun c b => 2 * c + b) c
theorem val_cons (c b : Nat) (l : List Nat) : val c (b :: l) = val (2 * c + b) l := rfl

theorem nn_fifteen {ls : List Nat} (hb : ∀ x ∈ ls, x ≤ 15) {c : Nat} (h : CN.fin ls 15 ≤ c) : nn ls c 15 := by
  intro l h1 h2
  have := lg_le ls hb ls.length
  obtain rfl : l = 15 := by omega
  exact .inr (by simpa using h)

theorem sy_at {ls : List Nat} {n i : Nat} (h0 : n ≠ 0) (hi : i < CN.cnt ls n) : ∃ s, (sy ls ls.length n).getD i 0 = s ∧ s < ls.length ∧ ls.getD s 0 = n ∧ CN.code ls s = CN.first ls n + i := by
  have hl := sy_cnt ls n
  obtain ⟨s, hget⟩ : ∃ s, (sy ls ls.length n)[i]? = some s := ⟨_, List.getElem?_eq_getElem (by omega)⟩
  have hget2 := hget
  rw [sy_all ls n h0] at hget2
  obtain ⟨h1, h2, h3⟩ := CN.symsOf_get hget2
  refine ⟨s, by rw [List.getD_eq_getElem?_getD, hget, Option.getD_some], h1, h2, ?_⟩
  unfold CN.code
  rw [h2, if_neg h0, h3]

theorem rd1_spec {ls bs : List Nat} (hb : ∀ x ∈ ls, x ≤ 15) (hbs : ∀ b ∈ bs, b ≤ 1) : ∀ (f n c j : Nat), n + f = 17 → n ≤ 15 → c < 2 ^ n → CN.fin ls n ≤ c → j ≤ bs.length →
    (∃ s L, s < ls.length ∧ ls.getD s 0 = L ∧ n < L ∧ rd1 ls bs f j c n = (s, 0, j + (L - n)) ∧ j + (L - n) ≤ bs.length ∧ CN.code ls s = val c ((bs.drop j).take (L - n))) ∨
    (∃ c' n', n ≤ n' ∧ n' ≤ 15 ∧ rd1 ls bs f j c n = (0, 20, bs.length) ∧ bs.length = j + (n' - n) ∧ ¬ nn ls c' n' ∧ c' < 2 ^ n' ∧ CN.fin ls n' ≤ c' ∧ c' = val c (bs.drop j)) ∨
    (∃ c' n', n ≤ n' ∧ n' ≤ 15 ∧ rd1 ls bs f j c n = (0, 34, j + (n' - n)) ∧ j + (n' - n) ≤ bs.length ∧ nn ls c' n' ∧ c' < 2 ^ n' ∧ CN.fin ls n' ≤ c' ∧ c' = val c ((bs.drop j).take (n' - n))) := by
  intro f
  induction f with
  | zero => intro n c j h1 h2; omega
  | succ f ih =>
    intro n c j h1 h2 h3 h4 h5
    by_cases hnn : nn ls c n
    · exact .inr (.inr ⟨c, n, by omega, h2, by rw [rd1_nn hb hnn]; simp, by simpa using h5, hnn, h3, h4, by simp [val]⟩)
    · have hn : n ≤ 14 := by
        rcases Nat.lt_or_ge n 15 with h | h
        · omega
        · exfalso
          obtain rfl : n = 15 := by omega
          exact hnn (nn_fifteen hb h4)
      rw [rd1_go hb hnn]
      by_cases hj : j < bs.length
      · have hget : bs[j]? = some bs[j] := List.getElem?_eq_getElem hj
        have hb1 := hbs _ (List.getElem_mem hj)
        have hdrop : bs.drop j = bs[j] :: bs.drop (j + 1) := List.drop_eq_getElem_cons hj
        rw [hget]
        simp only
        have hF : CN.first ls (n + 1) ≤ 2 * c + bs[j] := by
          rw [CN.first]
          unfold CN.fin at h4
          omega
        by_cases hm : 2 * c + bs[j] < CN.fin ls (n + 1)
        · rw [if_pos hm]
          have hi : 2 * c + bs[j] - CN.first ls (n + 1) < CN.cnt ls (n + 1) := by unfold CN.fin at hm; omega
          obtain ⟨s, hs, hs1, hs2, hs3⟩ := sy_at (by omega) hi
          refine .inl ⟨s, n + 1, hs1, hs2, by omega, by rw [hs]; simp, by omega, ?_⟩
          rw [hs3, hdrop, show n + 1 - n = 0 + 1 by omega, List.take_succ_cons, List.take_zero]
          show _ = 2 * c + bs[j]
          omega
        · rw [if_neg hm]
          have hp : 2 ^ (n + 1) = 2 * 2 ^ n := by rw [Nat.pow_succ, Nat.mul_comm]
          have hfin : CN.fin ls (n + 1) ≤ 2 * c + bs[j] := by omega
          rcases ih (n + 1) (2 * c + bs[j]) (j + 1) (by omega) (by omega) (by omega) hfin hj with ⟨s, L, g1, g2, g3, g4, g5, g6⟩ | ⟨c', n', g1, g2, g3, g4, g5, g6, g7, g8⟩ | ⟨c', n', g1, g2, g3, g4, g5, g6, g7, g8⟩
          · refine .inl ⟨s, L, g1, g2, by omega, by rw [g4]; congr 2; omega, by omega, ?_⟩
            rw [g6, hdrop, show L - n = (L - (n + 1)) + 1 by omega, List.take_succ_cons, val_cons]
          · refine .inr (.inl ⟨c', n', by omega, g2, g3, by omega, g5, g6, g7, ?_⟩)
            rw [g8, hdrop, val_cons]
          · refine .inr (.inr ⟨c', n', by omega, g2, by rw [g3]; congr 2; omega, by omega, g5, g6, g7, ?_⟩)
            rw [g8, hdrop, show n' - n = (n' - (n + 1)) + 1 by omega, List.take_succ_cons, val_cons]
      · obtain rfl : j = bs.length := by omega
        rw [List.getElem?_eq_none (Nat.le_refl _)]
        exact .inr (.inl ⟨c, n, by omega, h2, rfl, by omega, hnn, h3, h4, by simp [val]⟩)

/-- full codes, of two symbols or more: some symbol is there till the end. -/
theorem full_not_nn {ls : List Nat} (hb : ∀ x ∈ ls, x ≤ 15) (hk : CN.kr ls = 32768) {c n : Nat} (hn : n ≤ 15) (hc : c < 2 ^ n) (hf : CN.fin ls n ≤ c) : ¬ nn ls c n := by
  intro h
  have hlg := lg_le ls hb ls.length
  -- behind the longest nothing more comes
  have hS : ∀ l, lg ls ls.length ≤ l → l ≤ 15 → CN.S ls l = 32768 := by
    intro l h1 h2
    have key : ∀ d, l + d ≤ 15 → CN.S ls (l + d) = CN.S ls l := by
      intro d
      induction d with
      | zero => intro _; rfl
      | succ d ih =>
        intro h3
        rw [← Nat.add_assoc, CN.S, ih (by omega)]
        have : CN.cnt ls (l + d + 1) = 0 := by
          unfold CN.cnt
          rw [if_neg (by omega), List.count_eq_zero]
          intro hm
          have := lg_ge ls _ hm
          omega
        rw [this]; simp
    have := key (15 - l) (by omega)
    rw [show l + (15 - l) = 15 by omega, CN.S_kr ls hb, hk] at this
    exact this.symm
  have hfull : ∀ l, lg ls ls.length ≤ l → l ≤ 15 → CN.fin ls l = 2 ^ l := by
    intro l h1 h2
    have h3 := CN.fin_S ls l h2
    rw [hS l h1 h2] at h3
    have e : (32768 : Nat) = 2 ^ l * 2 ^ (15 - l) := by rw [← Nat.pow_add, show l + (15 - l) = 15 by omega]
    rw [e] at h3
    exact Nat.eq_of_mul_eq_mul_right (Nat.pow_pos (by omega)) h3
  rcases Nat.lt_or_ge n (lg ls ls.length) with h1 | h1
  · rcases h (lg ls ls.length) (by omega) (Nat.le_refl _) with h2 | h2
    · -- the longest has a code
      have hpos : 0 < lg ls ls.length := by omega
      have hmem : lg ls ls.length ∈ ls := by
        unfold lg
        rw [List.take_length]
        have : ∀ (l : List Nat) (a : Nat), l.foldl max a = a ∨ l.foldl max a ∈ l := by
          intro l
          induction l with
          | nil => intro a; exact .inl rfl
          | cons y l ih =>
            intro a
            simp only [List.foldl_cons]
            rcases ih (max a y) with h | h
            · rw [h]
              rcases Nat.le_total a y with h2 | h2
              · rw [Nat.max_eq_right h2]; exact .inr (by simp)
              · rw [Nat.max_eq_left h2]; exact .inl rfl
            · exact .inr (by simp [h])
        rcases this ls 0 with h | h
        · unfold lg at hpos; rw [List.take_length] at hpos; omega
        · exact h
      unfold CN.cnt at h2
      rw [if_neg (by omega), List.count_eq_zero] at h2
      exact h2 hmem
    · rw [hfull _ (Nat.le_refl _) hlg] at h2
      have : c * 2 ^ (lg ls ls.length - n) < 2 ^ n * 2 ^ (lg ls ls.length - n) := Nat.mul_lt_mul_of_pos_right hc (Nat.pow_pos (by omega))
      rw [← Nat.pow_add, show n + (lg ls ls.length - n) = lg ls ls.length by omega] at this
      omega
  · rw [hfull n h1 hn] at hf
    omega

/-- where a code isn't done yet it is shorter than the longest. -/
theorem not_nn_lt {ls : List Nat} {c n : Nat} (hf : CN.fin ls n ≤ c) (h : ¬ nn ls c n) : n < lg ls ls.length := by
  rcases Nat.lt_or_ge n (lg ls ls.length) with h1 | h1
  · exact h1
  · exfalso
    refine h fun l h2 h3 => .inr ?_
    obtain rfl : l = n := by omega
    simpa using hf

/-- **WHAT FULL CODES READ.** -/
theorem full_reads {ls bs : List Nat} (hb : ∀ x ∈ ls, x ≤ 15) (hbs : ∀ b ∈ bs, b ≤ 1) (hk : CN.kr ls = 32768) {j : Nat} (hj : j ≤ bs.length) :
    (∃ s, s < ls.length ∧ ls.getD s 0 ≠ 0 ∧ rd1 ls bs 17 j 0 0 = (s, 0, j + ls.getD s 0) ∧ j + ls.getD s 0 ≤ bs.length) ∨
    (rd1 ls bs 17 j 0 0 = (0, 20, bs.length) ∧ bs.length - j < lg ls ls.length) := by
  rcases rd1_spec (ls := ls) (bs := bs) hb hbs 17 0 0 j rfl (by omega) (by simp) (by simp [CN.fin, CN.first, CN.cnt]) hj with ⟨s, L, g1, g2, g3, g4, g5, _⟩ | ⟨c', n', g1, g2, g3, g4, g5, g6, g7, _⟩ | ⟨c', n', g1, g2, g3, g4, g5, g6, g7, _⟩
  · exact .inl ⟨s, g1, by omega, by rw [g4, g2]; simp, by rw [g2]; simpa using g5⟩
  · exact .inr ⟨g3, by have := not_nn_lt g7 g5; omega⟩
  · exact absurd g5 (full_not_nn hb hk g2 g6 g7)
end Go.Proofs.Ytgbfkfmjbacemaa.Cn
