/- Codes from their lengths, in plain numbers: order, no code the beginning of another one, ranks. -/
namespace Go.Proofs.Ytgbfkfmjbacemaa.CN
/-- how many codes of a length there are. -/
def cnt (ls : List Nat) (l : Nat) : Nat := if l = 0 then 0 else ls.count l
/-- the first code of a length. -/
def first (ls : List Nat) : Nat → Nat
  | 0 => 0
  | l + 1 => (first ls l + cnt ls l) * 2
/-- behind the last code of a length. -/
def fin (ls : List Nat) (l : Nat) : Nat := first ls l + cnt ls l
/-- how many ahead of a symbol are as long. -/
def rank (ls : List Nat) (s : Nat) : Nat := (ls.take s).count (ls.getD s 0)
def code (ls : List Nat) (s : Nat) : Nat := if ls.getD s 0 = 0 then 0 else first ls (ls.getD s 0) + rank ls s
/-- the sum of 1 / 2^l, times 2^15. -/
def kr (ls : List Nat) : Nat := (ls.map fun l => if l = 0 then 0 else 2 ^ (15 - l)).sum
/-- the same up to a length. -/
def S (ls : List Nat) : Nat → Nat
  | 0 => 0
  | l + 1 => S ls l + cnt ls (l + 1) * 2 ^ (15 - (l + 1))

theorem fin_S (ls : List Nat) : ∀ l, l ≤ 15 → fin ls l * 2 ^ (15 - l) = S ls l
  | 0, _ => by simp [fin, first, cnt, S]
  | l + 1, h => by
    have ih := fin_S ls l (by omega)
    have hp : 2 ^ (15 - l) = 2 * 2 ^ (15 - (l + 1)) := by
      rw [show 15 - l = (15 - (l + 1)) + 1 by omega, Nat.pow_succ, Nat.mul_comm]
    rw [hp, ← Nat.mul_assoc] at ih
    rw [fin, first, S, Nat.add_mul, ← ih]
    rfl

theorem S_mono (ls : List Nat) {a b : Nat} (h : a ≤ b) : S ls a ≤ S ls b := by
  induction h with
  | refl => exact Nat.le_refl _
  | step _ ih => exact Nat.le_trans ih (Nat.le_add_right _ _)

theorem S_nil : ∀ l, S [] l = 0
  | 0 => rfl
  | l + 1 => by simp [S, S_nil l, cnt]

theorem S_cons (x : Nat) (ls : List Nat) : ∀ l, l ≤ 15 → S (x :: ls) l = S ls l + if 0 < x ∧ x ≤ l then 2 ^ (15 - x) else 0
  | 0, _ => by
    rw [if_neg (by omega)]; rfl
  | l + 1, h => by
    have key : cnt (x :: ls) (l + 1) = cnt ls (l + 1) + if x = l + 1 then 1 else 0 := by
      simp [cnt, List.count_cons]
    rw [S, S_cons x ls l (by omega), key, S]
    by_cases hx : x = l + 1
    · subst hx
      rw [if_neg (by omega), if_pos rfl, if_pos (by omega), Nat.add_mul, Nat.one_mul]
      omega
    · rw [if_neg hx, Nat.add_zero]
      by_cases h2 : 0 < x ∧ x ≤ l
      · rw [if_pos h2, if_pos (by omega)]
        omega
      · rw [if_neg h2, if_neg (by omega)]
        omega

theorem S_kr (ls : List Nat) (h : ∀ x ∈ ls, x ≤ 15) : S ls 15 = kr ls := by
  induction ls with
  | nil => simp [S_nil, kr]
  | cons x ls ih =>
    rw [S_cons x ls 15 (by omega), ih (fun y hy => h y (by simp [hy]))]
    have := h x (by simp)
    unfold kr
    simp only [List.map_cons, List.sum_cons]
    by_cases hx : x = 0
    · simp [hx]
    · rw [if_pos (by omega), if_neg hx, Nat.add_comm]

theorem getD_mem {ls : List Nat} {s : Nat} (h : ls.getD s 0 ≠ 0) : s < ls.length := by
  rcases Nat.lt_or_ge s ls.length with h1 | h1
  · exact h1
  · rw [List.getD_eq_getElem?_getD, List.getElem?_eq_none h1] at h
    simp at h

theorem rank_lt {ls : List Nat} {s : Nat} (h : s < ls.length) : rank ls s < ls.count (ls.getD s 0) := by
  unfold rank
  have e : ls = ls.take s ++ ls.getD s 0 :: ls.drop (s + 1) := by
    rw [List.getD_eq_getElem?_getD, List.getElem?_eq_getElem h, Option.getD_some, List.getElem_cons_drop, List.take_append_drop]
  generalize ls.getD s 0 = x at e ⊢
  have : ls.count x = (ls.take s).count x + ((ls.drop (s + 1)).count x + 1) := by
    conv => lhs; rw [e]
    rw [List.count_append, List.count_cons_self]
  omega

theorem rank_mono {ls : List Nat} {i k : Nat} (hik : i < k) (hk : k < ls.length) (he : ls.getD i 0 = ls.getD k 0) : rank ls i < rank ls k := by
  unfold rank
  rw [← he]
  have hi : i < ls.length := by omega
  have e : ls.take k = ls.take i ++ ls.getD i 0 :: (ls.take k).drop (i + 1) := by
    have h1 : (ls.take k).take i = ls.take i := by rw [List.take_take, Nat.min_eq_left (by omega)]
    have h2 : (ls.take k)[i]'(by simp; omega) = ls.getD i 0 := by
      rw [List.getElem_take, List.getD_eq_getElem?_getD, List.getElem?_eq_getElem hi, Option.getD_some]
    rw [← h1, ← h2, List.getElem_cons_drop, List.take_append_drop]
  rw [e, List.count_append, List.count_cons_self]
  omega

theorem fin_pos_first {ls : List Nat} {s : Nat} (h : ls.getD s 0 ≠ 0) : first ls (ls.getD s 0) ≤ code ls s ∧ code ls s < fin ls (ls.getD s 0) := by
  have hs := getD_mem h
  have hr := rank_lt hs
  unfold code fin cnt
  rw [if_neg h, if_neg h]
  omega

/-- all codes of a length and those below it stand ahead of longer ones. -/
theorem fin_le_first {ls : List Nat} {a b : Nat} (hab : a < b) (hb : b ≤ 15) : fin ls a * 2 ^ (b - a) ≤ first ls b := by
  obtain ⟨b, rfl⟩ : ∃ c, b = c + 1 := ⟨b - 1, by omega⟩
  have h1 := fin_S ls a (by omega)
  have h2 := fin_S ls b (by omega)
  have h3 := S_mono ls (show a ≤ b by omega)
  rw [← h1, ← h2] at h3
  have e1 : 2 ^ (15 - a) = 2 ^ (b - a) * 2 ^ (15 - b) := by rw [← Nat.pow_add]; congr 1; omega
  rw [e1, ← Nat.mul_assoc] at h3
  have h4 := Nat.le_of_mul_le_mul_right h3 (Nat.pow_pos (by omega))
  have e2 : 2 ^ (b + 1 - a) = 2 ^ (b - a) * 2 := by rw [← Nat.pow_succ]; congr 1; omega
  rw [e2, ← Nat.mul_assoc]
  exact Nat.mul_le_mul_right 2 h4

theorem fin_le_pow {ls : List Nat} (h : ∀ x ∈ ls, x ≤ 15) (hk : kr ls ≤ 32768) {l : Nat} (hl : l ≤ 15) : fin ls l ≤ 2 ^ l := by
  have h1 := fin_S ls l hl
  have h2 := S_mono ls hl
  rw [S_kr ls h, ← h1] at h2
  have e : (2 : Nat) ^ 15 = 2 ^ l * 2 ^ (15 - l) := by rw [← Nat.pow_add]; congr 1; omega
  have e2 : (2 : Nat) ^ 15 = 32768 := by decide
  have h3 : fin ls l * 2 ^ (15 - l) ≤ 2 ^ l * 2 ^ (15 - l) := by
    rw [← e, e2]
    exact Nat.le_trans h2 hk
  exact Nat.le_of_mul_le_mul_right h3 (Nat.pow_pos (Nat.zero_lt_two))

theorem code_lt_pow {ls : List Nat} (h : ∀ x ∈ ls, x ≤ 15) (hk : kr ls ≤ 32768) {s : Nat} (hs : ls.getD s 0 ≠ 0) : code ls s < 2 ^ (ls.getD s 0) := by
  have h1 := fin_pos_first hs
  have hm : ls.getD s 0 ≤ 15 := by
    have hl := getD_mem hs
    rw [List.getD_eq_getElem?_getD, List.getElem?_eq_getElem hl, Option.getD_some]
    exact h _ (List.getElem_mem hl)
  have := fin_le_pow h hk hm
  omega

/-- shorter ones first, of one length by their symbols. -/
theorem code_order {ls : List Nat} (h : ∀ x ∈ ls, x ≤ 15) {i k : Nat} (hi : ls.getD i 0 ≠ 0) (hk : ls.getD k 0 ≠ 0)
    (hlt : ls.getD i 0 < ls.getD k 0 ∨ ls.getD i 0 = ls.getD k 0 ∧ i < k) : code ls i * 2 ^ (15 - ls.getD i 0) < code ls k * 2 ^ (15 - ls.getD k 0) := by
  have h1 := fin_pos_first hi
  have h2 := fin_pos_first hk
  have hm : ls.getD k 0 ≤ 15 := by
    have hl := getD_mem hk
    rw [List.getD_eq_getElem?_getD, List.getElem?_eq_getElem hl, Option.getD_some]
    exact h _ (List.getElem_mem hl)
  rcases hlt with hlt | ⟨he, hlt⟩
  · have h3 := fin_le_first (ls := ls) hlt hm
    have e1 : 2 ^ (15 - ls.getD i 0) = 2 ^ (ls.getD k 0 - ls.getD i 0) * 2 ^ (15 - ls.getD k 0) := by rw [← Nat.pow_add]; congr 1; omega
    rw [e1, ← Nat.mul_assoc]
    refine Nat.mul_lt_mul_of_pos_right ?_ (Nat.pow_pos (by omega))
    refine Nat.lt_of_lt_of_le ?_ (Nat.le_trans h3 h2.1)
    exact Nat.mul_lt_mul_of_pos_right h1.2 (Nat.pow_pos (by omega))
  · rw [he]
    refine Nat.mul_lt_mul_of_pos_right ?_ (Nat.pow_pos (by omega))
    unfold code
    rw [if_neg hi, if_neg hk, he]
    have := rank_mono hlt (getD_mem hk) he
    omega

/-- no code is the beginning of another one. -/
theorem prefix_free {ls : List Nat} (h : ∀ x ∈ ls, x ≤ 15) {i k : Nat} (hi : ls.getD i 0 ≠ 0) (hne : i ≠ k) (hle : ls.getD i 0 ≤ ls.getD k 0) :
    code ls k / 2 ^ (ls.getD k 0 - ls.getD i 0) ≠ code ls i := by
  have hk : ls.getD k 0 ≠ 0 := by omega
  have h1 := fin_pos_first hi
  have h2 := fin_pos_first hk
  have hm : ls.getD k 0 ≤ 15 := by
    have hl := getD_mem hk
    rw [List.getD_eq_getElem?_getD, List.getElem?_eq_getElem hl, Option.getD_some]
    exact h _ (List.getElem_mem hl)
  rcases Nat.lt_or_ge (ls.getD i 0) (ls.getD k 0) with hlt | hge
  · have h3 := fin_le_first (ls := ls) hlt hm
    have : fin ls (ls.getD i 0) ≤ code ls k / 2 ^ (ls.getD k 0 - ls.getD i 0) := by
      rw [Nat.le_div_iff_mul_le (Nat.pow_pos (by omega))]
      omega
    omega
  · have he : ls.getD i 0 = ls.getD k 0 := by omega
    rw [he, Nat.sub_self, Nat.pow_zero, Nat.div_one]
    unfold code
    rw [if_neg hi, if_neg hk, he]
    rcases Nat.lt_or_gt_of_ne hne with hlt | hgt
    · have := rank_mono hlt (getD_mem hk) he
      omega
    · have := rank_mono hgt (getD_mem hi) he.symm
      omega

/-- the symbols of a length, in order. -/
def symsOf (ls : List Nat) (l : Nat) : List Nat := (List.range ls.length).filter fun s => ls.getD s 0 == l

theorem symsOf_rank_aux (ls : List Nat) (l : Nat) : ∀ s, s ≤ ls.length → ((List.range s).filter fun s => ls.getD s 0 == l).length = (ls.take s).count l
  | 0, _ => by simp
  | s + 1, h => by
    rw [List.range_succ, List.filter_append, List.length_append, symsOf_rank_aux ls l s (by omega), List.take_succ_eq_append_getElem (by omega), List.count_append]
    have e : ls.getD s 0 = ls[s] := by rw [List.getD_eq_getElem?_getD, List.getElem?_eq_getElem (by omega), Option.getD_some]
    by_cases hx : ls[s] = l
    · simp only [List.filter_cons, e, List.count_cons]; simp [hx]
    · simp only [List.filter_cons, e, List.count_cons]; simp [hx]

theorem symsOf_length (ls : List Nat) (l : Nat) : (symsOf ls l).length = ls.count l := by
  rw [symsOf, symsOf_rank_aux ls l ls.length (Nat.le_refl _), List.take_length]

theorem symsOf_rank {ls : List Nat} {s : Nat} (h : s < ls.length) : (symsOf ls (ls.getD s 0))[rank ls s]? = some s := by
  unfold symsOf rank
  have e := symsOf_rank_aux ls (ls.getD s 0) s (by omega)
  have hr : List.range ls.length = List.range s ++ s :: (List.range' (s + 1) (ls.length - (s + 1))) := by
    rw [List.range_eq_range', List.range_eq_range']
    have : ls.length = s + (1 + (ls.length - (s + 1))) := by omega
    conv => lhs; rw [this]
    rw [← List.range'_append_1, ← List.range'_append_1]
    simp
  rw [hr, List.filter_append, List.getElem?_append_right (by omega), e, Nat.sub_self]
  simp

theorem symsOf_get {ls : List Nat} {l i : Nat} {s : Nat} (h : (symsOf ls l)[i]? = some s) : s < ls.length ∧ ls.getD s 0 = l ∧ rank ls s = i := by
  have hm := List.mem_of_getElem? h
  unfold symsOf at hm
  rw [List.mem_filter, List.mem_range] at hm
  have hl : ls.getD s 0 = l := by simpa using hm.2
  refine ⟨hm.1, hl, ?_⟩
  have h2 := symsOf_rank hm.1
  rw [hl] at h2
  have hnd : (symsOf ls l).Nodup := List.Pairwise.filter _ List.nodup_range
  have hi := (List.getElem?_eq_some_iff.1 h).1
  have hj := (List.getElem?_eq_some_iff.1 h2).1
  have hp := List.pairwise_iff_getElem.1 hnd
  rcases Nat.lt_trichotomy (rank ls s) i with hlt | he | hgt
  · exact absurd ((List.getElem?_eq_some_iff.1 h2).2.trans (List.getElem?_eq_some_iff.1 h).2.symm) (hp _ _ hj hi hlt)
  · exact he
  · exact absurd ((List.getElem?_eq_some_iff.1 h).2.trans (List.getElem?_eq_some_iff.1 h2).2.symm) (hp _ _ hi hj hgt)
end Go.Proofs.Ytgbfkfmjbacemaa.CN
