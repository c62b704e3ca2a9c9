/- What the document's functions of layer 10 answer (the printed functions, in plain lists): Right, Sum, Codes, Bits, Put, Code, Same, begins. -/
import Derived.Test.YtgbfkfmjbacemaaCnQ
import Derived.Test.YtgbfkfmjbacemaaCnRd
namespace Go.Proofs.Ytgbfkfmjbacemaa.Cn
open Go.RowKit Go.Proofs.YtgbfkfmjbacemaaW.PrintWords Go.Proofs.YtgbfkfmjbacemaaW.PrintLast Go.Proofs.YtgbfkfmjbacemaaW.PrintMore Go.Proofs.Ytgbfkfmjbacemaa.PCanonReads Go.Proofs.Ytgbfkfmjbacemaa.Lb
set_option linter.unusedVariables false
set_option linter.unusedSimpArgs false

/-- at every fuel that is great enough. -/
def Ev {α : Type} (F : Nat → Option α) (r : α) : Prop := ∃ k0, ∀ k, k0 ≤ k → F k = some r
theorem Ev.done {α : Type} {F : Nat → Option α} {r : α} (h : ∀ k, F (k + 1) = some r) : Ev F r :=
  ⟨1, fun k hk => by obtain ⟨k, rfl⟩ : ∃ k', k = k' + 1 := ⟨k - 1, by omega⟩; exact h k⟩
theorem Ev.step {α : Type} {F G : Nat → Option α} {r : α} (hg : Ev G r) (h : ∀ k, F (k + 1) = G k) : Ev F r := by
  obtain ⟨k0, h0⟩ := hg
  exact ⟨k0 + 1, fun k hk => by obtain ⟨k, rfl⟩ : ∃ k', k = k' + 1 := ⟨k - 1, by omega⟩; rw [h]; exact h0 k (by omega)⟩
theorem Ev.bind {α β : Type} {F : Nat → Option α} {G : α → Nat → Option β} {a : α} {r : β} (h1 : Ev F a) (h2 : Ev (G a) r) : Ev (fun k => (F k).bind fun x => G x k) r := by
  obtain ⟨k1, h1⟩ := h1
  obtain ⟨k2, h2⟩ := h2
  exact ⟨max k1 k2, fun k hk => by simp only [h1 k (by omega), Option.bind_some]; exact h2 k (by omega)⟩
theorem Ev.of_eq {α : Type} {F G : Nat → Option α} {r : α} (hg : Ev G r) (h : ∀ k, F k = G k) : Ev F r := by
  obtain ⟨k0, h0⟩ := hg
  exact ⟨k0, fun k hk => by rw [h]; exact h0 k hk⟩
theorem Ev.pure {α : Type} {F : Nat → Option α} {r : α} (h : ∀ k, F k = some r) : Ev F r := ⟨0, fun k _ => h k⟩

theorem wn (i : Nat) (h : i < 1000000000) : wrap64 ((i : Int) + 1) = ((i + 1 : Nat) : Int) := by rw [wrap_small _ (by omega) (by omega)]; omega
theorem rd_get (l : List Int) (i : Nat) (h : i < l.length) : rd l (i : Int) = l[i] := by simp [rd, h]

/-! Right, Sum -/
theorem right_ev (l0 : List Int) (hl : l0.length ≤ 288) : ∀ d i, l0.length = i + d → Ev (fun k => footlockerref09_Right.l0 k l0 (i : Int)) (!(l0.drop i).any bad) := by
  intro d
  induction d with
  | zero =>
    intro i h1
    refine Ev.done fun k => ?_
    simp only [footlockerref09_Right.l0]
    rw [if_neg (by omega), List.drop_of_length_le (by omega)]
    simp
    omega
  | succ d ih =>
    intro i h1
    have hlt : i < l0.length := by omega
    have hx := rd_get l0 i hlt
    have hd := List.drop_eq_getElem_cons hlt
    have c1 : (i : Int) < (l0.length : Int) := by omega
    have c2 : 0 ≤ (i : Int) := by omega
    by_cases hn : rd l0 (i : Int) < 0
    · refine Ev.done fun k => ?_
      simp only [footlockerref09_Right.l0]
      rw [if_pos c1, if_pos c2, if_pos hn, hd, List.any_cons]
      have : bad l0[i] = true := by unfold bad; rw [← hx]; simp [hn]
      rw [this]; rfl
    · by_cases hg : rd l0 (i : Int) > 15
      · refine Ev.done fun k => ?_
        simp only [footlockerref09_Right.l0]
        rw [if_pos c1, if_pos c2, if_neg hn, if_pos hg, hd, List.any_cons]
        have : bad l0[i] = true := by unfold bad; rw [← hx]; simp; omega
        rw [this]; rfl
      · have hb : bad l0[i] = false := by unfold bad; rw [← hx]; simp; omega
        rw [hd, List.any_cons, hb, Bool.false_or]
        refine Ev.step (ih (i + 1) (by omega)) fun k => ?_
        simp only [footlockerref09_Right.l0]
        rw [if_pos c1, if_pos c2, if_neg hn, if_neg hg, wn i (by omega)]

theorem shr_fit (x : Nat) (h : x ≤ 15) : shr .i64 32768 (x : Int) = ((2 ^ (15 - x) : Nat) : Int) := by
  have : ∀ y : Fin 16, shr .i64 32768 ((y.val : Nat) : Int) = ((2 ^ (15 - y.val) : Nat) : Int) := by decide
  exact this ⟨x, by omega⟩

theorem sum_ev (ls : List Nat) (hb : ∀ x ∈ ls, x ≤ 15) (hl : ls.length ≤ 288) : ∀ d i t, ls.length = i + d → t + CN.kr (ls.drop i) ≤ 10000000 → Ev (fun k => footlockerref09_Sum.l0 k (ints ls) ((t : Nat) : Int) (i : Int)) (((t + CN.kr (ls.drop i) : Nat)) : Int) := by
  intro d
  induction d with
  | zero =>
    intro i t h1 h2
    refine Ev.done fun k => ?_
    simp only [footlockerref09_Sum.l0]
    rw [if_neg (by rw [ints_length]; omega), List.drop_of_length_le (by omega)]
    simp [CN.kr]
  | succ d ih =>
    intro i t h1 h2
    have hlt : i < ls.length := by omega
    have hx := ints_rd ls i hlt
    have hd := List.drop_eq_getElem_cons hlt
    have h15 := hb _ (List.getElem_mem hlt)
    rw [hd, kr_cons] at h2 ⊢
    generalize ls[i] = x at *
    have c1 : (i : Int) < ((ints ls).length : Int) := by rw [ints_length]; omega
    have c2 : 0 ≤ (i : Int) := by omega
    by_cases hz : x = 0
    · have c3 : ¬ rd (ints ls) (i : Int) > 0 := by rw [hx]; omega
      rw [if_pos hz] at h2 ⊢
      rw [Nat.zero_add] at h2 ⊢
      refine Ev.step (ih (i + 1) t (by omega) h2) fun k => ?_
      simp only [footlockerref09_Sum.l0]
      rw [if_pos c1, if_pos c2, if_neg c3, wn i (by omega)]
    · have c3 : rd (ints ls) (i : Int) > 0 := by rw [hx]; omega
      have c4 : 0 ≤ rd (ints ls) (i : Int) := by rw [hx]; omega
      rw [if_neg hz] at h2 ⊢
      have e : wrap64 ((t : Int) + shr .i64 32768 (rd (ints ls) (i : Int))) = ((t + 2 ^ (15 - x) : Nat) : Int) := by
        rw [hx, shr_fit x h15]
        generalize 2 ^ (15 - x) = p at *
        rw [wrap_small _ (by omega) (by omega)]; omega
      rw [← Nat.add_assoc] at h2 ⊢
      refine Ev.step (ih (i + 1) (t + 2 ^ (15 - x)) (by omega) h2) fun k => ?_
      simp only [footlockerref09_Sum.l0]
      rw [if_pos c1, if_pos c2, if_pos c3, if_pos c4, e, wn i (by omega)]

/-! Codes -/
def outAt (ls : List Nat) (l s : Nat) : List Int := (List.range ls.length).map fun j => if ls.getD j 0 ≠ 0 ∧ (ls.getD j 0 < l ∨ (ls.getD j 0 = l ∧ j < s)) then (CN.code ls j : Int) else 0
theorem outAt_length (ls : List Nat) (l s : Nat) : (outAt ls l s).length = ls.length := by simp [outAt]
theorem outAt_next (ls : List Nat) (l : Nat) : outAt ls l ls.length = outAt ls (l + 1) 0 := by
  unfold outAt
  apply List.map_congr_left
  intro j hj
  have := List.mem_range.1 hj
  by_cases h : ls.getD j 0 ≠ 0 ∧ (ls.getD j 0 < l ∨ (ls.getD j 0 = l ∧ j < ls.length))
  · rw [if_pos h, if_pos ⟨h.1, by omega⟩]
  · rw [if_neg h, if_neg (by omega)]
theorem outAt_first (ls : List Nat) : outAt ls 1 0 = List.replicate ls.length 0 := by
  apply List.ext_getElem (by simp [outAt])
  intro j h1 h2
  simp only [outAt, List.getElem_map, List.getElem_range, List.getElem_replicate]
  rw [if_neg (by omega)]
theorem outAt_last (ls : List Nat) (hb : ∀ x ∈ ls, x ≤ 15) : outAt ls 16 0 = codes ls := by
  unfold outAt codes
  apply List.map_congr_left
  intro j hj
  have hj := List.mem_range.1 hj
  have h15 : ls.getD j 0 ≤ 15 := by rw [List.getD_eq_getElem?_getD, List.getElem?_eq_getElem hj]; exact hb _ (List.getElem_mem hj)
  by_cases h : ls.getD j 0 = 0
  · rw [if_neg (by omega), code_zero h]; rfl
  · rw [if_pos ⟨h, by omega⟩]
theorem outAt_skip (ls : List Nat) (l s : Nat) (hs : ls.getD s 0 ≠ l) : outAt ls l (s + 1) = outAt ls l s := by
  unfold outAt
  apply List.map_congr_left
  intro j hj
  by_cases e : j = s
  · subst e
    by_cases h : ls.getD j 0 ≠ 0 ∧ (ls.getD j 0 < l ∨ (ls.getD j 0 = l ∧ j < j))
    · rw [if_pos h, if_pos ⟨h.1, by omega⟩]
    · rw [if_neg h, if_neg (by omega)]
  · by_cases h : ls.getD j 0 ≠ 0 ∧ (ls.getD j 0 < l ∨ (ls.getD j 0 = l ∧ j < s))
    · rw [if_pos h, if_pos ⟨h.1, by omega⟩]
    · rw [if_neg h, if_neg (by omega)]
theorem outAt_set (ls : List Nat) (l s : Nat) (hl : l ≠ 0) (hs : ls.getD s 0 = l) : (outAt ls l s).set s (CN.code ls s : Int) = outAt ls l (s + 1) := by
  apply List.ext_getElem (by simp [outAt])
  intro j h1 h2
  rw [List.getElem_set]
  simp only [outAt, List.getElem_map, List.getElem_range]
  by_cases e : s = j
  · subst e
    rw [if_pos rfl, if_pos ⟨by omega, by omega⟩]
  · rw [if_neg e]
    by_cases h : ls.getD j 0 ≠ 0 ∧ (ls.getD j 0 < l ∨ (ls.getD j 0 = l ∧ j < s))
    · rw [if_pos h, if_pos ⟨h.1, by omega⟩]
    · rw [if_neg h, if_neg (by omega)]

theorem cnt_take (ls : List Nat) (l s : Nat) (hl : l ≠ 0) : (ls.take s).count l ≤ CN.cnt ls l := by
  unfold CN.cnt
  rw [if_neg hl]
  exact (List.take_sublist s ls).count_le l

theorem codes_l2 (ls : List Nat) (hb : ∀ x ∈ ls, x ≤ 15) (hk : CN.kr ls ≤ 32768) (hn : ls.length ≤ 288) (l : Nat) (hl : l ≠ 0) (hl15 : l ≤ 15) (r : List Int × Int)
    (hr : Ev (fun k => footlockerref10_Codes.l1 k (ints ls) (outAt ls (l + 1) 0) ((CN.fin ls l : Nat) : Int) ((l + 1 : Nat) : Int)) r) :
    ∀ d s, ls.length = s + d → Ev (fun k => footlockerref10_Codes.l2 k (ints ls) (outAt ls l s) ((CN.first ls l + (ls.take s).count l : Nat) : Int) (l : Int) (s : Int)) r := by
  have hfin := CN.fin_le_pow hb hk hl15
  have h2 : 2 ^ l ≤ 2 ^ 15 := Nat.pow_le_pow_right (by omega) hl15
  have hf : CN.fin ls l ≤ 32768 := Nat.le_trans hfin h2
  clear hfin h2
  intro d
  induction d with
  | zero =>
    intro s h1
    refine Ev.step hr fun k => ?_
    simp only [footlockerref10_Codes.l2]
    rw [if_neg (by rw [ints_length]; omega), wn l (by omega)]
    have : s = ls.length := by omega
    subst this
    have ef : CN.fin ls l = CN.first ls l + ls.count l := by unfold CN.fin CN.cnt; rw [if_neg hl]
    rw [outAt_next, List.take_length, ef]
  | succ d ih =>
    intro s h1
    have hlt : s < ls.length := by omega
    have hx := ints_rd ls s hlt
    have hd : ls.getD s 0 = ls[s] := by rw [List.getD_eq_getElem?_getD, List.getElem?_eq_getElem hlt, Option.getD_some]
    have c1 : (s : Int) < ((ints ls).length : Int) := by rw [ints_length]; omega
    have c2 : 0 ≤ (s : Int) := by omega
    have hc := cnt_take ls l s hl
    have hc1 := cnt_take ls l (s + 1) hl
    have htk : (ls.take (s + 1)).count l = (ls.take s).count l + if ls[s] = l then 1 else 0 := by
      rw [List.take_succ_eq_append_getElem hlt, List.count_append]
      by_cases h : ls[s] = l <;> simp [h]
    unfold CN.fin at hf
    have ih2 := ih (s + 1) (by omega)
    rw [htk] at ih2
    by_cases he : ls[s] = l
    · have c3 : rd (ints ls) (s : Int) = (l : Int) := by rw [hx, he]
      have c4 : (s : Int) < ((outAt ls l s).length : Int) := by rw [outAt_length]; omega
      rw [if_pos he] at ih2 htk
      have e1 : ((CN.first ls l + (ls.take s).count l : Nat) : Int) = (CN.code ls s : Int) := by
        unfold CN.code CN.rank
        rw [hd, if_neg (by omega), he]
      have e2 : (((CN.first ls l + (ls.take s).count l : Nat) : Int) + 1) % 4294967296 = ((CN.first ls l + ((ls.take s).count l + 1) : Nat) : Int) := by
        rw [htk] at hc1
        omega
      refine Ev.step ih2 fun k => ?_
      simp only [footlockerref10_Codes.l2]
      rw [if_pos c1, if_pos c2, if_pos c3, if_pos c4, e2, wn s (by omega), Int.toNat_natCast, e1, outAt_set ls l s hl (by rw [hd, he])]
    · have c3 : ¬ rd (ints ls) (s : Int) = (l : Int) := by rw [hx]; omega
      rw [if_neg he, Nat.add_zero, outAt_skip ls l s (by rw [hd]; exact he)] at ih2
      refine Ev.step ih2 fun k => ?_
      simp only [footlockerref10_Codes.l2]
      rw [if_pos c1, if_pos c2, if_neg c3, wn s (by omega)]
      rfl

theorem codes_l1 (ls : List Nat) (hb : ∀ x ∈ ls, x ≤ 15) (hk : CN.kr ls ≤ 32768) (hn : ls.length ≤ 288) :
    ∀ d l, 15 = l + d → Ev (fun k => footlockerref10_Codes.l1 k (ints ls) (outAt ls (l + 1) 0) ((CN.fin ls l : Nat) : Int) ((l + 1 : Nat) : Int)) (codes ls, 0) := by
  intro d
  induction d with
  | zero =>
    intro l h1
    obtain rfl : l = 15 := by omega
    refine Ev.done fun k => ?_
    simp only [footlockerref10_Codes.l1]
    rw [if_neg (by omega), outAt_last ls hb]
  | succ d ih =>
    intro l h1
    have hfin := CN.fin_le_pow hb hk (l := l) (by omega)
    have h2 : 2 ^ l ≤ 2 ^ 15 := Nat.pow_le_pow_right (by omega) (by omega)
    have hf : CN.fin ls l ≤ 32768 := Nat.le_trans hfin h2
    clear hfin h2
    have e : (2 * ((CN.fin ls l : Nat) : Int)) % 4294967296 = ((CN.first ls (l + 1) + (ls.take 0).count (l + 1) : Nat) : Int) := by
      rw [CN.first]
      unfold CN.fin at hf ⊢
      simp only [List.take_zero, List.count_nil]
      omega
    have := codes_l2 ls hb hk hn (l + 1) (by omega) (by omega) _ (ih (l + 1) (by omega)) ls.length 0 (by omega)
    refine Ev.step this fun k => ?_
    simp only [footlockerref10_Codes.l1]
    rw [if_pos (by omega), e]
    rfl

theorem codes_used (ls : List Nat) (hn : ls.length ≤ 288) (t : Int) (r : List Int × Int)
    (hr : Ev (fun k => footlockerref10_Codes.l0 k (ints ls) t ((used ls : Nat) : Int) ((ls.length : Nat) : Int)) r) :
    ∀ d i, ls.length = i + d → Ev (fun k => footlockerref10_Codes.l0 k (ints ls) t ((used (ls.take i) : Nat) : Int) (i : Int)) r := by
  intro d
  induction d with
  | zero =>
    intro i h1
    obtain rfl : i = ls.length := by omega
    rw [List.take_length]
    exact hr
  | succ d ih =>
    intro i h1
    have hlt : i < ls.length := by omega
    have hx := ints_rd ls i hlt
    have c1 : (i : Int) < ((ints ls).length : Int) := by rw [ints_length]; omega
    have c2 : 0 ≤ (i : Int) := by omega
    have hu := used_succ ls i hlt
    have hub : used (ls.take i) ≤ 288 := by
      unfold used
      exact Nat.le_trans (List.countP_le_length) (by rw [List.length_take]; omega)
    have ih2 := ih (i + 1) (by omega)
    rw [hu] at ih2
    by_cases h0 : 0 < ls[i]
    · have c3 : rd (ints ls) (i : Int) > 0 := by rw [hx]; omega
      rw [if_pos h0] at ih2
      refine Ev.step ih2 fun k => ?_
      simp only [footlockerref10_Codes.l0]
      rw [if_pos c1, if_pos c2, if_pos c3, wn i (by omega), wn _ (by omega)]
    · have c3 : ¬ rd (ints ls) (i : Int) > 0 := by rw [hx]; omega
      rw [if_neg h0, Nat.add_zero] at ih2
      refine Ev.step ih2 fun k => ?_
      simp only [footlockerref10_Codes.l0]
      rw [if_pos c1, if_pos c2, if_neg c3, wn i (by omega)]

theorem codes_j1_bad (l0 : List Int) : Ev (fun k => footlockerref10_Codes.j1 k l0 true) (([] : List Int), 31) := Ev.done fun k => by
  simp only [footlockerref10_Codes.j1]
  rw [if_pos trivial]
theorem codes_j1_good (ls : List Nat) (hb : ∀ x ∈ ls, x ≤ 15) (hk : CN.kr ls ≤ 32768) (hn : ls.length ≤ 288) : Ev (fun k => footlockerref10_Codes.j1 k (ints ls) false) (codes ls, 0) := by
  refine Ev.step (codes_l1 ls hb hk hn 15 0 rfl) fun k => ?_
  simp only [footlockerref10_Codes.j1]
  rw [if_neg (by decide), if_pos (by omega), Int.toNat_natCast, if_pos (by rw [ints_length]; omega), ints_length, Nat.zero_add, outAt_first]
  rfl

theorem ref_codes_bad (l0 : List Int) (hl : l0.length ≤ 288) (hbad : l0.any bad = true) : Ev (fun k => footlockerref10_Codes.f k l0) (([] : List Int), 1) := by
  have h1 := right_ev l0 hl l0.length 0 (by omega)
  rw [List.drop_zero, hbad] at h1
  unfold footlockerref10_Codes.f footlockerref09_Right.f
  refine Ev.bind h1 (Ev.pure fun k => ?_)
  rfl

theorem ref_codes (ls : List Nat) (hb : ∀ x ∈ ls, x ≤ 15) (hn : ls.length ≤ 288) : Ev (fun k => footlockerref10_Codes.f k (ints ls)) (if chk ls = 0 then (codes ls, 0) else (([] : List Int), chk ls)) := by
  have hnb : (ints ls).any bad = false := by
    rw [ints_any, List.any_eq_false]
    intro x hx
    have := hb x hx
    simp; omega
  have h1 := right_ev (ints ls) (by rw [ints_length]; exact hn) (ints ls).length 0 (by omega)
  rw [List.drop_zero, hnb] at h1
  have hkl := kr_le ls
  have h2 := sum_ev ls hb hn ls.length 0 0 (by omega) (by rw [List.drop_zero]; omega)
  rw [List.drop_zero, Nat.zero_add] at h2
  unfold footlockerref10_Codes.f footlockerref09_Right.f
  refine Ev.bind h1 ?_
  refine Ev.of_eq (G := fun k => (footlockerref09_Sum.f k (ints ls)).bind fun t116 => (if t116 > 32768 then (some (([] : List Int), 30)) else (footlockerref10_Codes.l0 k (ints ls) t116 0 0))) ?_ (fun k => by rw [if_pos (by rfl)])
  unfold footlockerref09_Sum.f
  refine Ev.bind h2 ?_
  by_cases hk : CN.kr ls ≤ 32768
  · have hchk : chk ls = if CN.kr ls = 32768 ∨ used ls = 0 ∨ (used ls = 1 ∧ CN.kr ls = 16384) then 0 else 31 := by unfold chk; rw [if_pos hk]
    refine Ev.of_eq (G := fun k => footlockerref10_Codes.l0 k (ints ls) ((CN.kr ls : Nat) : Int) 0 0) ?_ (fun k => by rw [if_neg (by omega)])
    have := codes_used ls hn ((CN.kr ls : Nat) : Int) (if chk ls = 0 then (codes ls, 0) else (([] : List Int), chk ls)) ?_ ls.length 0 (by omega)
    · simpa [used] using this
    · have c1 : ¬ (((ls.length : Nat) : Int) < ((ints ls).length : Int)) := by rw [ints_length]; omega
      by_cases a1 : CN.kr ls = 32768
      · have hc : chk ls = 0 := by rw [hchk, if_pos (.inl a1)]
        rw [if_pos hc]
        refine Ev.step (codes_j1_good ls hb hk hn) fun k => ?_
        simp only [footlockerref10_Codes.l0]
        rw [if_neg c1, if_neg (by omega)]
      · by_cases a2 : used ls = 0
        · have hc : chk ls = 0 := by rw [hchk, if_pos (.inr (.inl a2))]
          rw [if_pos hc]
          refine Ev.step (codes_j1_good ls hb hk hn) fun k => ?_
          simp only [footlockerref10_Codes.l0]
          rw [if_neg c1, if_pos (by omega), if_neg (by omega)]
        · by_cases a3 : used ls = 1
          · by_cases a4 : CN.kr ls = 16384
            · have hc : chk ls = 0 := by rw [hchk, if_pos (.inr (.inr ⟨a3, a4⟩))]
              rw [if_pos hc]
              refine Ev.step (codes_j1_good ls hb hk hn) fun k => ?_
              simp only [footlockerref10_Codes.l0]
              rw [if_neg c1, if_pos (by omega), if_pos (by omega), if_pos (by omega), show (!(((CN.kr ls : Nat) : Int) == 16384)) = false by rw [a4]; rfl]
            · have hc : chk ls = 31 := by rw [hchk, if_neg (by omega)]
              rw [hc, if_neg (by decide)]
              refine Ev.step (codes_j1_bad (ints ls)) fun k => ?_
              simp only [footlockerref10_Codes.l0]
              rw [if_neg c1, if_pos (by omega), if_pos (by omega), if_pos (by omega), show (!(((CN.kr ls : Nat) : Int) == 16384)) = true by simp; omega]
          · have hc : chk ls = 31 := by rw [hchk, if_neg (by omega)]
            rw [hc, if_neg (by decide)]
            refine Ev.step (codes_j1_bad (ints ls)) fun k => ?_
            simp only [footlockerref10_Codes.l0]
            rw [if_neg c1, if_pos (by omega), if_pos (by omega), if_neg (by omega)]
            rfl
  · have hchk : chk ls = 30 := by unfold chk; rw [if_neg hk]
    rw [hchk, if_neg (by decide)]
    exact Ev.pure fun k => by rw [if_pos (by omega)]

/-! Bits -/
theorem tm2 (x : Nat) : Int.tmod (x : Int) 2 = ((x % 2 : Nat) : Int) := by
  have := Int.ofNat_tmod x 2
  exact this.symm
theorem td2 (x : Nat) : Int.tdiv (x : Int) 2 = ((x / 2 : Nat) : Int) := by
  have := Int.ofNat_tdiv x 2
  exact this.symm
theorem ints_append (a b : List Nat) : ints (a ++ b) = ints a ++ ints b := by simp [ints]
theorem lb_succ (x j : Nat) : ((List.range (j + 1)).map fun i => x / 2 ^ i % 2) = ((List.range j).map fun i => x / 2 ^ i % 2) ++ [x / 2 ^ j % 2] := by
  rw [List.range_succ, List.map_append]; rfl

theorem bits_l1 (bs : List Nat) (acc : List Nat) (i x : Nat) (hi : i < 1000000) (hx : x < 256) (ha : acc.length ≤ 1000000000) (r : List Int)
    (hr : Ev (fun k => footlockerref08_Bits.l0 k (ints bs) (ints (acc ++ (List.range 8).map fun i => x / 2 ^ i % 2)) ((i + 1 : Nat) : Int)) r) :
    ∀ d j, 8 = j + d → Ev (fun k => footlockerref08_Bits.l1 k (ints bs) (ints (acc ++ (List.range j).map fun i => x / 2 ^ i % 2)) (i : Int) ((x / 2 ^ j : Nat) : Int) (j : Int)) r := by
  intro d
  induction d with
  | zero =>
    intro j h1
    obtain rfl : j = 8 := by omega
    refine Ev.step hr fun k => ?_
    simp only [footlockerref08_Bits.l1]
    rw [if_neg (by omega), wn i (by omega)]
  | succ d ih =>
    intro j h1
    have ih2 := ih (j + 1) (by omega)
    rw [lb_succ, ← List.append_assoc, ints_append, Nat.pow_succ, ← Nat.div_div_eq_div_mul] at ih2
    have hxj : x / 2 ^ j < 256 := Nat.lt_of_le_of_lt (Nat.div_le_self _ _) hx
    refine Ev.step ih2 fun k => ?_
    simp only [footlockerref08_Bits.l1]
    generalize x / 2 ^ j = y at *
    rw [if_pos (by omega), if_pos (by rw [ints_length, List.length_append, List.length_map, List.length_range]; omega), tm2, td2, wn j (by omega)]
    have : ((y / 2 : Nat) : Int) % 256 = ((y / 2 : Nat) : Int) := by omega
    rw [this]
    rfl

theorem bits_ev (bs : List Nat) (hb : ∀ x ∈ bs, x < 256) (hl : bs.length ≤ 100000) : ∀ d i, bs.length = i + d → Ev (fun k => footlockerref08_Bits.l0 k (ints bs) (ints (bitsOf (bs.take i))) (i : Int)) (ints (bitsOf bs)) := by
  intro d
  induction d with
  | zero =>
    intro i h1
    refine Ev.done fun k => ?_
    simp only [footlockerref08_Bits.l0]
    rw [if_neg (by rw [ints_length]; omega), List.take_of_length_le (by omega)]
  | succ d ih =>
    intro i h1
    have hlt : i < bs.length := by omega
    have hx := ints_rd bs i hlt
    have ih2 := ih (i + 1) (by omega)
    have e : bitsOf (bs.take (i + 1)) = bitsOf (bs.take i) ++ (List.range 8).map fun j => bs[i] / 2 ^ j % 2 := by
      rw [List.take_succ_eq_append_getElem hlt]
      unfold bitsOf
      rw [List.flatMap_append]
      simp
    rw [e] at ih2
    have := bits_l1 bs (bitsOf (bs.take i)) i bs[i] (by omega) (hb _ (List.getElem_mem hlt)) (by rw [bitsOf_length, List.length_take]; omega) _ ih2 8 0 rfl
    refine Ev.step this fun k => ?_
    simp only [footlockerref08_Bits.l0]
    rw [if_pos (by rw [ints_length]; omega), if_pos (by omega), hx]
    simp

theorem ref_bits (bs : List Nat) (hb : ∀ x ∈ bs, x < 256) (hl : bs.length ≤ 100000) : Ev (fun k => footlockerref08_Bits.f k (ints bs)) (ints (bitsOf bs)) := by
  have := bits_ev bs hb hl bs.length 0 (by omega)
  exact this

/-! Put, Code, Same, begins -/
def lb (c L : Nat) : List Nat := (List.range L).map fun i => c / 2 ^ i % 2
theorem put_ev (v L : Nat) (hL : L ≤ 15) (hv : v < 4294967296) : ∀ d j, L = j + d → Ev (fun k => footlockerref08_Put.l0 k ((v / 2 ^ j : Nat) : Int) (L : Int) (ints (lb v j)) (j : Int)) (ints (lb v L)) := by
  intro d
  induction d with
  | zero =>
    intro j h1
    refine Ev.done fun k => ?_
    simp only [footlockerref08_Put.l0]
    rw [if_neg (by omega), show j = L by omega]
  | succ d ih =>
    intro j h1
    have ih2 := ih (j + 1) (by omega)
    unfold lb at ih2
    rw [lb_succ, ints_append, Nat.pow_succ, ← Nat.div_div_eq_div_mul] at ih2
    have hxj : v / 2 ^ j < 4294967296 := Nat.lt_of_le_of_lt (Nat.div_le_self _ _) hv
    refine Ev.step ih2 fun k => ?_
    simp only [footlockerref08_Put.l0]
    unfold lb
    generalize v / 2 ^ j = y at *
    rw [if_pos (by omega), if_pos (by omega), if_pos (by rw [ints_length, List.length_map, List.length_range]; omega), tm2, td2, wn j (by omega)]
    have e1 : ((y / 2 : Nat) : Int) % 4294967296 = ((y / 2 : Nat) : Int) := by omega
    have e2 : ((y % 2 : Nat) : Int) % 256 = ((y % 2 : Nat) : Int) := by omega
    rw [e1, e2]
    rfl
theorem code_ev (xs : List Int) (hx : xs.length ≤ 100) : ∀ i acc, i ≤ xs.length → acc.length + i ≤ 1000 → Ev (fun k => footlockerref08_Code.l0 k xs acc ((i : Int) - 1)) (acc ++ (xs.take i).reverse) := by
  intro i
  induction i with
  | zero =>
    intro acc _ _
    refine Ev.done fun k => ?_
    simp only [footlockerref08_Code.l0]
    rw [if_neg (by omega)]
    simp
  | succ i ih =>
    intro acc h1 h2
    have hlt : i < xs.length := by omega
    have e0 : ((i + 1 : Nat) : Int) - 1 = (i : Int) := by omega
    have ih2 := ih (acc ++ [xs[i]]) (by omega) (by simp; omega)
    rw [List.append_assoc] at ih2
    rw [List.take_succ_eq_append_getElem hlt, List.reverse_append, List.reverse_singleton]
    refine Ev.step ih2 fun k => ?_
    rw [e0]
    simp only [footlockerref08_Code.l0]
    rw [if_pos (by omega), if_pos (by omega), if_pos (by omega), if_pos (by omega), rd_get xs i hlt, wrap_small _ (by omega) (by omega)]
theorem same_ev (a b : List Int) (hl : a.length = b.length) (ha : a.length ≤ 1000) : ∀ d i, a.length = i + d → Ev (fun k => footlockerref01_Same.l0 k a b (i : Int)) (decide (a.drop i = b.drop i)) := by
  intro d
  induction d with
  | zero =>
    intro i h1
    refine Ev.done fun k => ?_
    simp only [footlockerref01_Same.l0]
    rw [if_neg (by omega), List.drop_of_length_le (by omega), List.drop_of_length_le (by omega)]
    simp
  | succ d ih =>
    intro i h1
    have h2 : i < a.length := by omega
    have h3 : i < b.length := by omega
    have e1 := rd_get a i h2
    have e2 := rd_get b i h3
    rw [List.drop_eq_getElem_cons h2, List.drop_eq_getElem_cons h3]
    by_cases h : rd a (i : Int) = rd b (i : Int)
    · have h' : a[i] = b[i] := by rw [← e1, ← e2, h]
      have e : decide (a[i] :: a.drop (i + 1) = b[i] :: b.drop (i + 1)) = decide (a.drop (i + 1) = b.drop (i + 1)) := by
        rw [h']; exact decide_eq_decide.2 ⟨fun h => (List.cons.inj h).2, fun h => by rw [h]⟩
      rw [e]
      refine Ev.step (ih (i + 1) (by omega)) fun k => ?_
      simp only [footlockerref01_Same.l0]
      rw [if_pos (by omega), if_pos (by omega), if_pos (by omega), if_pos h, wn i (by omega)]
    · have h' : ¬ a[i] = b[i] := by rw [← e1, ← e2]; exact h
      refine Ev.done fun k => ?_
      simp only [footlockerref01_Same.l0]
      rw [if_pos (by omega), if_pos (by omega), if_pos (by omega), if_neg h]
      have : ¬ (a[i] :: a.drop (i + 1) = b[i] :: b.drop (i + 1)) := fun h => h' (List.cons.inj h).1
      rw [decide_eq_false this]
end Go.Proofs.Ytgbfkfmjbacemaa.Cn
