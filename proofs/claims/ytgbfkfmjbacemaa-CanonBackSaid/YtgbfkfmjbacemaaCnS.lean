/- What the document's Read answers is what Table.Read answers. -/
import Derived.Test.YtgbfkfmjbacemaaCnR
namespace Go.Proofs.Ytgbfkfmjbacemaa.Cn
open Go.RowKit Go.Proofs.YtgbfkfmjbacemaaW.PrintWords Go.Proofs.YtgbfkfmjbacemaaW.PrintLast Go.Proofs.YtgbfkfmjbacemaaW.PrintMore Go.Proofs.Ytgbfkfmjbacemaa.PCanonReads Go.Proofs.Ytgbfkfmjbacemaa.Lb
set_option linter.unusedVariables false
set_option linter.unusedSimpArgs false
set_option linter.unusedSectionVars false

theorem copy_nil : footlockerref01_Copy.f ([] : List Int) = some [] := by
  unfold footlockerref01_Copy.f
  simp
theorem ref_code (v L : Nat) (hL : L ≤ 15) (hv : v < 4294967296) : Ev (fun k => footlockerref08_Code.f k ([] : List Int) (v : Int) (L : Int)) (ints (lb v L).reverse) := by
  unfold footlockerref08_Code.f
  have h1 : Ev (fun k => footlockerref08_Put.f k ([] : List Int) (v : Int) (L : Int)) (ints (lb v L)) := by
    refine Ev.of_eq (put_ev v L hL hv L 0 (by omega)) fun k => ?_
    unfold footlockerref08_Put.f
    rw [copy_nil, Option.bind_some]
    simp [lb, ints]
  refine Ev.bind h1 ?_
  have hlen : (ints (lb v L)).length = L := by simp [ints, lb]
  have h2 := code_ev (ints (lb v L)) (by omega) L [] (by omega) (by simp; omega)
  have e : ([] ++ ((ints (lb v L)).take L).reverse) = ints (lb v L).reverse := by
    rw [List.nil_append, List.take_of_length_le (by omega)]
    simp [ints, List.map_reverse]
  rw [e] at h2
  refine Ev.of_eq h2 fun k => ?_
  rw [copy_nil, Option.bind_some, hlen, wrap_small _ (by omega) (by omega)]

theorem lb_length (v L : Nat) : (lb v L).length = L := by simp [lb]

theorem ref_begins (v L : Nat) (hL : L ≤ 15) (hv : v < 4294967296) (head : List Nat) (hh : head.length ≤ 100) : Ev (fun k => footlockerref10_begins.f k (v : Int) (L : Int) (ints head)) (decide (head.length ≤ L ∧ (lb v L).reverse.take head.length = head)) := by
  unfold footlockerref10_begins.f
  refine Ev.bind (ref_code v L hL hv) ?_
  have hlen : (ints (lb v L).reverse).length = L := by simp [ints, lb]
  have hh2 := ints_length head
  by_cases h : head.length ≤ L
  · have hsame := same_ev ((ints (lb v L).reverse).take head.length) (ints head) (by rw [List.length_take, hlen, hh2]; omega) (by rw [List.length_take, hlen]; omega) (((ints (lb v L).reverse).take head.length).length) 0 (by omega)
    rw [List.drop_zero, List.drop_zero] at hsame
    have e : decide ((ints (lb v L).reverse).take head.length = ints head) = decide (head.length ≤ L ∧ (lb v L).reverse.take head.length = head) := by
      apply decide_eq_decide.2
      constructor
      · intro h2
        refine ⟨h, ?_⟩
        unfold ints at h2
        rw [← List.map_take] at h2
        exact (List.map_inj_right (f := fun (x : Nat) => (x : Int)) (fun a b h => Int.ofNat.inj h)).1 h2
      · rintro ⟨_, h2⟩
        unfold ints
        rw [← List.map_take, h2]
    rw [e] at hsame
    refine Ev.of_eq hsame fun k => ?_
    rw [if_neg (by rw [hlen, hh2]; omega), if_pos (by omega), if_pos (by rw [hlen, hh2]; omega), hh2, Int.toNat_natCast]
    unfold footlockerref01_Same.f
    rw [if_pos (by rw [List.length_take, hlen, hh2]; omega)]
    cases footlockerref01_Same.l0 k ((ints (lb v L).reverse).take head.length) (ints head) 0 <;> rfl
  · have e : decide (head.length ≤ L ∧ (lb v L).reverse.take head.length = head) = false := by
      rw [decide_eq_false_iff_not]; exact fun h2 => h h2.1
    rw [e]
    exact Ev.pure fun k => by rw [if_pos (by rw [hlen, hh2]; omega)]

/-! bits as numbers -/
theorem val_shift (l : List Nat) : ∀ c, val c l = c * 2 ^ l.length + val 0 l := by
  induction l with
  | nil => intro c; simp [val]
  | cons b l ih =>
    intro c
    rw [val_cons, val_cons, ih (2 * c + b), ih (2 * 0 + b), List.length_cons, Nat.pow_succ]
    generalize 2 ^ l.length = p
    rw [Nat.add_mul, Nat.mul_zero, Nat.zero_add, show 2 * c * p = c * (p * 2) by rw [Nat.mul_comm 2 c, Nat.mul_assoc, Nat.mul_comm 2 p]]
    omega
theorem val_lt (l : List Nat) (h : ∀ b ∈ l, b ≤ 1) : val 0 l < 2 ^ l.length := by
  induction l with
  | nil => simp [val]
  | cons b l ih =>
    have h1 := h b (by simp)
    have h2 := ih fun x hx => h x (by simp [hx])
    rw [val_cons, val_shift, List.length_cons, Nat.pow_succ]
    generalize 2 ^ l.length = p at *
    obtain rfl | rfl : b = 0 ∨ b = 1 := by omega
    · omega
    · omega
theorem val_inj : ∀ (l m : List Nat), l.length = m.length → (∀ b ∈ l, b ≤ 1) → (∀ b ∈ m, b ≤ 1) → val 0 l = val 0 m → l = m := by
  intro l
  induction l with
  | nil => intro m h _ _ _; exact (List.length_eq_zero_iff.1 h.symm).symm
  | cons b l ih =>
    intro m h hl hm hv
    cases m with
    | nil => simp at h
    | cons b' m =>
      have hlen : l.length = m.length := by simpa using h
      have h1 := val_lt l fun x hx => hl x (by simp [hx])
      have h2 := val_lt m fun x hx => hm x (by simp [hx])
      have b1 := hl b (by simp)
      have b2 := hm b' (by simp)
      rw [val_cons, val_cons, val_shift l, val_shift m, ← hlen] at hv
      rw [← hlen] at h2
      generalize 2 ^ l.length = p at *
      have hb : b = b' := by
        obtain rfl | rfl : b = 0 ∨ b = 1 := by omega
        · obtain rfl | rfl : b' = 0 ∨ b' = 1 := by omega
          · rfl
          · omega
        · obtain rfl | rfl : b' = 0 ∨ b' = 1 := by omega
          · omega
          · rfl
      subst hb
      rw [ih m hlen (fun x hx => hl x (by simp [hx])) (fun x hx => hm x (by simp [hx])) (by omega)]
theorem lb_le (v L : Nat) : ∀ b ∈ lb v L, b ≤ 1 := by
  intro b hb
  obtain ⟨i, _, rfl⟩ := List.mem_map.1 hb
  omega
theorem lb_val (v : Nat) : ∀ L, val 0 (lb v L).reverse = v % 2 ^ L := by
  intro L
  induction L with
  | zero => simp [lb, val]; omega
  | succ L ih =>
    have : lb v (L + 1) = lb v L ++ [v / 2 ^ L % 2] := lb_succ v L
    rw [this, List.reverse_append, List.reverse_singleton, List.singleton_append, val_cons, val_shift, ih, List.length_reverse, lb_length, Nat.mod_pow_succ]
    rw [Nat.mul_zero, Nat.zero_add, Nat.mul_comm]
    omega
theorem lb_drop (v L n : Nat) (h : n ≤ L) : (lb v L).drop (L - n) = lb (v / 2 ^ (L - n)) n := by
  apply List.ext_getElem
  · rw [List.length_drop, lb_length, lb_length]; omega
  · intro j h1 h2
    simp only [lb, List.getElem_drop, List.getElem_map, List.getElem_range]
    rw [Nat.div_div_eq_div_mul, ← Nat.pow_add]
theorem begins_val (v L : Nat) (hv : v < 2 ^ L) (head : List Nat) (hh : ∀ b ∈ head, b ≤ 1) : (head.length ≤ L ∧ (lb v L).reverse.take head.length = head) ↔ (head.length ≤ L ∧ v / 2 ^ (L - head.length) = val 0 head) := by
  have key : head.length ≤ L → ((lb v L).reverse.take head.length = head ↔ v / 2 ^ (L - head.length) = val 0 head) := by
    intro h
    rw [List.take_reverse, lb_length, lb_drop v L _ h]
    have hval := lb_val (v / 2 ^ (L - head.length)) head.length
    rw [Nat.mod_eq_of_lt (by
      rw [Nat.div_lt_iff_lt_mul (Nat.pow_pos (by omega)), ← Nat.pow_add, show head.length + (L - head.length) = L by omega]; exact hv)] at hval
    constructor
    · intro e; rw [← hval, e]
    · intro e
      refine val_inj _ _ (by rw [List.length_reverse, lb_length]) (fun b hb => lb_le _ _ b (List.mem_reverse.1 hb)) hh (by rw [hval, e])
  exact ⟨fun h => ⟨h.1, (key h.1).1 h.2⟩, fun h => ⟨h.1, (key h.1).2 h.2⟩⟩

/-! which codes begin with bits -/
def bg (ls : List Nat) (n c s : Nat) : Bool := decide (0 < ls.getD s 0 ∧ n ≤ ls.getD s 0 ∧ CN.code ls s / 2 ^ (ls.getD s 0 - n) = c)

theorem least (p : Nat → Prop) (n : Nat) : ∀ m, (∀ j, n ≤ j → j ≤ m → p j) ∨ ∃ l, n ≤ l ∧ l ≤ m ∧ ¬ p l ∧ ∀ j, n ≤ j → j < l → p j := by
  intro m
  induction m with
  | zero =>
    by_cases h : n ≤ 0 → p 0
    · exact .inl fun j h1 h2 => by obtain rfl : j = 0 := by omega
                                   exact h h1
    · have h' : n ≤ 0 ∧ ¬ p 0 := Classical.not_imp.1 h
      exact .inr ⟨0, h'.1, Nat.le_refl _, h'.2, fun j h1 h2 => by omega⟩
  | succ m ih =>
    rcases ih with h | ⟨l, h1, h2, h3, h4⟩
    · by_cases h' : n ≤ m + 1 → p (m + 1)
      · refine .inl fun j h1 h2 => ?_
        rcases Nat.lt_or_ge j (m + 1) with h3 | h3
        · exact h j h1 (by omega)
        · obtain rfl : j = m + 1 := by omega
          exact h' h1
      · have h'' : n ≤ m + 1 ∧ ¬ p (m + 1) := Classical.not_imp.1 h'
        exact .inr ⟨m + 1, h''.1, Nat.le_refl _, h''.2, fun j h1 h2 => h j h1 (by omega)⟩
    · exact .inr ⟨l, h1, by omega, h3, h4⟩

theorem some_bg {ls : List Nat} {c n : Nat} (hf : CN.fin ls n ≤ c) (h : ¬ nn ls c n) : ∃ s, s < ls.length ∧ bg ls n c s = true := by
  rcases least (off ls c n) n (lg ls ls.length) with hl | ⟨l, h1, h2, h3, h4⟩
  · exact absurd (fun l h1 h2 => hl l h1 h2) h
  · have hln : n < l := by
      rcases Nat.lt_or_ge n l with h | h
      · exact h
      · obtain rfl : l = n := by omega
        exact absurd (.inr (by simpa using hf)) h3
    have key : ∀ d, n + d < l → CN.fin ls (n + d) ≤ c * 2 ^ d := by
      intro d
      induction d with
      | zero => intro _; simpa using hf
      | succ d ih =>
        intro h5
        have h6 := ih (by omega)
        rcases h4 (n + (d + 1)) (by omega) h5 with h7 | h7
        · unfold CN.fin
          rw [h7, ← Nat.add_assoc, CN.first]
          unfold CN.fin at h6
          rw [Nat.pow_succ]
          generalize 2 ^ d = p at *
          rw [show c * (p * 2) = 2 * (c * p) by rw [← Nat.mul_assoc, Nat.mul_comm]]
          omega
        · rwa [show n + (d + 1) - n = d + 1 by omega] at h7
    have h5 := key (l - 1 - n) (by omega)
    rw [show n + (l - 1 - n) = l - 1 by omega] at h5
    have hfirst : CN.first ls l ≤ c * 2 ^ (l - n) := by
      obtain ⟨m, rfl⟩ : ∃ m, l = m + 1 := ⟨l - 1, by omega⟩
      rw [CN.first]
      rw [show m + 1 - 1 = m by omega] at h5
      unfold CN.fin at h5
      rw [show m + 1 - n = (m - n) + 1 by omega, Nat.pow_succ]
      generalize 2 ^ (m - n) = p at *
      rw [show c * (p * 2) = 2 * (c * p) by rw [← Nat.mul_assoc, Nat.mul_comm]]
      omega
    have hlt : ¬ (CN.cnt ls l = 0) ∧ c * 2 ^ (l - n) < CN.fin ls l := by
      refine ⟨fun h => h3 (.inl h), ?_⟩
      rcases Nat.lt_or_ge (c * 2 ^ (l - n)) (CN.fin ls l) with h | h
      · exact h
      · exact absurd (.inr h) h3
    obtain ⟨s, _, hs1, hs2, hs3⟩ := sy_at (ls := ls) (n := l) (i := c * 2 ^ (l - n) - CN.first ls l) (by omega) (by have := hlt.2; unfold CN.fin at this; omega)
    refine ⟨s, hs1, ?_⟩
    unfold bg
    rw [decide_eq_true_eq, hs2]
    refine ⟨by omega, by omega, ?_⟩
    rw [hs3, show CN.first ls l + (c * 2 ^ (l - n) - CN.first ls l) = c * 2 ^ (l - n) by omega]
    exact Nat.mul_div_cancel _ (Nat.pow_pos (by omega))

theorem none_bg {ls : List Nat} {c n : Nat} (h : nn ls c n) : ∀ s, s < ls.length → bg ls n c s = false := by
  intro s hs
  unfold bg
  rw [decide_eq_false_iff_not]
  rintro ⟨h0, h1, h2⟩
  have hfp := CN.fin_pos_first (ls := ls) (s := s) (by omega)
  have hmem : ls.getD s 0 ∈ ls := by rw [List.getD_eq_getElem?_getD, List.getElem?_eq_getElem hs]; exact List.getElem_mem hs
  have hlg := lg_ge ls _ hmem
  generalize ls.getD s 0 = L at *
  have hle : c * 2 ^ (L - n) ≤ CN.code ls s := by rw [← h2]; exact Nat.div_mul_le_self _ _
  rcases h L h1 hlg with h3 | h3
  · unfold CN.fin at hfp
    omega
  · omega

theorem code_inj {ls : List Nat} (hb : ∀ x ∈ ls, x ≤ 15) {s t : Nat} (h0 : ls.getD s 0 ≠ 0) (he : ls.getD s 0 = ls.getD t 0) (hc : CN.code ls s = CN.code ls t) : s = t := by
  rcases Nat.lt_trichotomy s t with h | h | h
  · have := CN.code_order hb (i := s) (k := t) h0 (by omega) (.inr ⟨he, h⟩)
    rw [he, hc] at this
    omega
  · exact h
  · have := CN.code_order hb (i := t) (k := s) (by omega) h0 (.inr ⟨he.symm, h⟩)
    rw [he, hc] at this
    omega

/-! the loops of Read -/
section
variable {ls : List Nat} (hb : ∀ x ∈ ls, x ≤ 15) (hk : CN.kr ls ≤ 32768) (hn : ls.length ≤ 288) {B head : List Nat} (hh : ∀ b ∈ head, b ≤ 1) (hl : head.length ≤ 15) {a : Int} {n : Nat} (hnl : head.length = n)
include hb hk hn hh hl hnl

theorem l1_step {s : Nat} (hs : s < ls.length) {b : Bool} {r : Int × Int × Int} (hr : Ev (fun k => footlockerref10_Read.j2 k (ints ls) (codes ls) (ints B) a (n : Int) (ints head) b (s : Int) (bg ls n (val 0 head) s)) r) :
    Ev (fun k => footlockerref10_Read.l1 k (ints ls) (codes ls) (ints B) a (n : Int) (ints head) b (s : Int)) r := by
  have hx := ints_rd ls s hs
  have hc := codes_rd ls s hs
  have hd : ls.getD s 0 = ls[s] := by rw [List.getD_eq_getElem?_getD, List.getElem?_eq_getElem hs, Option.getD_some]
  have h15 := hb _ (List.getElem_mem hs)
  have c1 : (s : Int) < ((ints ls).length : Int) := by rw [ints_length]; omega
  have c2 : 0 ≤ (s : Int) := by omega
  have c4 : (s : Int) < ((codes ls).length : Int) := by rw [codes_length]; omega
  by_cases h0 : ls[s] = 0
  · have c3 : ¬ rd (ints ls) (s : Int) > 0 := by rw [hx]; omega
    have e : bg ls n (val 0 head) s = false := by unfold bg; rw [decide_eq_false_iff_not, hd]; omega
    rw [e] at hr
    refine Ev.step hr fun k => ?_
    simp only [footlockerref10_Read.l1]
    rw [if_pos c1, if_pos c2, if_neg c3]
  · have c3 : rd (ints ls) (s : Int) > 0 := by rw [hx]; omega
    have hlt := CN.code_lt_pow hb hk (s := s) (by rw [hd]; exact h0)
    rw [hd] at hlt
    have h2 : 2 ^ ls[s] ≤ 2 ^ 15 := Nat.pow_le_pow_right (by omega) h15
    have hv : CN.code ls s < 4294967296 := by
      have h3 : CN.code ls s < 32768 := Nat.lt_of_lt_of_le hlt h2
      omega
    have hbeg := ref_begins (CN.code ls s) ls[s] h15 hv head (by omega)
    have e : decide (head.length ≤ ls[s] ∧ (lb (CN.code ls s) ls[s]).reverse.take head.length = head) = bg ls n (val 0 head) s := by
      unfold bg
      apply decide_eq_decide.2
      rw [begins_val _ _ hlt head hh, hd, hnl]
      exact ⟨fun h => ⟨by omega, h.1, h.2⟩, fun h => ⟨h.2.1, h.2.2⟩⟩
    rw [e] at hbeg
    refine Ev.step (Ev.bind (G := fun t k => footlockerref10_Read.j2 k (ints ls) (codes ls) (ints B) a (n : Int) (ints head) b (s : Int) t) hbeg hr) fun k => ?_
    simp only [footlockerref10_Read.l1]
    rw [if_pos c1, if_pos c2, if_pos c3, if_pos c4, hx, hc]

omit hk hh hl hnl in
theorem j2_false {s : Nat} (hs : s < ls.length) {b : Bool} {r : Int × Int × Int} (hr : Ev (fun k => footlockerref10_Read.l1 k (ints ls) (codes ls) (ints B) a (n : Int) (ints head) b ((s + 1 : Nat) : Int)) r) :
    Ev (fun k => footlockerref10_Read.j2 k (ints ls) (codes ls) (ints B) a (n : Int) (ints head) b (s : Int) false) r := by
  refine Ev.step hr fun k => ?_
  simp only [footlockerref10_Read.j2]
  rw [if_neg (by decide), wn s (by omega)]
omit hk hh hl hnl in
theorem j2_long {s : Nat} (hs : s < ls.length) (hne : ls.getD s 0 ≠ n) {b : Bool} {r : Int × Int × Int} (hr : Ev (fun k => footlockerref10_Read.l1 k (ints ls) (codes ls) (ints B) a (n : Int) (ints head) true ((s + 1 : Nat) : Int)) r) :
    Ev (fun k => footlockerref10_Read.j2 k (ints ls) (codes ls) (ints B) a (n : Int) (ints head) b (s : Int) true) r := by
  have hx := ints_rd ls s hs
  have hd : ls.getD s 0 = ls[s] := by rw [List.getD_eq_getElem?_getD, List.getElem?_eq_getElem hs, Option.getD_some]
  have c5 : ¬ rd (ints ls) (s : Int) = (n : Int) := by rw [hx, ← hd]; omega
  refine Ev.step hr fun k => ?_
  simp only [footlockerref10_Read.j2]
  rw [if_pos trivial, if_pos (by omega), if_pos (by rw [ints_length]; omega), if_neg c5, wn s (by omega)]
omit hk hh hl hnl hn in
theorem j2_hit {s : Nat} (hs : s < ls.length) (hne : ls.getD s 0 = n) {b : Bool} :
    Ev (fun k => footlockerref10_Read.j2 k (ints ls) (codes ls) (ints B) a (n : Int) (ints head) b (s : Int) true) ((s : Int), (n : Int), 0) := by
  have hx := ints_rd ls s hs
  have hd : ls.getD s 0 = ls[s] := by rw [List.getD_eq_getElem?_getD, List.getElem?_eq_getElem hs, Option.getD_some]
  have c5 : rd (ints ls) (s : Int) = (n : Int) := by rw [hx, ← hd]; omega
  refine Ev.done fun k => ?_
  simp only [footlockerref10_Read.j2]
  rw [if_pos trivial, if_pos (by omega), if_pos (by rw [ints_length]; omega), if_pos c5]

theorem l1_hit {s0 : Nat} (hs0 : s0 < ls.length) (h1 : bg ls n (val 0 head) s0 = true) (h2 : ls.getD s0 0 = n) (hu : ∀ s, s < ls.length → bg ls n (val 0 head) s = true → ls.getD s 0 = n → s = s0) :
    ∀ d s b, s0 = s + d → Ev (fun k => footlockerref10_Read.l1 k (ints ls) (codes ls) (ints B) a (n : Int) (ints head) b (s : Int)) ((s0 : Int), (n : Int), 0) := by
  intro d
  induction d with
  | zero =>
    intro s b h3
    obtain rfl : s = s0 := by omega
    refine l1_step hb hk hn hh hl hnl hs0 ?_
    rw [h1]
    exact j2_hit hb hs0 h2
  | succ d ih =>
    intro s b h3
    refine l1_step hb hk hn hh hl hnl (by omega) ?_
    cases h4 : bg ls n (val 0 head) s with
    | false => exact j2_false hb hn (by omega) (ih (s + 1) b (by omega))
    | true =>
      refine j2_long hb hn (by omega) (fun h5 => ?_) (ih (s + 1) true (by omega))
      have := hu s (by omega) h4 h5
      omega

theorem l1_end (hno : ∀ s, s < ls.length → bg ls n (val 0 head) s = false) :
    ∀ d s, ls.length = s + d → Ev (fun k => footlockerref10_Read.l1 k (ints ls) (codes ls) (ints B) a (n : Int) (ints head) false (s : Int)) (0, (n : Int), 34) := by
  intro d
  induction d with
  | zero =>
    intro s h3
    refine Ev.done fun k => ?_
    simp only [footlockerref10_Read.l1]
    rw [if_neg (by rw [ints_length]; omega), if_neg (by decide)]
  | succ d ih =>
    intro s h3
    refine l1_step hb hk hn hh hl hnl (by omega) ?_
    rw [hno s (by omega)]
    exact j2_false hb hn (by omega) (ih (s + 1) (by omega))

theorem l1_none {r : Int × Int × Int} (hno : ∀ s, s < ls.length → bg ls n (val 0 head) s = true → ls.getD s 0 ≠ n) (hr : Ev (fun k => footlockerref10_Read.l0 k (ints ls) (codes ls) (ints B) a ((n + 1 : Nat) : Int)) r) :
    ∀ d s b, ls.length = s + d → (b = true ∨ ∃ t, s ≤ t ∧ t < ls.length ∧ bg ls n (val 0 head) t = true) → Ev (fun k => footlockerref10_Read.l1 k (ints ls) (codes ls) (ints B) a (n : Int) (ints head) b (s : Int)) r := by
  intro d
  induction d with
  | zero =>
    intro s b h3 h4
    obtain rfl : b = true := by
      rcases h4 with h4 | ⟨t, h5, h6, _⟩
      · exact h4
      · omega
    refine Ev.step hr fun k => ?_
    simp only [footlockerref10_Read.l1]
    rw [if_neg (by rw [ints_length]; omega), if_pos trivial, wn n (by omega)]
  | succ d ih =>
    intro s b h3 h4
    refine l1_step hb hk hn hh hl hnl (by omega) ?_
    cases h5 : bg ls n (val 0 head) s with
    | false =>
      refine j2_false hb hn (by omega) (ih (s + 1) b (by omega) ?_)
      rcases h4 with h4 | ⟨t, h6, h7, h8⟩
      · exact .inl h4
      · refine .inr ⟨t, ?_, h7, h8⟩
        rcases Nat.lt_or_ge s t with h | h
        · exact h
        · obtain rfl : t = s := by omega
          rw [h5] at h8; cases h8
    | true => exact j2_long hb hn (by omega) (hno s (by omega) h5) (ih (s + 1) true (by omega) (.inl rfl))
end

/-- the bits from a place on. -/
def hd (B : List Nat) (at_ n : Nat) : List Nat := (B.take (at_ + n)).drop at_
theorem hd_length (B : List Nat) (at_ n : Nat) (h : at_ + n ≤ B.length) : (hd B at_ n).length = n := by unfold hd; rw [List.length_drop, List.length_take]; omega
theorem hd_succ (B : List Nat) (at_ n : Nat) (h : at_ + n < B.length) : hd B at_ (n + 1) = hd B at_ n ++ [B[at_ + n]] := by
  unfold hd
  rw [← Nat.add_assoc, List.take_succ_eq_append_getElem h, List.drop_append_of_le_length (by rw [List.length_take]; omega)]
theorem val_snoc (l : List Nat) (b : Nat) : val 0 (l ++ [b]) = 2 * val 0 l + b := by unfold val; rw [List.foldl_append]; rfl
theorem hd_le (B : List Nat) (hB : ∀ b ∈ B, b ≤ 1) (at_ n : Nat) : ∀ b ∈ hd B at_ n, b ≤ 1 := fun b h => hB b (List.mem_of_mem_take (List.mem_of_mem_drop h))
theorem l0_go {ls B : List Nat} {at_ n : Nat} (hn : n ≤ 15) (h : at_ + n ≤ B.length) (hB : B.length ≤ 1000) {r : Int × Int × Int}
    (hr : Ev (fun k => footlockerref10_Read.l1 k (ints ls) (codes ls) (ints B) (at_ : Int) (n : Int) (ints (hd B at_ n)) false 0) r) :
    Ev (fun k => footlockerref10_Read.l0 k (ints ls) (codes ls) (ints B) (at_ : Int) (n : Int)) r := by
  refine Ev.step hr fun k => ?_
  simp only [footlockerref10_Read.l0]
  have e1 : wrap64 (((ints B).length : Int) - (at_ : Int)) = ((B.length - at_ : Nat) : Int) := by rw [ints_length, wrap_small _ (by omega) (by omega)]; omega
  have e2 : wrap64 ((at_ : Int) + (n : Int)) = ((at_ + n : Nat) : Int) := by rw [wrap_small _ (by omega) (by omega)]; omega
  rw [e1, e2, if_pos (by omega), if_neg (by omega), if_pos (by omega), if_pos (by omega), if_pos (by rw [ints_length]; omega), Int.toNat_natCast, Int.toNat_natCast]
  unfold hd ints
  rw [List.map_drop, List.map_take]

theorem read_from {ls B : List Nat} (hb : ∀ x ∈ ls, x ≤ 15) (hk : CN.kr ls ≤ 32768) (hn : ls.length ≤ 288) (hB : ∀ b ∈ B, b ≤ 1) (hBl : B.length ≤ 1000) (at_ : Nat) :
    ∀ d n, 15 = n + d → at_ + n ≤ B.length → CN.fin ls n ≤ val 0 (hd B at_ n) → ¬ nn ls (val 0 (hd B at_ n)) n →
      ∀ R, rd1 ls B (17 - n) (at_ + n) (val 0 (hd B at_ n)) n = R → Ev (fun k => footlockerref10_Read.l0 k (ints ls) (codes ls) (ints B) (at_ : Int) ((n + 1 : Nat) : Int)) ((R.1 : Int), ((R.2.2 - at_ : Nat) : Int), (R.2.1 : Int)) := by
  intro d
  induction d with
  | zero =>
    intro n h1 h2 h3 h4 R hR
    obtain rfl : n = 15 := by omega
    exact absurd (nn_fifteen hb h3) h4
  | succ d ih =>
    intro n h1 h2 h3 h4 R hR
    rw [show 17 - n = (16 - n) + 1 by omega, rd1_go hb h4] at hR
    by_cases h5 : at_ + n < B.length
    · rw [List.getElem?_eq_getElem h5] at hR
      simp only at hR
      have hv := val_snoc (hd B at_ n) B[at_ + n]
      rw [← hd_succ B at_ n h5] at hv
      rw [← hv] at hR
      have hh := hd_le B hB at_ (n + 1)
      have hlen := hd_length B at_ (n + 1) (by omega)
      refine l0_go (by omega) (by omega) hBl ?_
      by_cases h6 : val 0 (hd B at_ (n + 1)) < CN.fin ls (n + 1)
      · rw [if_pos h6] at hR
        have hF : CN.first ls (n + 1) ≤ val 0 (hd B at_ (n + 1)) := by
          rw [hv, CN.first]
          unfold CN.fin at h3
          omega
        obtain ⟨s, hs0, hs1, hs2, hs3⟩ := sy_at (ls := ls) (n := n + 1) (i := val 0 (hd B at_ (n + 1)) - CN.first ls (n + 1)) (by omega) (by unfold CN.fin at h6; omega)
        rw [hs0] at hR
        subst hR
        have hcode : CN.code ls s = val 0 (hd B at_ (n + 1)) := by rw [hs3]; omega
        have := l1_hit hb hk hn hh (by omega) hlen (B := B) (a := (at_ : Int)) hs1 (by unfold bg; rw [decide_eq_true_eq, hs2, hcode]; simp) hs2
          (fun t ht1 ht2 ht3 => by
            unfold bg at ht2
            rw [decide_eq_true_eq, ht3] at ht2
            refine code_inj hb (by omega) (by rw [ht3, hs2]) ?_
            rw [hcode, ← ht2.2.2]; simp) s 0 false (by omega)
        simpa [show at_ + n + 1 - at_ = n + 1 by omega] using this
      · rw [if_neg h6] at hR
        by_cases h7 : nn ls (val 0 (hd B at_ (n + 1))) (n + 1)
        · rw [show 16 - n = (15 - n) + 1 by omega, rd1_nn hb h7] at hR
          subst hR
          have := l1_end hb hk hn hh (by omega) hlen (B := B) (a := (at_ : Int)) (none_bg h7) ls.length 0 (by omega)
          simpa [show at_ + n + 1 - at_ = n + 1 by omega] using this
        · have h8 : CN.fin ls (n + 1) ≤ val 0 (hd B at_ (n + 1)) := by omega
          have hih := ih (n + 1) (by omega) (by omega) h8 h7 R (by rw [show 17 - (n + 1) = 16 - n by omega, ← Nat.add_assoc]; exact hR)
          refine l1_none hb hk hn hh (by omega) hlen (B := B) (a := (at_ : Int)) (fun t ht1 ht2 ht3 => ?_) hih ls.length 0 false (by omega) (.inr ?_)
          · unfold bg at ht2
            rw [decide_eq_true_eq, ht3] at ht2
            have := (CN.fin_pos_first (ls := ls) (s := t) (by omega)).2
            rw [ht3] at this
            have h9 := ht2.2.2
            simp at h9
            omega
          · obtain ⟨t, ht1, ht2⟩ := some_bg h8 h7
            exact ⟨t, by omega, ht1, ht2⟩
    · rw [List.getElem?_eq_none (by omega)] at hR
      simp only at hR
      subst hR
      refine Ev.done fun k => ?_
      simp only [footlockerref10_Read.l0]
      have e1 : wrap64 (((ints B).length : Int) - (at_ : Int)) = ((B.length - at_ : Nat) : Int) := by rw [ints_length, wrap_small _ (by omega) (by omega)]; omega
      rw [e1, if_pos (by omega), if_pos (by omega), wrap_small _ (by omega) (by omega)]
      congr 3
      omega

/-- **THE DOCUMENT'S READ.** -/
theorem ref_read {ls B : List Nat} (hb : ∀ x ∈ ls, x ≤ 15) (hk : CN.kr ls ≤ 32768) (hn : ls.length ≤ 288) (hB : ∀ b ∈ B, b ≤ 1) (hBl : B.length ≤ 1000) (at_ : Nat) (h : at_ ≤ B.length) (R : Nat × Nat × Nat) (hR : rd1 ls B 17 at_ 0 0 = R) :
    Ev (fun k => footlockerref10_Read.f k (ints ls) (codes ls) (ints B) (at_ : Int)) ((R.1 : Int), ((R.2.2 - at_ : Nat) : Int), (R.2.1 : Int)) := by
  unfold footlockerref10_Read.f
  have hh := hd_le B hB at_ 0
  have hlen := hd_length B at_ 0 (by omega)
  have hv : val 0 (hd B at_ 0) = 0 := by rw [List.length_eq_zero_iff.1 hlen]; rfl
  have hfin : CN.fin ls 0 ≤ val 0 (hd B at_ 0) := by simp [CN.fin, CN.first, CN.cnt]
  refine l0_go (n := 0) (by omega) (by omega) hBl ?_
  by_cases h7 : nn ls (val 0 (hd B at_ 0)) 0
  · rw [hv] at h7
    rw [rd1_nn hb h7] at hR
    subst hR
    have := l1_end hb hk hn hh (by omega) hlen (B := B) (a := (at_ : Int)) (by rw [hv]; exact none_bg h7) ls.length 0 (by omega)
    simpa using this
  · have hih := read_from hb hk hn hB hBl at_ 15 0 rfl (by omega) hfin h7 R (by rw [hv]; exact hR)
    refine l1_none hb hk hn hh (by omega) hlen (B := B) (a := (at_ : Int)) (fun t ht1 ht2 ht3 => ?_) hih ls.length 0 false (by omega) (.inr ?_)
    · unfold bg at ht2
      rw [decide_eq_true_eq, ht3] at ht2
      omega
    · obtain ⟨t, ht1, ht2⟩ := some_bg hfin h7
      exact ⟨t, by omega, ht1, ht2⟩
end Go.Proofs.Ytgbfkfmjbacemaa.Cn
