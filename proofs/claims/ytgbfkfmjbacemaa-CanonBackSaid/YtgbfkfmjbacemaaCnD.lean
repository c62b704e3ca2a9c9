/- The contracts of slices.ContainsFunc (at canon.check's predicate) and canon.check. -/
import Derived.Test.YtgbfkfmjbacemaaCnC
namespace Go.Proofs.Ytgbfkfmjbacemaa.Cn
open Go.RowKit Go.Proofs.YtgbfkfmjbacemaaW.PrintWords Go.Proofs.YtgbfkfmjbacemaaW.PrintLast Go.Proofs.YtgbfkfmjbacemaaW.PrintMore Go.Proofs.Ytgbfkfmjbacemaa.PCanonReads Go.Proofs.Ytgbfkfmjbacemaa.Lb
attribute [local go_sem] max2_int min2_int max_two min_two
set_option linter.unusedVariables false
set_option linter.unusedSimpArgs false

theorem containsFunc_calls (A0 : Option Addr) (c0 : Nat) (l0 : List Int) (w : World) (hr0 : Kd.C (Kd.int .i64) w A0 l0.length l0) :
    Calls Try.prog 31 #[.slice A0 l0.length c0, .func (.func 32) #[] #[]] w fun e w' => e = .returned (.bool (l0.any bad)) ∧ Drawn0 w w' := by
  have HR := Aside0.mk hr0
  clear hr0
  go_enter Try.func31, Try.ntmps31
  go_wp2_with (go_at_call 38; refine (indexFunc_calls A0 c0 l0 _ HR.out).mono ?_; rintro e w1 ⟨⟨i, rfl, HI⟩, hd⟩)
  go_ret
  refine ⟨?_, hd⟩
  have := HI.out
  by_cases h : 0 ≤ i
  · rw [this.1 h]; simp [h]
  · have h2 : l0.any bad = false := by
      cases h3 : l0.any bad with
      | false => rfl
      | true => exact absurd (this.2 h3) h
    rw [h2]; simp [h]

/-- do lengths fit? -/
theorem shr_32768 (l : Nat) (h : l ≤ 15) : shr .i64 32768 (l : Int) = ((2 ^ (15 - l) : Nat) : Int) := by
  have : ∀ l : Fin 16, shr .i64 32768 ((l.val : Nat) : Int) = ((2 ^ (15 - l.val) : Nat) : Int) := by decide
  exact this ⟨l, by omega⟩
theorem kr_cons (x : Nat) (ls : List Nat) : CN.kr (x :: ls) = (if x = 0 then 0 else 2 ^ (15 - x)) + CN.kr ls := by simp [CN.kr]
theorem kr_le (ls : List Nat) : CN.kr ls ≤ ls.length * 32768 := by
  induction ls with
  | nil => simp [CN.kr]
  | cons x ls ih =>
    rw [kr_cons, List.length_cons, Nat.add_mul]
    have : 2 ^ (15 - x) ≤ 2 ^ 15 := Nat.pow_le_pow_right (by omega) (by omega)
    split <;> omega
theorem ints_length (ls : List Nat) : (ints ls).length = ls.length := by simp [ints]
theorem ints_rd (ls : List Nat) (i : Nat) (h : i < ls.length) : rd (ints ls) (i : Int) = (ls[i] : Int) := by simp [rd, ints, h]
theorem ints_any (ls : List Nat) : (ints ls).any bad = ls.any (fun x => decide (15 < x)) := by
  induction ls with
  | nil => rfl
  | cons x ls ih =>
    simp only [ints, List.map_cons, List.any_cons] at ih ⊢
    rw [ih]
    congr 1
    by_cases h : 15 < x
    · have : (15 : Int) < x := by omega
      simp [bad, h, this]
    · have : ¬ (15 : Int) < x := by omega
      have h0 : ¬ (x : Int) < 0 := by omega
      simp [bad, h, this, h0]

theorem fit_loop (ls : List Nat) (hb : ∀ x ∈ ls, x ≤ 15) (hn : ls.length ≤ 288) : ∀ (d K i : Nat) (s : Int), i + d = ls.length → 2 * d < K → 0 ≤ s → s ≤ i * 32768 →
    lengths_Fit.l0 K s (ints ls) (ls.length : Int) (i : Int) = some (decide (s + (CN.kr (ls.drop i) : Int) ≤ 32768)) := by
  intro d
  induction d with
  | zero =>
    intro K i s hi hK hs hs2
    obtain ⟨K, rfl⟩ : ∃ m, K = m + 1 := ⟨K - 1, by omega⟩
    simp only [lengths_Fit.l0]
    rw [if_neg (by omega), List.drop_of_length_le (by omega)]
    simp [CN.kr]
  | succ d ih =>
    intro K i s hi hK hs hs2
    obtain ⟨K, rfl⟩ : ∃ m, K = m + 2 := ⟨K - 2, by omega⟩
    have hil : i < ls.length := by omega
    have hx := hb _ (List.getElem_mem hil)
    have hr := ints_rd ls i hil
    have e1 : wrap64 ((i : Int) + 1) = ((i + 1 : Nat) : Int) := by unfold wrap64; omega
    have e2 : CN.kr (ls.drop i) = (if ls[i] = 0 then 0 else 2 ^ (15 - ls[i])) + CN.kr (ls.drop (i + 1)) := by
      rw [List.drop_eq_getElem_cons hil, kr_cons]
    have hp : 2 ^ (15 - ls[i]) ≤ 2 ^ 15 := Nat.pow_le_pow_right (by omega) (by omega)
    simp only [lengths_Fit.l0]
    rw [if_pos (by omega), if_pos (by omega), if_pos (by rw [ints_length]; omega), hr, if_neg (by omega)]
    simp only [lengths_Fit.j1]
    rw [if_neg (by simp; omega)]
    by_cases h0 : ls[i] = 0
    · rw [if_neg (by omega), e1, ih K (i + 1) s (by omega) (by omega) hs (by omega), e2, if_pos h0]
      simp
    · rw [if_pos (by omega), if_pos (by omega), shr_32768 _ hx, e1]
      rw [if_neg h0] at e2
      generalize 2 ^ (15 - ls[i]) = p at hp e2 ⊢
      have e3 : wrap64 (s + (p : Int)) = s + (p : Int) := by
        unfold wrap64; omega
      rw [e3, ih K (i + 1) _ (by omega) (by omega) (by omega) (by omega), e2]
      congr 2
      simp only [eq_iff_iff]
      constructor <;> intro h <;> omega
theorem fit_eq (ls : List Nat) (hb : ∀ x ∈ ls, x ≤ 15) (hn : ls.length ≤ 288) : lengths_Fit.f (2 * ls.length + 1) (ints ls) = some (decide (CN.kr ls ≤ 32768)) := by
  unfold lengths_Fit.f
  have h := fit_loop ls hb hn ls.length (2 * ls.length + 1) 0 0 (by omega) (by omega) (by omega) (by omega)
  rw [ints_length, if_neg (by omega)]
  refine h.trans ?_
  simp
  omega

/-- how many lengths aren't 0. -/
def used (ls : List Nat) : Nat := ls.countP (0 < ·)
/-- canon.check of lengths from 0 to 15, at most 288 of them. -/
def chk (ls : List Nat) : Int :=
  if CN.kr ls ≤ 32768 then (if CN.kr ls = 32768 ∨ used ls = 0 ∨ (used ls = 1 ∧ CN.kr ls = 16384) then 0 else 31) else 30

/-- the counts of the lengths from 1 to k - 1, together. -/
def upto (ls : List Nat) : Nat → Nat
  | 0 => 0
  | k + 1 => upto ls k + CN.cnt ls k
theorem upto_nil : ∀ k, upto [] k = 0
  | 0 => rfl
  | k + 1 => by simp [upto, upto_nil k, CN.cnt]
theorem upto_cons (x : Nat) (ls : List Nat) : ∀ k, upto (x :: ls) k = upto ls k + if 0 < x ∧ x < k then 1 else 0
  | 0 => by rw [if_neg (by omega)]; rfl
  | k + 1 => by
    rw [upto, upto_cons x ls k, upto]
    have key : CN.cnt (x :: ls) k = CN.cnt ls k + if 0 < x ∧ x = k then 1 else 0 := by
      unfold CN.cnt
      by_cases h0 : k = 0
      · rw [if_pos h0, if_pos h0, if_neg (by omega)]
      · rw [if_neg h0, if_neg h0, List.count_cons]
        by_cases h1 : x = k
        · rw [if_pos (by simpa using h1), if_pos (by omega)]
        · rw [if_neg (by simpa using h1), if_neg (by omega)]
    rw [key]
    by_cases h1 : 0 < x ∧ x < k
    · rw [if_pos h1, if_neg (by omega), if_pos (by omega)]; omega
    · by_cases h2 : 0 < x ∧ x = k
      · rw [if_neg h1, if_pos h2, if_pos (by omega)]; omega
      · rw [if_neg h1, if_neg h2, if_neg (by omega)]; omega
theorem upto_used (ls : List Nat) (hb : ∀ x ∈ ls, x ≤ 15) : upto ls 16 = used ls := by
  induction ls with
  | nil => rw [upto_nil]; rfl
  | cons x ls ih =>
    have := hb x (by simp)
    rw [upto_cons, ih (fun y hy => hb y (by simp [hy]))]
    unfold used
    rw [List.countP_cons]
    by_cases h : 0 < x
    · rw [if_pos (by omega), if_pos (by simpa using h)]
    · rw [if_neg (by omega), if_neg (by simpa using h)]
theorem upto_le (ls : List Nat) (hb : ∀ x ∈ ls, x ≤ 15) : ∀ k, k ≤ 16 → upto ls k ≤ ls.length := by
  intro k hk
  have h1 : ∀ j, k + j ≤ 16 → upto ls k ≤ upto ls (k + j) := by
    intro j
    induction j with
    | zero => intro _; exact Nat.le_refl _
    | succ j ih => intro h; exact Nat.le_trans (ih (by omega)) (Nat.le_add_right _ _)
  have h2 := h1 (16 - k) (by omega)
  rw [show k + (16 - k) = 16 by omega, upto_used ls hb] at h2
  exact Nat.le_trans h2 List.countP_le_length

theorem check_bad (A0 : Option Addr) (c0 : Nat) (l0 : List Int) (w : World) (hr0 : Kd.C (Kd.int .i64) w A0 l0.length l0) (hbad : 288 < l0.length ∨ l0.any bad = true) :
    Calls Try.prog 20 #[.slice A0 l0.length c0] w fun e w' => e = .returned (.int .i64 1) ∧ Below w.heap.size w w' := by
  have HR := Aside0.mk hr0
  clear hr0
  by_cases h1 : 288 < l0.length
  · have hd : decide ((288 : Int) < (l0.length : Int)) = true := by simp; omega
    have hd2 : decide (288 < l0.length) = true := by simp; omega
    clear hbad
    go_enter Try.func20, Try.ntmps20
    go_wp2
    go_ret
    exact ⟨rfl, Below.refl _ _⟩
  · have hany : l0.any bad = true := by rcases hbad with h | h; omega; exact h
    have hd : decide ((288 : Int) < (l0.length : Int)) = false := by simp; omega
    have hd2 : decide (288 < l0.length) = false := by simp; omega
    have HA := Aside0.mk hany
    clear hbad h1 hany
    go_enter Try.func20, Try.ntmps20
    go_wp2_with (go_at_call 31; refine (containsFunc_calls A0 c0 l0 _ HR.out).mono ?_; rw [HA.out]; rintro e w1 ⟨rfl, hd1⟩)
    go_ret
    exact ⟨rfl, hd1.below⟩

/-- the sum of the lengths below k. -/
def T (ls : List Nat) : Nat → Nat
  | 0 => 0
  | k + 1 => T ls k + CN.cnt ls k * 2 ^ (15 - k)
theorem T_S (ls : List Nat) : ∀ k, T ls (k + 1) = CN.S ls k
  | 0 => by simp [T, CN.S, CN.cnt]
  | k + 1 => by rw [T, T_S ls k, CN.S]

theorem T_mono (ls : List Nat) (k : Nat) : ∀ j, T ls k ≤ T ls (k + j)
  | 0 => Nat.le_refl _
  | j + 1 => Nat.le_trans (T_mono ls k j) (Nat.le_add_right _ _)
theorem T_le (ls : List Nat) (hb : ∀ x ∈ ls, x ≤ 15) (hk : CN.kr ls ≤ 32768) (k : Nat) (h : k ≤ 16) : T ls k ≤ 32768 := by
  have h1 := T_mono ls k (16 - k)
  rw [show k + (16 - k) = 15 + 1 by omega, T_S, CN.S_kr ls hb] at h1
  omega

theorem sum_step (t c k : Nat) (h : t + c * 2 ^ k ≤ 32768) : wrap64 ((t : Int) + wrap64 ((c : Int) * 2 ^ k)) = ((t + c * 2 ^ k : Nat) : Int) := by
  have hp : ((2 : Int) ^ k) = ((2 ^ k : Nat) : Int) := by rw [Int.natCast_pow]; rfl
  rw [hp, ← Int.natCast_mul]
  generalize c * 2 ^ k = m at h ⊢
  unfold wrap64
  omega

set_option maxHeartbeats 1000000 in
theorem check_good (A0 : Option Addr) (c0 : Nat) (ls : List Nat) (w : World) (hr0 : Kd.C (Kd.int .i64) w A0 (ints ls).length (ints ls)) (hc0 : (ints ls).length ≤ c0) (hn : ls.length ≤ 288) (hb : ∀ x ∈ ls, x ≤ 15) :
    Calls Try.prog 20 #[.slice A0 (ints ls).length c0] w fun e w' => e = .returned (.int .i64 (chk ls)) ∧ Below w.heap.size w w' := by
  have HR := Aside0.mk hr0
  have HB := Aside0.mk hb
  have hn' : (ints ls).length ≤ 288 := by rw [ints_length]; exact hn
  have HI : ∀ x ∈ ints ls, 0 ≤ x ∧ x ≤ 15 := by
    intro x hx
    obtain ⟨n, hn, rfl⟩ := List.mem_map.1 hx
    have := hb n hn
    omega
  have HJ := Aside0.mk HI
  have HA : Aside0 ((ints ls).any bad = false) := ⟨by
    rw [ints_any, List.any_eq_false]
    intro x hx
    have := hb x hx
    simp; omega⟩
  have hd : decide ((288 : Int) < ((ints ls).length : Int)) = false := by simp; omega
  have hd2 : decide (288 < (ints ls).length) = false := by simp; omega
  have HFit : ∃ k, lengths_Fit.f k (ints ls) = some (decide (CN.kr ls ≤ 32768)) := ⟨_, fit_eq ls hb hn⟩
  obtain ⟨kf, hkf⟩ := HFit
  have HRN := Aside0.mk (fun m => Kd.C_drewN hr0 m)
  have HC := Aside0.mk hc0
  have HF := Aside0.mk hkf
  clear hr0 hb HI hkf hc0
  by_cases hk : CN.kr ls ≤ 32768
  · have HK := Aside0.mk hk
    have hkd : decide (CN.kr ls ≤ 32768) = true := by simpa using hk
    rw [hkd] at HF
    clear hkd hk
    go_enter Try.func20, Try.ntmps20
    go_wp2_with (first | (go_at_call 31; refine (containsFunc_calls A0 c0 (ints ls) _ HR.out).mono ?_; rw [HA.out]; rintro e w1 ⟨rfl, ⟨m1, rfl⟩⟩) | (go_at_call 33; refine (lengths_Fit.calls kf A0 c0 (ints ls) true _ (HRN.out _) HC.out HF.out).mono ?_; rintro e w2 ⟨rfl, ⟨m2, rfl⟩⟩) | (go_at_call 34; refine (counts_calls A0 c0 (ints ls) _ (HRN.out _) hn' HJ.out).mono ?_; rintro e w3 ⟨rfl, hb3⟩))
    have hW : Below w.heap.size w w3 := (pw_below_drewN (Below.refl w.heap.size w) _).trans (by simpa using hb3)
    have HW := Aside0.mk hW
    clear hb3 hW
    obtain ⟨i0, hi0, hz0, hz1, hz2⟩ := info_parts (P := Try.prog) (e := 3) (z := .int .i64 0) (size := 1) (bytes := 8) (by kernel_rfl)
    have hix := fun (j : Nat) (h : j < 16) (W : World) => run_index_cells (P := Try.prog) 72 3 16 .i64 .i64 i0 Try.underlying72 Try.underlying3 hi0 hz1 (cl0 (ints ls)) (by simp [cl0, cl]) j h W
    have HIX := Aside0.mk hix
    clear hix hi0 hz0 hz1 hz2
    go_loop [3, 4, 19] (fun v3 v4 v19 => ∃ (k : Nat), v19 = .int .i64 k ∧ k ≤ 16 ∧ v3 = .int .i64 (T ls k : Int) ∧ v4 = .int .i64 (upto ls k : Int)) (fun _ _ v19 => 16 - (intOf v19).toNat)
    case atStart => exact ⟨0, rfl, by omega, rfl, rfl⟩
    case round =>
      obtain ⟨k, rfl, hk, rfl, rfl⟩ := hrel
      have hT := T_le ls HB.out HK.out k hk
      have hU := upto_le ls HB.out k hk
      by_cases hlt : k < 16
      · have hix := HIX.out k hlt
        rw [cl0_rd _ _ hlt] at hix
        have hT1 := T_le ls HB.out HK.out (k + 1) (by omega)
        have hU1 := upto_le ls HB.out (k + 1) (by omega)
        rw [T] at hT1
        rw [upto] at hU1
        obtain ⟨C, hC⟩ : ∃ C, C = CN.cnt ls k := ⟨_, rfl⟩
        rw [← hC] at hix hT1 hU1
        have HCC := Aside0.mk hC
        clear hC
        have he : wrap64 ((T ls k : Int) + wrap64 ((C : Int) * 2 ^ (15 - k))) = ((T ls (k + 1) : Nat) : Int) := by
          rw [T, ← HCC.out]
          exact sum_step _ _ _ hT1
        have HE := Aside0.mk he
        clear he
        go_wp2
        go_round
        case rel => exact ⟨k + 1, by go_num, by omega, by rw [HE.out], by rw [upto, ← HCC.out]; go_num⟩
        case measure => simp [intOf]; omega
      · obtain rfl : k = 16 := by omega
        have e1 : T ls 16 = CN.kr ls := by rw [T_S, CN.S_kr ls HB.out]
        have e2 : upto ls 16 = used ls := upto_used ls HB.out
        have hchk : chk ls = if T ls 16 = 32768 ∨ upto ls 16 = 0 ∨ (upto ls 16 = 1 ∧ T ls 16 = 16384) then 0 else 31 := by
          unfold chk
          rw [if_pos HK.out, e1, e2]
        have HCHK := Aside0.mk hchk
        clear hchk e1 e2
        generalize T ls 16 = a at hT HCHK ⊢
        generalize upto ls 16 = b at hU HCHK ⊢
        by_cases g1 : a = 32768
        · subst g1
          go_wp2
          go_ret
          exact ⟨by rw [HCHK.out]; simp, HW.out⟩
        have f1 : ((a : Int) == 32768) = false := by simp; omega
        by_cases g2 : b = 0
        · subst g2
          go_wp2
          go_ret
          exact ⟨by rw [HCHK.out]; simp, HW.out⟩
        have f2 : ((b : Int) == 0) = false := by simp; omega
        by_cases g3 : b = 1
        · have f3 : ((b : Int) == 1) = true := by simp; omega
          have g3a : 1 ≤ b ∧ b ≤ 1 := by omega
          clear g3
          by_cases g4 : a = 16384
          · have f4 : ((a : Int) == 16384) = true := by simp; omega
            have g4a : 16384 ≤ a ∧ a ≤ 16384 := by omega
            clear g4
            go_wp2
            go_ret
            exact ⟨by rw [HCHK.out, if_pos (by omega)]; rfl, HW.out⟩
          · have f4 : ((a : Int) == 16384) = false := by simp; omega
            go_wp2
            go_ret
            exact ⟨by rw [HCHK.out, if_neg (by omega)]; rfl, HW.out⟩
        · have f3 : ((b : Int) == 1) = false := by simp; omega
          go_wp2
          go_ret
          exact ⟨by rw [HCHK.out, if_neg (by omega)]; rfl, HW.out⟩
  · have hkd : decide (CN.kr ls ≤ 32768) = false := by simpa using hk
    rw [hkd] at HF
    have hchk : chk ls = 30 := by unfold chk; rw [if_neg hk]
    have HCHK := Aside0.mk hchk
    clear hkd hk hchk
    go_enter Try.func20, Try.ntmps20
    go_wp2_with (first | (go_at_call 31; refine (containsFunc_calls A0 c0 (ints ls) _ HR.out).mono ?_; rw [HA.out]; rintro e w1 ⟨rfl, ⟨m1, rfl⟩⟩) | (go_at_call 33; refine (lengths_Fit.calls kf A0 c0 (ints ls) false _ (HRN.out _) HC.out HF.out).mono ?_; rintro e w2 ⟨rfl, ⟨m2, rfl⟩⟩))
    go_ret
    exact ⟨by rw [HCHK.out]; rfl, pw_below_drewN (Below.refl _ _) _⟩
end Go.Proofs.Ytgbfkfmjbacemaa.Cn
