/- The walk of CanonOrders. -/
import Derived.Test.YtgbfkfmjbacemaaCnM
namespace Go.Proofs.Ytgbfkfmjbacemaa.Cn
open Go.RowKit Go.Proofs.YtgbfkfmjbacemaaW.PrintWords Go.Proofs.YtgbfkfmjbacemaaW.PrintLast Go.Proofs.YtgbfkfmjbacemaaW.PrintMore Go.Proofs.Ytgbfkfmjbacemaa.PCanonReads Go.Proofs.Ytgbfkfmjbacemaa.Lb
attribute [local go_sem] max2_int min2_int max_two min_two
set_option linter.unusedVariables false
set_option linter.unusedSimpArgs false

theorem list_cases (l0 : List Int) : (288 < l0.length ∨ l0.any bad = true) ∨ ∃ ls : List Nat, l0 = ints ls ∧ (∀ x ∈ ls, x ≤ 15) ∧ ls.length ≤ 288 := by
  by_cases h1 : 288 < l0.length
  · exact .inl (.inl h1)
  · cases h2 : l0.any bad with
    | true => exact .inl (.inr rfl)
    | false =>
      refine .inr ⟨l0.map Int.toNat, ?_, ?_, by simpa using Nat.le_of_not_lt h1⟩
      · apply List.ext_getElem (by simp [ints])
        intro j hj _
        have := List.any_eq_false.1 h2 l0[j] (List.getElem_mem hj)
        simp [bad] at this
        simp [ints]
        omega
      · intro x hx
        obtain ⟨y, hy, rfl⟩ := List.mem_map.1 hx
        have := List.any_eq_false.1 h2 y hy
        simp [bad] at this
        omega

/-- canon.Codes of whatever list. -/
theorem codes_any (A0 : Option Addr) (c0 : Nat) (l0 : List Int) (w : World) (hr0 : Kd.C (Kd.int .i64) w A0 l0.length l0) (hc0 : l0.length ≤ c0) :
    (∃ r, r ≠ 0 ∧ Calls Try.prog 8 #[.slice A0 l0.length c0] w fun e w' => e = .returned (.tuple #[.slice none 0 0, .int .i64 r]) ∧ Below w.heap.size w w') ∨
    ∃ ls : List Nat, l0 = ints ls ∧ (∀ x ∈ ls, x ≤ 15) ∧ ls.length ≤ 288 ∧ chk ls = 0 := by
  rcases list_cases l0 with hbad | ⟨ls, rfl, hb, hn⟩
  · exact .inl ⟨1, by decide, codes_fail A0 c0 l0 w 1 (by decide) (check_bad A0 c0 l0 w hr0 hbad)⟩
  · by_cases hk : chk ls = 0
    · exact .inr ⟨ls, rfl, hb, hn, hk⟩
    · exact .inl ⟨chk ls, hk, codes_fail A0 c0 (ints ls) w _ hk (check_good A0 c0 ls w hr0 hc0 hn hb)⟩

set_option maxHeartbeats 1000000 in
theorem orders_long (A0 : Option Addr) (c0 : Nat) (l0 : List Int) (w : World) (hl : 300 < l0.length) :
    Calls Try.prog 3 #[.slice A0 l0.length c0] w fun e w' => e = .returned (.bool true) ∧ Below w.heap.size w w' := by
  have g1 : decide ((300 : Int) < (l0.length : Int)) = true := by simp; omega
  have g2 : decide (300 < l0.length) = true := by simpa using hl
  go_enter Try.func3, Try.ntmps3
  go_wp2_with (go_at_call 7; refine (alive_calls _).mono ?_; rintro e w1 ⟨rfl, hb1⟩)
  go_ret
  exact ⟨rfl, hb1⟩

set_option maxHeartbeats 1000000 in
theorem orders_fail (A0 : Option Addr) (c0 : Nat) (l0 : List Int) (w : World) (hl : l0.length ≤ 300) (r : Int) (hr : r ≠ 0)
    (hc : ∀ W, Below w.heap.size w W → Calls Try.prog 8 #[.slice A0 l0.length c0] W fun e w' => e = .returned (.tuple #[.slice none 0 0, .int .i64 r]) ∧ Below W.heap.size W w') :
    Calls Try.prog 3 #[.slice A0 l0.length c0] w fun e w' => e = .returned (.bool true) ∧ Below w.heap.size w w' := by
  have g1 : decide ((300 : Int) < (l0.length : Int)) = false := by simp; omega
  have g2 : decide (300 < l0.length) = false := by simpa using hl
  have f1 : (r != 0) = true := by simpa using hr
  have HC := Aside0.mk hc
  clear hc
  go_enter Try.func3, Try.ntmps3
  go_wp2_with (first | (go_at_call 7; refine (alive_calls _).mono ?_; rintro e w1 ⟨rfl, hb1⟩; have HB1 := Aside0.mk hb1; clear hb1) | (go_at_call 8; refine (HC.out _ HB1.out).mono ?_; rintro e w2 ⟨rfl, hb2⟩))
  go_ret
  exact ⟨rfl, below_then HB1.out HB1.out.size hb2⟩

theorem shift_one (L c : Nat) (hL : L ≤ 15) (h : c < 2 ^ L) : decide ((2 : Int) ^ L % 4294967296 ≤ (c : Int)) = false := by
  have hp : 2 ^ L ≤ 2 ^ 15 := Nat.pow_le_pow_right (by omega) hL
  have e : ((2 : Int) ^ L) = ((2 ^ L : Nat) : Int) := by rw [Int.natCast_pow]; rfl
  rw [e]
  generalize 2 ^ L = p at h hp ⊢
  have hp' : p ≤ 32768 := hp
  simp only [decide_eq_false_iff_not]
  omega

theorem shift_mod (L c : Nat) (hL : L ≤ 15) (h : c < 2 ^ L) : ((c : Int) * 2 ^ (15 - L) % 4294967296) = ((c * 2 ^ (15 - L) : Nat) : Int) := by
  have h1 : c * 2 ^ (15 - L) < 2 ^ L * 2 ^ (15 - L) := Nat.mul_lt_mul_of_pos_right h (Nat.pow_pos (by omega))
  rw [← Nat.pow_add, show L + (15 - L) = 15 by omega] at h1
  have e : ((2 : Int) ^ (15 - L)) = ((2 ^ (15 - L) : Nat) : Int) := by rw [Int.natCast_pow]; rfl
  rw [e, ← Int.natCast_mul]
  generalize c * 2 ^ (15 - L) = p at h1 ⊢
  have h2 : p < 32768 := h1
  exact Int.emod_eq_of_lt (by omega) (by omega)
theorem shift_cmp (L M c d : Nat) (hL : L ≤ 15) (hM : M ≤ 15) (hc : c < 2 ^ L) (hd : d < 2 ^ M) (h : c * 2 ^ (15 - L) < d * 2 ^ (15 - M)) :
    decide ((d : Int) * 2 ^ (15 - M) % 4294967296 ≤ (c : Int) * 2 ^ (15 - L) % 4294967296) = false := by
  rw [shift_mod L c hL hc, shift_mod M d hM hd]
  generalize c * 2 ^ (15 - L) = p at h ⊢
  generalize d * 2 ^ (15 - M) = q at h ⊢
  simp only [decide_eq_false_iff_not]
  omega

set_option maxHeartbeats 4000000 in
set_option maxRecDepth 100000 in
theorem orders_good (A0 : Option Addr) (c0 : Nat) (ls : List Nat) (w : World) (hr0 : Kd.C (Kd.int .i64) w A0 (ints ls).length (ints ls)) (hc0 : (ints ls).length ≤ c0) (hn : ls.length ≤ 288) (hb : ∀ x ∈ ls, x ≤ 15) (hk : chk ls = 0) :
    Calls Try.prog 3 #[.slice A0 (ints ls).length c0] w fun e w' => e = .returned (.bool true) ∧ Below w.heap.size w w' := by
  have hkr : CN.kr ls ≤ 32768 := by
    unfold chk at hk
    split at hk
    · assumption
    · cases hk
  have g1 : decide ((300 : Int) < ((ints ls).length : Int)) = false := by rw [ints_length]; simp; omega
  have g2 : decide (300 < (ints ls).length) = false := by rw [ints_length]; simp; omega
  have hn' : (ints ls).length ≤ 288 := by rw [ints_length]; exact hn
  have HR := Aside0.mk hr0
  have HB := Aside0.mk hb
  have HK := Aside0.mk hkr
  have HKC := Aside0.mk hk
  have HC := Aside0.mk hc0
  clear hr0 hb hkr hk hc0
  go_enter Try.func3, Try.ntmps3
  go_wp2_with (first | (go_at_call 7; refine (alive_calls _).mono ?_; rintro e w1 ⟨rfl, hb1⟩; have HB1 := Aside0.mk hb1; clear hb1) | (go_at_call 8; refine (codes_slice A0 c0 ls _ (Kd.C_below HR.out HB1.out) HC.out hn HB.out HKC.out).mono ?_; rintro e w2 ⟨A1, c1, rfl, H2⟩))
  have hW : Below w.heap.size w w2 := below_then HB1.out HB1.out.size H2.out.2.2
  have HW := Aside0.mk hW
  obtain ⟨_, _, hC1⟩ := Kd.R_reads' H2.out.2.1
  have HCO := Aside0.mk hC1
  have HL := Aside0.mk (Kd.C_below HR.out hW)
  clear hW hC1
  go_loopw [5, 6, 7, 8, 26] (fun v5 v6 v7 v8 v26 w' => ∃ (i : Nat), v26 = .int .i64 i ∧ i ≤ ls.length ∧ Drawn0 w2 w') (fun _ _ _ _ v26 _ => ls.length - (intOf v26).toNat)
  case atStart => exact ⟨0, rfl, Nat.zero_le _, Drawn0.refl _⟩
  case round =>
    obtain ⟨i, rfl, hi, ⟨m, rfl⟩⟩ := hrel
    by_cases hlt : i < ls.length
    · have hlt' : i < (ints ls).length := by rw [ints_length]; exact hlt
      obtain ⟨ad, e1, hx⟩ := Kd.at_int HL.out (i : Int) (by omega) (by omega)
      cases e1
      rw [Int.toNat_natCast, ints_rd ls i hlt] at hx
      obtain ⟨ad1, e1, hy⟩ := Kd.at_int HCO.out (i : Int) (by omega) (by rw [codes_length]; omega)
      cases e1
      rw [Int.toNat_natCast, codes_rd ls i hlt] at hy
      have hd : ls.getD i 0 = ls[i] := by rw [List.getD_eq_getElem?_getD, List.getElem?_eq_getElem hlt, Option.getD_some]
      have hL15 := HB.out _ (List.getElem_mem hlt)
      generalize hLL : ls[i] = L at *
      generalize hcc : CN.code ls i = c at *
      have hil : ((i : Nat) : Int) < (ls.length : Int) := by omega
      have hil2 : ((i : Nat) : Int) < ((ints ls).length : Int) := by omega
      by_cases hL0 : L = 0
      · have hc0 : c = 0 := by rw [← hcc]; exact code_zero (by rw [hd, hL0])
        have h1 : decide ((0 : Int) < (L : Int)) = false := by simp; omega
        have h2 : decide (0 < L) = false := by simp; omega
        have h3 : ((L : Int) == 0) = true := by simp; omega
        have h4 : ((c : Int) != 0) = false := by simp; omega
        clear hLL hcc hd hL0 hc0
        go_wp2
        go_quiet (fail)
        go_wp2
        go_loopw [6, 7, 8, 62] (fun v6 v7 v8 v62 w' => ∃ (k : Nat), v62 = .int .i64 k ∧ k ≤ ls.length ∧ Drawn0 w2 w') (fun _ _ _ v62 _ => ls.length - (intOf v62).toNat)
        case atStart => exact ⟨0, rfl, Nat.zero_le _, ⟨⟨_, rfl⟩⟩⟩
        case round =>
          obtain ⟨k, rfl, hk, ⟨m2, rfl⟩⟩ := hrel
          by_cases hkt : k < ls.length
          · have hkt' : k < (ints ls).length := by rw [ints_length]; exact hkt
            go_wp2
            go_roundw
            case rel => exact ⟨k + 1, by go_num, by omega, ⟨⟨_, rfl⟩⟩⟩
            case measure => simp [intOf]; omega
          · have hkt' : ¬ k < (ints ls).length := by rw [ints_length]; exact hkt
            go_wp2
            go_roundw
            case rel => exact ⟨i + 1, by go_num, by omega, ⟨⟨_, rfl⟩⟩⟩
            case measure => simp [intOf]; omega
      · have h1 : decide ((0 : Int) < (L : Int)) = true := by simp; omega
        have h2 : decide (0 < L) = true := by simp; omega
        have h3 : ((L : Int) == 0) = false := by simp; omega
        have hcl := CN.code_lt_pow HB.out HK.out (s := i) (by rw [hd]; exact hL0)
        rw [hcc, hd] at hcl
        have h4 : decide ((2 : Int) ^ L % 4294967296 ≤ (c : Int)) = false := shift_one L c hL15 hcl
        have HCC := Aside0.mk hcc
        have HD := Aside0.mk hd
        have hL0p : 0 < L := by omega
        clear hLL hcc hd hL0 hcl
        go_wp2
        go_quiet (fail)
        go_wp2
        go_loopw [6, 7, 8, 62] (fun v6 v7 v8 v62 w' => ∃ (k : Nat), v62 = .int .i64 k ∧ k ≤ ls.length ∧ Drawn0 w2 w') (fun _ _ _ v62 _ => ls.length - (intOf v62).toNat)
        case atStart => exact ⟨0, rfl, Nat.zero_le _, ⟨⟨_, rfl⟩⟩⟩
        case round =>
          obtain ⟨k, rfl, hk, ⟨m2, rfl⟩⟩ := hrel
          by_cases hkt : k < ls.length
          · have hkt' : k < (ints ls).length := by rw [ints_length]; exact hkt
            have hkl : ((k : Nat) : Int) < (ls.length : Int) := by omega
            have hkl2 : ((k : Nat) : Int) < ((ints ls).length : Int) := by omega
            obtain ⟨ad2, e1, hx2⟩ := Kd.at_int HL.out (k : Int) (by omega) (by omega)
            cases e1
            rw [Int.toNat_natCast, ints_rd ls k hkt] at hx2
            obtain ⟨ad3, e1, hy2⟩ := Kd.at_int HCO.out (k : Int) (by omega) (by rw [codes_length]; omega)
            cases e1
            rw [Int.toNat_natCast, codes_rd ls k hkt] at hy2
            have hd2 : ls.getD k 0 = ls[k] := by rw [List.getD_eq_getElem?_getD, List.getElem?_eq_getElem hkt, Option.getD_some]
            have hM15 := HB.out _ (List.getElem_mem hkt)
            have hcl := CN.code_lt_pow HB.out HK.out (s := i) (by rw [HD.out]; omega)
            rw [HCC.out, HD.out] at hcl
            have HCL := Aside0.mk hcl
            clear hcl
            have hz : ls[k] = 0 ∨ Aside0 (CN.code ls k < 2 ^ ls[k]) := by
              by_cases h : ls[k] = 0
              · exact .inl h
              · have := CN.code_lt_pow HB.out HK.out (s := k) (by rw [hd2]; exact h)
                rw [hd2] at this
                exact .inr ⟨this⟩
            have hord : ls[k] ≠ 0 → (L < ls[k] ∨ L = ls[k] ∧ i < k) → Aside0 (c * 2 ^ (15 - L) < CN.code ls k * 2 ^ (15 - ls[k])) := by
              intro h0 h
              have := CN.code_order HB.out (i := i) (k := k) (by rw [HD.out]; omega) (by rw [hd2]; exact h0) (by rw [HD.out, hd2]; exact h)
              rw [HD.out, hd2, HCC.out] at this
              exact ⟨this⟩
            generalize hMM : ls[k] = M at *
            generalize hdd : CN.code ls k = d at *
            clear hMM hdd hd2
            by_cases hM0 : M = 0
            · have j3 : ((M : Int) == 0) = true := by simp; omega
              clear hz hord hM0
              go_wp2
              go_roundw
              case rel => exact ⟨k + 1, by go_num, by omega, ⟨⟨_, rfl⟩⟩⟩
              case measure => simp [intOf]; omega
            · have j3 : ((M : Int) == 0) = false := by simp; omega
              have hzz : Aside0 (d < 2 ^ M) := by rcases hz with h | h; exact absurd h hM0; exact h
              clear hz
              have b1 : (0 : Int) ≤ 15 - (L : Int) := by omega
              have b2 : (15 : Int) - (L : Int) ≤ 32 := by omega
              have b3 : (0 : Int) ≤ 15 - (M : Int) := by omega
              have b4 : (15 : Int) - (M : Int) ≤ 32 := by omega
              by_cases hq1 : L < M
              · have j1 : decide ((L : Int) < (M : Int)) = true := by simp; omega
                have j2 : decide (L < M) = true := by simpa using hq1
                have j4 : decide ((d : Int) * 2 ^ (15 - M) % 4294967296 ≤ (c : Int) * 2 ^ (15 - L) % 4294967296) = false := shift_cmp L M c d (by omega) (by omega) HCL.out hzz.out (hord hM0 (.inl hq1)).out
                clear hord hM0
                go_wp2
                go_quiet (fail)
                go_wp2
                go_quiet (fail)
                go_wp2
                go_roundw
                case rel => exact ⟨k + 1, by go_num, by omega, ⟨⟨_, rfl⟩⟩⟩
                case measure => simp [intOf]; omega
              · have j1 : decide ((L : Int) < (M : Int)) = false := by simp; omega
                have j2 : decide (L < M) = false := by simpa using hq1
                by_cases hq2 : L = M
                · have j5 : ((L : Int) == (M : Int)) = true := by simp; omega
                  by_cases hq3 : i < k
                  · have j6 : decide ((i : Int) < (k : Int)) = true := by simp; omega
                    have j7 : decide (i < k) = true := by simpa using hq3
                    have j4 : decide ((d : Int) * 2 ^ (15 - M) % 4294967296 ≤ (c : Int) * 2 ^ (15 - L) % 4294967296) = false := shift_cmp L M c d (by omega) (by omega) HCL.out hzz.out (hord hM0 (.inr ⟨hq2, hq3⟩)).out
                    have hq2a : L ≤ M ∧ M ≤ L := by omega
                    clear hord hM0 hq2
                    go_wp2
                    go_quiet (fail)
                    go_wp2
                    go_quiet (fail)
                    go_wp2
                    go_roundw
                    case rel => exact ⟨k + 1, by go_num, by omega, ⟨⟨_, rfl⟩⟩⟩
                    case measure => simp [intOf]; omega
                  · have j6 : decide ((i : Int) < (k : Int)) = false := by simp; omega
                    have j7 : decide (i < k) = false := by simpa using hq3
                    have hq2a : L ≤ M ∧ M ≤ L := by omega
                    clear hord hM0 hq2
                    go_wp2
                    go_quiet (fail)
                    go_wp2
                    go_quiet (fail)
                    go_wp2
                    go_roundw
                    case rel => exact ⟨k + 1, by go_num, by omega, ⟨⟨_, rfl⟩⟩⟩
                    case measure => simp [intOf]; omega
                · have j5 : ((L : Int) == (M : Int)) = false := by simp; omega
                  clear hord hM0
                  go_wp2
                  go_quiet (fail)
                  go_wp2
                  go_quiet (fail)
                  go_wp2
                  go_roundw
                  case rel => exact ⟨k + 1, by go_num, by omega, ⟨⟨_, rfl⟩⟩⟩
                  case measure => simp [intOf]; omega
          · have hkt' : ¬ k < (ints ls).length := by rw [ints_length]; exact hkt
            go_wp2
            go_roundw
            case rel => exact ⟨i + 1, by go_num, by omega, ⟨⟨_, rfl⟩⟩⟩
            case measure => simp [intOf]; omega
    · have hge : ¬ i < (ints ls).length := by rw [ints_length]; exact hlt
      go_wp2
      go_ret
      exact ⟨rfl, pw_below_drewN HW.out _⟩
end Go.Proofs.Ytgbfkfmjbacemaa.Cn
