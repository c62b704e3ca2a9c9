/- The walk of CanonSums. -/
import Derived.Test.YtgbfkfmjbacemaaCnP
namespace Go.Proofs.Ytgbfkfmjbacemaa.Cn
open Go.RowKit Go.Proofs.YtgbfkfmjbacemaaW.PrintWords Go.Proofs.YtgbfkfmjbacemaaW.PrintLast Go.Proofs.YtgbfkfmjbacemaaW.PrintMore Go.Proofs.Ytgbfkfmjbacemaa.PCanonReads Go.Proofs.Ytgbfkfmjbacemaa.Lb
attribute [local go_sem] max2_int min2_int max_two min_two
set_option linter.unusedVariables false
set_option linter.unusedSimpArgs false

theorem at_calls (g : Nat) (f0 : List Int) (f1 : Int) (w0 w : World) (hI : IsS61 w0 w g f0 f1) :
    Calls Try.prog 15 #[.pointer (some ⟨g, 0, none⟩)] w fun e w' => e = .returned (.int .i64 f1) ∧ Drawn0 w w' := by
  obtain ⟨A0, c0, hb, _, _⟩ := hI
  have h1 := cellS61_1 hb
  clear hb
  go_enter Try.func15, Try.ntmps15
  go_wp2
  go_ret
  exact ⟨rfl, Drawn0.refl _⟩

set_option maxHeartbeats 1000000 in
theorem sums_long (A0 B0 : Option Addr) (c0 d0 : Nat) (l0 : List Int) (n : Nat) (w : World) (hl : 40 < l0.length) :
    Calls Try.prog 5 #[.slice A0 l0.length c0, .slice B0 n d0] w fun e w' => e = .returned (.bool true) ∧ Below w.heap.size w w' := by
  have g1 : decide ((40 : Int) < (l0.length : Int)) = true := by simp; omega
  have g2 : decide (40 < l0.length) = true := by simpa using hl
  go_enter Try.func5, Try.ntmps5
  go_wp2_with (go_at_call 7; refine (alive_calls _).mono ?_; rintro e w1 ⟨rfl, hb1⟩)
  go_ret
  exact ⟨rfl, hb1⟩

set_option maxHeartbeats 1000000 in
theorem sums_long2 (A0 B0 : Option Addr) (c0 d0 : Nat) (l0 : List Int) (n : Nat) (w : World) (hl : l0.length ≤ 40) (hn : 30 < n) :
    Calls Try.prog 5 #[.slice A0 l0.length c0, .slice B0 n d0] w fun e w' => e = .returned (.bool true) ∧ Below w.heap.size w w' := by
  have g1 : decide ((40 : Int) < (l0.length : Int)) = false := by simp; omega
  have g2 : decide (40 < l0.length) = false := by simpa using hl
  have g3 : decide ((30 : Int) < (n : Int)) = true := by simp; omega
  have g4 : decide (30 < n) = true := by simpa using hn
  go_enter Try.func5, Try.ntmps5
  go_wp2_with (go_at_call 7; refine (alive_calls _).mono ?_; rintro e w1 ⟨rfl, hb1⟩)
  go_ret
  exact ⟨rfl, hb1⟩

set_option maxHeartbeats 1000000 in
theorem sums_fail (A0 B0 : Option Addr) (c0 d0 : Nat) (l0 : List Int) (n : Nat) (w : World) (hr0 : Kd.C (Kd.int .i64) w A0 l0.length l0) (hc0 : l0.length ≤ c0) (hl : l0.length ≤ 40) (hn : n ≤ 30) (r : Int) (hr : r ≠ 0)
    (hc : ∀ W, Below w.heap.size w W → Calls Try.prog 9 #[.slice A0 l0.length c0] W fun e w' => e = .returned (.tuple #[.pointer none, .int .i64 r]) ∧ Below W.heap.size W w') :
    Calls Try.prog 5 #[.slice A0 l0.length c0, .slice B0 n d0] w fun e w' => e = .returned (.bool true) ∧ Below w.heap.size w w' := by
  have g1 : decide ((40 : Int) < (l0.length : Int)) = false := by simp; omega
  have g2 : decide (40 < l0.length) = false := by simpa using hl
  have g3 : decide ((30 : Int) < (n : Int)) = false := by simp; omega
  have g4 : decide (30 < n) = false := by simpa using hn
  have f1 : (r != 0) = true := by simpa using hr
  have HC := Aside0.mk hc
  have HR := Aside0.mk hr0
  clear hc hr0
  go_enter Try.func5, Try.ntmps5
  go_wp2_with (first | (go_at_call 7; refine (alive_calls _).mono ?_; rintro e w1 ⟨rfl, hb1⟩; have HB1 := Aside0.mk hb1; clear hb1) | (go_at_call 9; refine (HC.out _ HB1.out).mono ?_; rintro e w2 ⟨rfl, hb2⟩))
  have hW : Below w.heap.size w w2 := below_then HB1.out HB1.out.size hb2
  have HW := Aside0.mk hW
  have HL := Aside0.mk (Kd.C_below HR.out hW)
  clear hW hb2
  go_loopw [7, 8, 10, 34] (fun v7 v8 v10 v34 w' => ∃ (i : Nat) (u m : Int), v34 = .int .i64 i ∧ v7 = .int .i64 u ∧ v8 = .int .i64 m ∧ i ≤ l0.length ∧ 0 ≤ u ∧ u ≤ i ∧ Drawn0 w2 w') (fun _ _ _ v34 _ => l0.length - (intOf v34).toNat)
  case atStart => exact ⟨0, 0, 0, rfl, rfl, rfl, Nat.zero_le _, Int.le_refl _, Int.le_refl _, Drawn0.refl _⟩
  case round =>
    obtain ⟨i, u, m, rfl, rfl, rfl, hi, hu, hu2, ⟨m1, rfl⟩⟩ := hrel
    by_cases hlt : i < l0.length
    · obtain ⟨ad, e1, hx⟩ := Kd.at_int HL.out (i : Int) (by omega) (by omega)
      cases e1
      have hil : ((i : Nat) : Int) < (l0.length : Int) := by omega
      rw [Int.toNat_natCast] at hx
      generalize rd l0 (i : Int) = x at hx
      by_cases hx0 : 0 < x
      · have h1 : decide ((0 : Int) < x) = true := by simpa using hx0
        go_wp2
        go_roundw
        case rel => exact ⟨i + 1, u + 1, _, by go_num, by go_num, rfl, by omega, by omega, by omega, ⟨⟨_, rfl⟩⟩⟩
        case measure => simp [intOf]; omega
      · have h1 : decide ((0 : Int) < x) = false := by simpa using hx0
        go_wp2
        go_roundw
        case rel => exact ⟨i + 1, u, m, by go_num, rfl, rfl, by omega, by omega, by omega, ⟨⟨_, rfl⟩⟩⟩
        case measure => simp [intOf]; omega
    · go_wp2
      go_ret
      exact ⟨rfl, pw_below_drewN HW.out _⟩

theorem read_to (gT gR : Nat) (ls bs : List Nat) (i s f j : Nat) (fi : Int) (w0 w : World) (hT : IsT w0 gT ls) (hI : IsS61 w0 w gR (ints bs) (i : Int)) (hB : Below w0.heap.size w0 w)
    (hb : ∀ x ∈ ls, x ≤ 15) (hk : CN.kr ls ≤ 32768) (hN : ls.length ≤ 288) (hbs : ∀ x ∈ bs, x < 256) (hl : bs.length ≤ 1000000) (hi : i ≤ 8 * bs.length) (hrd : rd1 ls (bitsOf bs) 17 i 0 0 = (s, f, j)) (hf : (f : Int) = fi) :
    Calls Try.prog 13 #[.pointer (some ⟨gT, 0, none⟩), .pointer (some ⟨gR, 0, none⟩)] w fun e w' =>
      e = .returned (.tuple #[.int .i64 (s : Int), .int .i64 fi]) ∧ IsS61 w0 w' gR (ints bs) (j : Int) ∧ Below w0.heap.size w0 w' := by
  have h := read_calls gT gR ls bs i w0 w hT hI hB hb hk hN hbs hl hi
  rw [hrd] at h
  simp only [hf] at h
  exact h.mono fun e w' h => ⟨h.1, h.2.1, h.2.2.1⟩

theorem code_to (g : Nat) (ls : List Nat) (s n : Nat) (w : World) (hT : IsT w g ls) (hN : ls.length ≤ 288) (hn : ls.getD s 0 = n) :
    Calls Try.prog 16 #[.pointer (some ⟨g, 0, none⟩), .int .i64 (s : Int)] w fun e w' => e = .returned (.tuple #[.int .u32 (CN.code ls s : Int), .int .i64 (n : Int)]) ∧ Drawn0 w w' := by
  have h := code_calls g ls (s : Int) w hT hN
  unfold codeOf at h
  rw [if_pos (by omega), Int.toNat_natCast, hn] at h
  exact h

theorem used_succ (ls : List Nat) (i : Nat) (h : i < ls.length) : used (ls.take (i + 1)) = used (ls.take i) + if 0 < ls[i] then 1 else 0 := by
  unfold used
  rw [List.take_succ_eq_append_getElem h, List.countP_append]
  congr 1
  by_cases h0 : 0 < ls[i] <;> simp [h0]

theorem bits_le (bs : List Nat) : ∀ b ∈ bitsOf bs, b ≤ 1 := by
  intro b hb
  unfold bitsOf at hb
  obtain ⟨x, _, hx⟩ := List.mem_flatMap.1 hb
  obtain ⟨j, _, rfl⟩ := List.mem_map.1 hx
  omega

theorem chk_full {ls : List Nat} (hk : chk ls = 0) (hu : 2 ≤ used ls) : CN.kr ls = 32768 := by
  unfold chk at hk
  split at hk
  · split at hk
    · next h => rcases h with h | h | h
                · exact h
                · omega
                · omega
    · cases hk
  · cases hk

set_option maxHeartbeats 4000000 in
set_option maxRecDepth 100000 in
theorem sums_good (A0 B0 : Option Addr) (c0 d0 : Nat) (ls bs : List Nat) (w : World) (hr0 : Kd.C (Kd.int .i64) w A0 (ints ls).length (ints ls)) (hc0 : (ints ls).length ≤ c0) (hb0 : Kd.C (Kd.int .u8) w B0 (ints bs).length (ints bs)) (hd0 : (ints bs).length ≤ d0)
    (hl : ls.length ≤ 40) (hn : bs.length ≤ 30) (hb : ∀ x ∈ ls, x ≤ 15) (hbs : ∀ x ∈ bs, x < 256) (hk : chk ls = 0) :
    Calls Try.prog 5 #[.slice A0 (ints ls).length c0, .slice B0 (ints bs).length d0] w fun e w' => e = .returned (.bool true) ∧ Below w.heap.size w w' := by
  have g1 : decide ((40 : Int) < ((ints ls).length : Int)) = false := by rw [ints_length]; simp; omega
  have g2 : decide (40 < (ints ls).length) = false := by rw [ints_length]; simpa using hl
  have g3 : decide ((30 : Int) < ((ints bs).length : Int)) = false := by rw [ints_length]; simp; omega
  have g4 : decide (30 < (ints bs).length) = false := by rw [ints_length]; simpa using hn
  have hl' : (ints ls).length ≤ 40 := by rw [ints_length]; exact hl
  have hn' : (ints bs).length ≤ 30 := by rw [ints_length]; exact hn
  have hl288 : ls.length ≤ 288 := by omega
  have HN8 := Aside0.mk hl288
  have HC := Aside0.mk hc0
  have HD := Aside0.mk hd0
  have HR := Aside0.mk hr0
  have HRB := Aside0.mk hb0
  have HB := Aside0.mk hb
  have HBS := Aside0.mk hbs
  have HK := Aside0.mk hk
  have hkr : CN.kr ls ≤ 32768 := by
    unfold chk at hk
    split at hk
    · assumption
    · cases hk
  have HKR := Aside0.mk hkr
  clear hc0 hr0 hb0 hd0 hb hbs hk hkr hl288
  go_enter Try.func5, Try.ntmps5
  go_wp2_with (first | (go_at_call 7; refine (alive_calls _).mono ?_; rintro e w1 ⟨rfl, hb1⟩; have HB1 := Aside0.mk hb1; clear hb1) | (go_at_call 9; refine (new_good A0 c0 ls _ (Kd.C_below HR.out HB1.out) HC.out HN8.out HB.out HK.out).mono ?_; rintro e w2 ⟨gT, rfl, H2⟩))
  have hW : Below w.heap.size w w2 := below_then HB1.out HB1.out.size H2.2.2
  have HW := Aside0.mk hW
  have HL := Aside0.mk (Kd.C_below HR.out hW)
  have HT := Aside0.mk H2.2.1
  have HLB := Aside0.mk (Kd.C_below HRB.out hW)
  clear hW H2
  go_loopw [7, 8, 10, 34] (fun v7 v8 v10 v34 w' => ∃ (i u m : Nat), v34 = .int .i64 i ∧ v7 = .int .i64 (u : Int) ∧ v8 = .int .i64 (m : Int) ∧ i ≤ ls.length ∧ u ≤ i ∧ Aside0 (u = used (ls.take i)) ∧ Aside0 (m = lg ls i) ∧ Drawn0 w2 w') (fun _ _ _ v34 _ => ls.length - (intOf v34).toNat)
  case atStart => exact ⟨0, 0, 0, rfl, rfl, rfl, Nat.zero_le _, Nat.le_refl _, ⟨by simp [used]⟩, ⟨by simp [lg]⟩, Drawn0.refl _⟩
  case round =>
    obtain ⟨i, u, m, rfl, rfl, rfl, hi, hu2, HU, HM, ⟨m1, rfl⟩⟩ := hrel
    by_cases hlt : i < ls.length
    · have hlt' : i < (ints ls).length := by rw [ints_length]; exact hlt
      obtain ⟨ad, e1, hx⟩ := Kd.at_int HL.out (i : Int) (by omega) (by omega)
      cases e1
      rw [Int.toNat_natCast, ints_rd ls i hlt] at hx
      have hil : ((i : Nat) : Int) < (ls.length : Int) := by omega
      have hil2 : ((i : Nat) : Int) < ((ints ls).length : Int) := by omega
      have HUS := Aside0.mk (used_succ ls i hlt)
      have HMS := Aside0.mk (lg_succ ls i hlt)
      generalize hxx : ls[i] = x at *
      by_cases hx0 : 0 < x
      · have h1 : decide ((0 : Int) < (x : Int)) = true := by simp; omega
        have h2 : decide (0 < x) = true := by simpa using hx0
        clear hxx
        go_wp2
        go_roundw
        case rel => exact ⟨i + 1, u + 1, max m x, by go_num, by go_num, by first | rfl | (congr 1; omega) | (congr 1; simp only [Nat.max_def, Int.max_def]; split <;> split <;> omega), by omega, by omega, ⟨by rw [HUS.out, ← HU.out, if_pos hx0]⟩, ⟨by rw [HMS.out, ← HM.out]⟩, ⟨⟨_, rfl⟩⟩⟩
        case measure => simp [intOf]; omega
      · have h1 : decide ((0 : Int) < (x : Int)) = false := by simp; omega
        have h2 : decide (0 < x) = false := by simpa using hx0
        clear hxx
        go_wp2
        go_roundw
        case rel => exact ⟨i + 1, u, m, by go_num, rfl, rfl, by omega, by omega, ⟨by rw [HUS.out, ← HU.out, if_neg hx0, Nat.add_zero]⟩, ⟨by rw [HMS.out, ← HM.out]; omega⟩, ⟨⟨_, rfl⟩⟩⟩
        case measure => simp [intOf]; omega
    · have hlt' : ¬ i < (ints ls).length := by rw [ints_length]; exact hlt
      have HU2 : Aside0 (u = used ls) := ⟨by rw [HU.out, List.take_of_length_le (by omega)]⟩
      have HM2 : Aside0 (m = lg ls ls.length) := ⟨by rw [HM.out, show i = ls.length by omega]⟩
      by_cases hu3 : u < 2
      · have h1 : decide ((u : Int) < 2) = true := by simp; omega
        have h2 : decide (u < 2) = true := by simpa using hu3
        go_wp2
        go_ret
        exact ⟨rfl, pw_below_drewN HW.out _⟩
      · have h1 : decide ((u : Int) < 2) = false := by simp; omega
        have h2 : decide (u < 2) = false := by simpa using hu3
        have HFK := Aside0.mk (chk_full HK.out (by rw [← HU2.out]; omega))
        go_wp2_with (go_at_call 11; refine (bits_Read.calls B0 d0 (ints bs) (ints bs) 0 w2 _ (pw_below_drewN (Below.refl _ _) _) HLB.out HD.out rfl).mono ?_; rintro e w3 ⟨gR, rfl, HI3, HB3, _⟩)
        have HI := Aside0.mk HI3
        have HBW := Aside0.mk HB3
        clear HI3 HB3
        go_loopw [12, 13, 14, 15, 16, 58] (fun v12 v13 v14 v15 v16 v58 w' => ∃ (k j : Nat), v58 = .int .i64 k ∧ k ≤ j ∧ j ≤ 8 * bs.length ∧ Aside0 (IsS61 w2 w' gR (ints bs) (j : Int)) ∧ Aside0 (Below w2.heap.size w2 w')) (fun _ _ _ _ _ v58 _ => 8 * bs.length + 1 - (intOf v58).toNat)
        case atStart => exact ⟨0, 0, rfl, Nat.le_refl _, Nat.zero_le _, HI, HBW⟩
        case round =>
          obtain ⟨k, j, rfl, hkj, hj, HIj, HBj⟩ := hrel
          have q1 : decide ((k : Int) < 8 * ((ints bs).length : Int) + 1) = true := by rw [ints_length]; simp; omega
          have q2 : decide ((k : Int) < 8 * (bs.length : Int) + 1) = true := by simp; omega
          rcases full_reads (bs := bitsOf bs) HB.out (bits_le bs) HFK.out (by rw [bitsOf_length]; exact hj) with ⟨s, hs1, hs2, hs3, hs4⟩ | ⟨hs1, hs2⟩
          · obtain ⟨n, hnn⟩ : ∃ n, ls.getD s 0 = n := ⟨_, rfl⟩
            obtain ⟨j2, hj2⟩ : ∃ j2, j + n = j2 := ⟨_, rfl⟩
            rw [bitsOf_length, hnn, hj2] at hs4
            rw [hnn] at hs2
            rw [hnn, hj2] at hs3
            have HS3 := Aside0.mk hs3
            have HNN := Aside0.mk hnn
            have r1 : ((n : Int) == 0) = false := by simp; omega
            have r2 : (((j2 : Nat) : Int) != (j : Int) + (n : Int)) = false := by simp; omega
            have hj2a : j + n ≤ j2 := by omega
            have hj2b : j2 ≤ j + n := by omega
            have hn15 : n ≤ 15 := by
              rw [← hnn, List.getD_eq_getElem?_getD, List.getElem?_eq_getElem hs1, Option.getD_some]
              exact HB.out _ (List.getElem_mem hs1)
            have hnp : 0 < n := by omega
            clear hs3 hnn hj2 hs2
            go_wp2_with (first | (go_at_call 15; first | (refine (at_calls gR (ints bs) (j2 : Int) w2 _ (by first | exact HS.out | exact IsS61.drewN HS.out _)).mono ?_; rintro e w6 ⟨rfl, ⟨m6, rfl⟩⟩) | (refine (at_calls gR (ints bs) (j : Int) w2 _ (by first | exact HIj.out | exact IsS61.drewN HIj.out _)).mono ?_; rintro e w4 ⟨rfl, ⟨m4, rfl⟩⟩)) | (go_at_call 13; refine (read_to gT gR ls bs j s 0 j2 0 w2 _ HT.out (by first | exact HIj.out | exact IsS61.drewN HIj.out _) (by first | exact HBj.out | exact pw_below_drewN HBj.out _) HB.out HKR.out HN8.out HBS.out (by omega) hj HS3.out rfl).mono ?_; rintro e w5 ⟨rfl, hS, hBB⟩; have HS := Aside0.mk hS; have HBB := Aside0.mk hBB; clear hS hBB) | (go_at_call 16; refine (code_to gT ls s n _ (HT.out.below (by first | exact HBB.out | exact pw_below_drewN HBB.out _)) HN8.out HNN.out).mono ?_; rintro e w7 ⟨rfl, ⟨m7, rfl⟩⟩))
            go_roundw
            case rel => exact ⟨k + 1, j2, by go_num, by omega, by omega, ⟨IsS61.drewN HS.out _⟩, ⟨pw_below_drewN HBB.out _⟩⟩
            case measure => simp [intOf]; omega
          · rw [bitsOf_length] at hs1 hs2
            rw [← HM2.out] at hs2
            have HS3 := Aside0.mk hs1
            have r1 : decide (8 * ((ints bs).length : Int) - (j : Int) < (m : Int)) = true := by rw [ints_length]; simp; omega
            have r2 : decide (8 * (bs.length : Int) - (j : Int) < (m : Int)) = true := by simp; omega
            clear hs1
            go_wp2_with (first | (go_at_call 15; refine (at_calls gR (ints bs) (j : Int) w2 _ (by first | exact HIj.out | exact IsS61.drewN HIj.out _)).mono ?_; rintro e w4 ⟨rfl, ⟨m4, rfl⟩⟩) | (go_at_call 13; refine (read_to gT gR ls bs j 0 20 (8 * bs.length) 20 w2 _ HT.out (by first | exact HIj.out | exact IsS61.drewN HIj.out _) (by first | exact HBj.out | exact pw_below_drewN HBj.out _) HB.out HKR.out HN8.out HBS.out (by omega) hj HS3.out rfl).mono ?_; rintro e w5 ⟨rfl, hS, hBB⟩; have HS := Aside0.mk hS; have HBB := Aside0.mk hBB; clear hS hBB))
            go_ret
            exact ⟨rfl, below_then HW.out HW.out.size HBB.out⟩

theorem bytes_nat (b0 : List Int) (h : ∀ n ∈ b0, (Lit.int IntKind.u8 n).wf = true) : ∃ bs : List Nat, b0 = ints bs ∧ ∀ x ∈ bs, x < 256 := by
  have h' : ∀ n ∈ b0, 0 ≤ n ∧ n < 256 := by
    intro n hn
    have h1 : (decide (IntKind.u8.min ≤ n) && decide (n ≤ IntKind.u8.max)) = true := h n hn
    rw [show IntKind.u8.min = 0 from rfl, show IntKind.u8.max = 255 from rfl] at h1
    simp at h1
    omega
  refine ⟨b0.map Int.toNat, ?_, ?_⟩
  · apply List.ext_getElem (by simp [ints])
    intro j hj _
    have := h' b0[j] (List.getElem_mem hj)
    simp [ints]
    omega
  · intro x hx
    obtain ⟨y, hy, rfl⟩ := List.mem_map.1 hx
    have := h' y hy
    omega

theorem sums_all (A0 B0 : Option Addr) (c0 d0 : Nat) (l0 b0 : List Int) (w : World) (hr0 : Kd.C (Kd.int .i64) w A0 l0.length l0) (hc0 : l0.length ≤ c0) (hb0 : Kd.C (Kd.int .u8) w B0 b0.length b0) (hd0 : b0.length ≤ d0) (hby : ∀ n ∈ b0, (Lit.int IntKind.u8 n).wf = true) :
    Calls Try.prog 5 #[.slice A0 l0.length c0, .slice B0 b0.length d0] w fun e w' => e = .returned (.bool true) ∧ Below w.heap.size w w' := by
  by_cases hl : 40 < l0.length
  · exact sums_long A0 B0 c0 d0 l0 _ w hl
  · by_cases hn : 30 < b0.length
    · exact sums_long2 A0 B0 c0 d0 l0 _ w (by omega) hn
    · rcases list_cases l0 with hbad | ⟨ls, rfl, hb, hn2⟩
      · exact sums_fail A0 B0 c0 d0 l0 _ w hr0 hc0 (by omega) (by omega) 1 (by decide) fun W hW => new_fail A0 c0 l0 W 1 (by decide) (codes_fail A0 c0 l0 W 1 (by decide) (check_bad A0 c0 l0 W (Kd.C_below hr0 hW) hbad))
      · by_cases hk : chk ls = 0
        · obtain ⟨bs, rfl, hbs⟩ := bytes_nat b0 hby
          exact sums_good A0 B0 c0 d0 ls bs w hr0 hc0 hb0 hd0 (by rw [ints_length] at hl; omega) (by rw [ints_length] at hn; omega) hb hbs hk
        · exact sums_fail A0 B0 c0 d0 (ints ls) _ w hr0 hc0 (by omega) (by omega) _ hk fun W hW => new_fail A0 c0 (ints ls) W _ hk (codes_fail A0 c0 (ints ls) W _ hk (check_good A0 c0 ls W (Kd.C_below hr0 hW) hc0 hn2 hb))
end Go.Proofs.Ytgbfkfmjbacemaa.Cn
