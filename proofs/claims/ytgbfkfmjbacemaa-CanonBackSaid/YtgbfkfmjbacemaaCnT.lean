/- The walk of CanonReads. -/
import Derived.Test.YtgbfkfmjbacemaaCnS
namespace Go.Proofs.Ytgbfkfmjbacemaa.Cn
open Go.RowKit Go.Proofs.YtgbfkfmjbacemaaW.PrintWords Go.Proofs.YtgbfkfmjbacemaaW.PrintLast Go.Proofs.YtgbfkfmjbacemaaW.PrintMore Go.Proofs.Ytgbfkfmjbacemaa.PCanonReads Go.Proofs.Ytgbfkfmjbacemaa.Lb
attribute [local go_sem] max2_int min2_int max_two min_two
set_option linter.unusedVariables false
set_option linter.unusedSimpArgs false

theorem ref_codes_fails (A0 : Option Addr) (c0 : Nat) (l0 : List Int) (w : World) (r : Int) (hr0 : Kd.C (Kd.int .i64) w A0 l0.length l0) (hc0 : l0.length ≤ c0) (h : Ev (fun k => footlockerref10_Codes.f k l0) (([] : List Int), r)) :
    Calls Try.prog 10 #[.slice A0 l0.length c0] w fun e w' => ∃ A n c, e = .returned (.tuple #[.slice A n c, .int .i64 r]) ∧ Below w.heap.size w w' := by
  obtain ⟨k, hk⟩ := h
  refine (footlockerref10_Codes.calls k A0 c0 l0 [] r w hr0 hc0 (hk k (Nat.le_refl _))).mono ?_
  rintro e w' ⟨v, he, hr, hB⟩
  obtain ⟨A, c, hv, _, _⟩ := Kd.R_reads hr
  subst hv
  exact ⟨A, _, c, he, hB⟩

theorem ref_codes_slice (A0 : Option Addr) (c0 : Nat) (ls : List Nat) (w : World) (hr0 : Kd.C (Kd.int .i64) w A0 (ints ls).length (ints ls)) (hc0 : (ints ls).length ≤ c0) (hb : ∀ x ∈ ls, x ≤ 15) (hn : ls.length ≤ 288) (hk : chk ls = 0) :
    Calls Try.prog 10 #[.slice A0 (ints ls).length c0] w fun e w' => ∃ A c, e = .returned (.tuple #[.slice A (codes ls).length c, .int .i64 0]) ∧ Aside0 ((codes ls).length ≤ c ∧ Kd.C (Kd.int .u32) w' A (codes ls).length (codes ls) ∧ Below w.heap.size w w') := by
  have h := ref_codes ls hb hn
  rw [if_pos hk] at h
  obtain ⟨k, hk⟩ := h
  refine (footlockerref10_Codes.calls k A0 c0 (ints ls) (codes ls) 0 w hr0 hc0 (hk k (Nat.le_refl _))).mono ?_
  rintro e w' ⟨v, he, hr, hB⟩
  obtain ⟨A, c, hv, hl, hC⟩ := Kd.R_reads hr
  subst hv
  exact ⟨A, c, he, ⟨hl, hC, hB⟩⟩

theorem ref_bits_slice (A0 : Option Addr) (c0 : Nat) (bs : List Nat) (w : World) (hr0 : Kd.C (Kd.int .u8) w A0 (ints bs).length (ints bs)) (hc0 : (ints bs).length ≤ c0) (hb : ∀ x ∈ bs, x < 256) (hl : bs.length ≤ 1000) :
    Calls Try.prog 12 #[.slice A0 (ints bs).length c0] w fun e w' => ∃ A c, e = .returned (.slice A (ints (bitsOf bs)).length c) ∧ Aside0 ((ints (bitsOf bs)).length ≤ c ∧ (∀ g, g < w.heap.size → ∀ W, KeepBut w' W g none → Kd.C (Kd.int .u8) W A (ints (bitsOf bs)).length (ints (bitsOf bs))) ∧ Below w.heap.size w w') := by
  obtain ⟨k, hk⟩ := ref_bits bs hb (by omega)
  refine (footlockerref08_Bits.calls k A0 c0 (ints bs) _ w hr0 hc0 (hk k (Nat.le_refl _))).mono ?_
  rintro e w' ⟨v, he, hr, hB⟩
  obtain ⟨A, c, hv, hl, hC⟩ := Kd.R_reads hr
  subst hv
  refine ⟨A, c, he, ⟨hl, fun g hg W hW => Kd.C_foot_own (Kd.R_bound hr) (fun k hk => by have := hk.2.1; omega) W hW, hB⟩⟩

theorem ref_read_to (A0 A1 A2 : Option Addr) (c0 c1 c2 : Nat) (ls bs : List Nat) (i s f j n : Nat) (fi : Int) (w : World) (hr0 : Kd.C (Kd.int .i64) w A0 (ints ls).length (ints ls)) (hc0 : (ints ls).length ≤ c0)
    (hr1 : Kd.C (Kd.int .u32) w A1 (codes ls).length (codes ls)) (hc1 : (codes ls).length ≤ c1) (hr2 : Kd.C (Kd.int .u8) w A2 (ints (bitsOf bs)).length (ints (bitsOf bs))) (hc2 : (ints (bitsOf bs)).length ≤ c2)
    (hb : ∀ x ∈ ls, x ≤ 15) (hk : CN.kr ls ≤ 32768) (hN : ls.length ≤ 288) (hl : bs.length ≤ 100) (hi : i ≤ 8 * bs.length) (hrd : rd1 ls (bitsOf bs) 17 i 0 0 = (s, f, j)) (hf : (f : Int) = fi) (hj : j - i = n) :
    Calls Try.prog 14 #[.slice A0 (ints ls).length c0, .slice A1 (codes ls).length c1, .slice A2 (ints (bitsOf bs)).length c2, .int .i64 (i : Int)] w fun e w' => e = .returned (.tuple #[.int .i64 (s : Int), .int .i64 (n : Int), .int .i64 fi]) ∧ Below w.heap.size w w' := by
  obtain ⟨k, hk⟩ := ref_read hb hk hN (bits_le bs) (by rw [bitsOf_length]; omega) i (by rw [bitsOf_length]; exact hi) _ hrd
  have := footlockerref10_Read.calls k A0 c0 (ints ls) A1 c1 (codes ls) A2 c2 (ints (bitsOf bs)) (i : Int) _ _ _ w hr0 hc0 hr1 hc1 hr2 hc2 (hk k (Nat.le_refl _))
  simp only [hf, hj] at this
  exact this

theorem read_to2 (gT gR : Nat) (ls bs : List Nat) (i s f j : Nat) (fi : Int) (w0 w : World) (hT : IsT w0 gT ls) (hI : IsS61 w0 w gR (ints bs) (i : Int)) (hB : Below w0.heap.size w0 w)
    (hb : ∀ x ∈ ls, x ≤ 15) (hk : CN.kr ls ≤ 32768) (hN : ls.length ≤ 288) (hbs : ∀ x ∈ bs, x < 256) (hl : bs.length ≤ 1000000) (hi : i ≤ 8 * bs.length) (hrd : rd1 ls (bitsOf bs) 17 i 0 0 = (s, f, j)) (hf : (f : Int) = fi) :
    Calls Try.prog 13 #[.pointer (some ⟨gT, 0, none⟩), .pointer (some ⟨gR, 0, none⟩)] w fun e w' =>
      e = .returned (.tuple #[.int .i64 (s : Int), .int .i64 fi]) ∧ Aside0 (IsS61 w0 w' gR (ints bs) (j : Int) ∧ Below w0.heap.size w0 w' ∧ KeepBut w w' gR none) := by
  have h := read_calls gT gR ls bs i w0 w hT hI hB hb hk hN hbs hl hi
  rw [hrd] at h
  simp only [hf] at h
  exact h.mono fun e w' h => ⟨h.1, ⟨h.2⟩⟩

set_option maxHeartbeats 1000000 in
theorem reads_long (A0 B0 : Option Addr) (c0 d0 : Nat) (l0 : List Int) (n : Nat) (w : World) (hl : 40 < l0.length) :
    Calls Try.prog 4 #[.slice A0 l0.length c0, .slice B0 n d0] w fun e w' => e = .returned (.bool true) ∧ Below w.heap.size w w' := by
  have g1 : decide ((40 : Int) < (l0.length : Int)) = true := by simp; omega
  have g2 : decide (40 < l0.length) = true := by simpa using hl
  go_enter Try.func4, Try.ntmps4
  go_wp2_with (go_at_call 7; refine (alive_calls _).mono ?_; rintro e w1 ⟨rfl, hb1⟩)
  go_ret
  exact ⟨rfl, hb1⟩

set_option maxHeartbeats 1000000 in
theorem reads_long2 (A0 B0 : Option Addr) (c0 d0 : Nat) (l0 : List Int) (n : Nat) (w : World) (hl : l0.length ≤ 40) (hn : 30 < n) :
    Calls Try.prog 4 #[.slice A0 l0.length c0, .slice B0 n d0] w fun e w' => e = .returned (.bool true) ∧ Below w.heap.size w w' := by
  have g1 : decide ((40 : Int) < (l0.length : Int)) = false := by simp; omega
  have g2 : decide (40 < l0.length) = false := by simpa using hl
  have g3 : decide ((30 : Int) < (n : Int)) = true := by simp; omega
  have g4 : decide (30 < n) = true := by simpa using hn
  go_enter Try.func4, Try.ntmps4
  go_wp2_with (go_at_call 7; refine (alive_calls _).mono ?_; rintro e w1 ⟨rfl, hb1⟩)
  go_ret
  exact ⟨rfl, hb1⟩

set_option maxHeartbeats 1000000 in
theorem reads_fail (A0 B0 : Option Addr) (c0 d0 : Nat) (l0 : List Int) (n : Nat) (w : World) (hl : l0.length ≤ 40) (hn : n ≤ 30) (r : Int) (hr : r ≠ 0)
    (hc : ∀ W, Below w.heap.size w W → Calls Try.prog 9 #[.slice A0 l0.length c0] W fun e w' => e = .returned (.tuple #[.pointer none, .int .i64 r]) ∧ Below W.heap.size W w')
    (hd : ∀ W, Below w.heap.size w W → Calls Try.prog 10 #[.slice A0 l0.length c0] W fun e w' => ∃ A n c, e = .returned (.tuple #[.slice A n c, .int .i64 r]) ∧ Below W.heap.size W w') :
    Calls Try.prog 4 #[.slice A0 l0.length c0, .slice B0 n d0] w fun e w' => e = .returned (.bool true) ∧ Below w.heap.size w w' := by
  have g1 : decide ((40 : Int) < (l0.length : Int)) = false := by simp; omega
  have g2 : decide (40 < l0.length) = false := by simpa using hl
  have g3 : decide ((30 : Int) < (n : Int)) = false := by simp; omega
  have g4 : decide (30 < n) = false := by simpa using hn
  have f1 : (r != 0) = true := by simpa using hr
  have HC := Aside0.mk hc
  have HD := Aside0.mk hd
  clear hc hd
  go_enter Try.func4, Try.ntmps4
  go_wp2_with (first | (go_at_call 7; refine (alive_calls _).mono ?_; rintro e w1 ⟨rfl, hb1⟩; have HB1 := Aside0.mk hb1; clear hb1) | (go_at_call 9; refine (HC.out _ HB1.out).mono ?_; rintro e w2 ⟨rfl, hb2⟩; have HB2 := Aside0.mk (below_then HB1.out HB1.out.size hb2); clear hb2) | (go_at_call 10; refine (HD.out _ HB2.out).mono ?_; rintro e w3 ⟨A1, n1, c1, rfl, hb3⟩; have HB3 := Aside0.mk (below_then HB2.out HB2.out.size hb3); clear hb3))
  go_ret
  exact ⟨by simp, HB3.out⟩

/-- what rd1 gives: its place is not behind the end. -/
theorem rd1_cases {ls bs : List Nat} (hb : ∀ x ∈ ls, x ≤ 15) {i : Nat} (hi : i ≤ 8 * bs.length) : ∃ s f j, rd1 ls (bitsOf bs) 17 i 0 0 = (s, f, j) ∧ (f = 20 ∨ ((f = 0 ∨ f = 34) ∧ i ≤ j ∧ j ≤ 8 * bs.length)) := by
  rcases rd1_spec (ls := ls) (bs := bitsOf bs) hb (bits_le bs) 17 0 0 i rfl (by omega) (by simp) (by simp [CN.fin, CN.first, CN.cnt]) (by rw [bitsOf_length]; exact hi) with ⟨s, L, g1, g2, g3, g4, g5, _⟩ | ⟨c', n', g1, g2, g3, g4, g5, g6, g7, _⟩ | ⟨c', n', g1, g2, g3, g4, g5, g6, g7, _⟩
  · rw [bitsOf_length] at g5
    exact ⟨_, _, _, g4, .inr ⟨.inl rfl, by omega, g5⟩⟩
  · exact ⟨_, _, _, g3, .inl rfl⟩
  · rw [bitsOf_length] at g4
    exact ⟨_, _, _, g3, .inr ⟨.inr rfl, by omega, g4⟩⟩

set_option maxHeartbeats 4000000 in
set_option maxRecDepth 100000 in
theorem reads_good (A0 B0 : Option Addr) (c0 d0 : Nat) (ls bs : List Nat) (w : World) (hr0 : Kd.C (Kd.int .i64) w A0 (ints ls).length (ints ls)) (hc0 : (ints ls).length ≤ c0) (hb0 : Kd.C (Kd.int .u8) w B0 (ints bs).length (ints bs)) (hd0 : (ints bs).length ≤ d0)
    (hl : ls.length ≤ 40) (hn : bs.length ≤ 30) (hb : ∀ x ∈ ls, x ≤ 15) (hbs : ∀ x ∈ bs, x < 256) (hk : chk ls = 0) :
    Calls Try.prog 4 #[.slice A0 (ints ls).length c0, .slice B0 (ints bs).length d0] w fun e w' => e = .returned (.bool true) ∧ Below w.heap.size w w' := by
  have g1 : decide ((40 : Int) < ((ints ls).length : Int)) = false := by rw [ints_length]; simp; omega
  have g2 : decide (40 < (ints ls).length) = false := by rw [ints_length]; simpa using hl
  have g3 : decide ((30 : Int) < ((ints bs).length : Int)) = false := by rw [ints_length]; simp; omega
  have g4 : decide (30 < (ints bs).length) = false := by rw [ints_length]; simpa using hn
  have hl' : (ints ls).length ≤ 40 := by rw [ints_length]; exact hl
  have hn' : (ints bs).length ≤ 30 := by rw [ints_length]; exact hn
  have hl288 : ls.length ≤ 288 := by omega
  have HN8 := Aside0.mk hl288
  have HC := Aside0.mk hc0
  have HD := Aside0.mk hd0
  have HR := Aside0.mk hr0
  have HRB := Aside0.mk hb0
  have HB := Aside0.mk hb
  have HBS := Aside0.mk hbs
  have HK := Aside0.mk hk
  have hkr : CN.kr ls ≤ 32768 := by
    unfold chk at hk
    split at hk
    · assumption
    · cases hk
  have HKR := Aside0.mk hkr
  clear hc0 hr0 hb0 hd0 hb hbs hk hkr hl288
  go_enter Try.func4, Try.ntmps4
  go_wp2_with (first
    | (go_at_call 7; refine (alive_calls _).mono ?_; rintro e w1 ⟨rfl, hb1⟩; have HB1 := Aside0.mk hb1; clear hb1)
    | (go_at_call 9; refine (new_good A0 c0 ls _ (Kd.C_below HR.out HB1.out) HC.out HN8.out HB.out HK.out).mono ?_; rintro e w2 ⟨gT, rfl, h2⟩; have H2 := Aside0.mk h2; have HB2 := Aside0.mk (below_then HB1.out HB1.out.size H2.out.2.2); clear h2)
    | (go_at_call 10; refine (ref_codes_slice A0 c0 ls _ (Kd.C_below HR.out HB2.out) HC.out HB.out HN8.out HK.out).mono ?_; rintro e w3 ⟨A1, c1, rfl, H3⟩; have HB3 := Aside0.mk (below_then HB2.out HB2.out.size H3.out.2.2))
    | (go_at_call 11; refine (bits_Read.calls B0 d0 (ints bs) (ints bs) 0 w3 _ (by first | exact Below.refl _ _ | exact pw_below_drewN (Below.refl _ _) _) (Kd.C_below HRB.out HB3.out) HD.out rfl).mono ?_; rintro e w4 ⟨gR, rfl, hI, hB4, hB4'⟩; have HI := Aside0.mk hI; have HB4 := Aside0.mk hB4; clear hI hB4 hB4')
    | (go_at_call 12; refine (ref_bits_slice B0 d0 bs _ (Kd.C_below (Kd.C_below HRB.out HB3.out) HB4.out) HD.out HBS.out (by omega)).mono ?_; rintro e w5 ⟨A2, c2, rfl, H5⟩))
  have HT : Aside0 (IsT w3 gT ls) := ⟨H2.out.2.1.below H3.out.2.2⟩
  have HCO := Aside0.mk H3.out.2.1
  have HCC := Aside0.mk H3.out.1
  have HLL := Aside0.mk (Kd.C_below HR.out HB3.out)
  have HI5 := Aside0.mk (IsS61.below HI.out H5.out.2.2)
  have HB5 := Aside0.mk (below_then HB4.out HB4.out.size H5.out.2.2)
  have HBI := Aside0.mk (H5.out.2.1 gR (IsS61.lt HI.out))
  have HBC := Aside0.mk H5.out.1
  clear H5
  go_loopw [11, 12, 13, 14, 15, 16, 50] (fun v11 v12 v13 v14 v15 v16 v50 w' => ∃ (k j : Nat), v50 = .int .i64 k ∧ v11 = .int .i64 j ∧ k ≤ 40 ∧ j ≤ 8 * bs.length ∧ Aside0 (IsS61 w3 w' gR (ints bs) (j : Int) ∧ Below w3.heap.size w3 w' ∧ KeepBut w5 w' gR none)) (fun _ _ _ _ _ _ v50 _ => 40 - (intOf v50).toNat)
  case atStart => exact ⟨0, 0, rfl, rfl, Nat.zero_le _, Nat.zero_le _, ⟨HI5.out, HB5.out, KeepBut.refl _ _ _⟩⟩
  case round =>
    obtain ⟨k, j, rfl, rfl, hk, hj, H⟩ := hrel
    by_cases hlt : k < 40
    · obtain ⟨s, f, j2, hrd, hf⟩ := rd1_cases (bs := bs) HB.out hj
      have HRD := Aside0.mk hrd
      clear hrd
      by_cases hf20 : f = 20
      · obtain ⟨n, hn2⟩ : ∃ n, j2 - j = n := ⟨_, rfl⟩
        have HN2 := Aside0.mk hn2
        have HF : Aside0 ((f : Int) = 20) := ⟨by omega⟩
        clear hn2 hf
        go_wp2_with (first
          | (go_at_call 13; refine (read_to2 gT gR ls bs j s f j2 20 w3 _ HT.out (by first | exact H.out.1 | exact IsS61.drewN H.out.1 _) (by first | exact H.out.2.1 | exact pw_below_drewN H.out.2.1 _) HB.out HKR.out HN8.out HBS.out (by omega) hj HRD.out HF.out).mono ?_; rintro e w6 ⟨rfl, H6⟩)
          | (go_at_call 14; refine (ref_read_to A0 A1 A2 c0 c1 c2 ls bs j s f j2 n 20 _ (Kd.C_below HLL.out H6.out.2.1) HC.out (Kd.C_below HCO.out H6.out.2.1) HCC.out (HBI.out _ (KeepBut.trans H.out.2.2 H6.out.2.2 (.inl rfl))) HBC.out HB.out HKR.out HN8.out (by omega) hj HRD.out HF.out HN2.out).mono ?_; rintro e w7 ⟨rfl, hb7⟩; have HB7 := Aside0.mk (below_then H6.out.2.1 H6.out.2.1.size hb7); clear hb7))
        go_ret
        exact ⟨rfl, below_then HB3.out HB3.out.size HB7.out⟩
      · have hf' : (f = 0 ∨ f = 34) ∧ j ≤ j2 ∧ j2 ≤ 8 * bs.length := by omega
        obtain ⟨hf2, hjj, hj2⟩ := hf'
        obtain ⟨n, hn2⟩ : ∃ n, j2 - j = n := ⟨_, rfl⟩
        have r1 : ((f : Int) == 20) = false := by simp; omega
        have r2 : (((j2 : Nat) : Int) != (j : Int) + (n : Int)) = false := by simp; omega
        have hna : j + n ≤ j2 := by omega
        have hnb : j2 ≤ j + n := by omega
        have HN2 := Aside0.mk hn2
        clear hn2 hf hf20 hf2
        go_wp2_with (first
          | (go_at_call 13; refine (read_to2 gT gR ls bs j s f j2 f w3 _ HT.out (by first | exact H.out.1 | exact IsS61.drewN H.out.1 _) (by first | exact H.out.2.1 | exact pw_below_drewN H.out.2.1 _) HB.out HKR.out HN8.out HBS.out (by omega) hj HRD.out rfl).mono ?_; rintro e w6 ⟨rfl, H6⟩)
          | (go_at_call 14; refine (ref_read_to A0 A1 A2 c0 c1 c2 ls bs j s f j2 n f _ (Kd.C_below HLL.out H6.out.2.1) HC.out (Kd.C_below HCO.out H6.out.2.1) HCC.out (HBI.out _ (KeepBut.trans H.out.2.2 H6.out.2.2 (.inl rfl))) HBC.out HB.out HKR.out HN8.out (by omega) hj HRD.out rfl HN2.out).mono ?_; rintro e w7 ⟨rfl, hb7⟩; have H7 := Aside0.mk (And.intro (IsS61.below H6.out.1 hb7) (And.intro (below_then H6.out.2.1 H6.out.2.1.size hb7) (KeepBut.trans (KeepBut.trans H.out.2.2 H6.out.2.2 (.inl rfl)) (KeepBut.of_below hb7 gR none) (.inl rfl)))); clear hb7)
          | (go_at_call 15; refine (at_calls gR (ints bs) (j2 : Int) w3 _ (by first | exact H7.out.1 | exact IsS61.drewN H7.out.1 _)).mono ?_; rintro e w8 ⟨rfl, ⟨m8, rfl⟩⟩))
        go_roundw
        case rel => exact ⟨k + 1, j2, by go_num, by go_num, by omega, hj2, ⟨IsS61.drewN H7.out.1 _, pw_below_drewN H7.out.2.1 _, keep_drewN H7.out.2.2 _⟩⟩
        case measure => simp [intOf]; omega
    · go_wp2
      go_ret
      exact ⟨rfl, below_then HB3.out HB3.out.size H.out.2.1⟩

theorem reads_all (A0 B0 : Option Addr) (c0 d0 : Nat) (l0 b0 : List Int) (w : World) (hr0 : Kd.C (Kd.int .i64) w A0 l0.length l0) (hc0 : l0.length ≤ c0) (hb0 : Kd.C (Kd.int .u8) w B0 b0.length b0) (hd0 : b0.length ≤ d0) (hby : ∀ n ∈ b0, (Lit.int IntKind.u8 n).wf = true) :
    Calls Try.prog 4 #[.slice A0 l0.length c0, .slice B0 b0.length d0] w fun e w' => e = .returned (.bool true) ∧ Below w.heap.size w w' := by
  by_cases hl : 40 < l0.length
  · exact reads_long A0 B0 c0 d0 l0 _ w hl
  · by_cases hn : 30 < b0.length
    · exact reads_long2 A0 B0 c0 d0 l0 _ w (by omega) hn
    · rcases list_cases l0 with hbad | ⟨ls, rfl, hb, hn2⟩
      · have hany : l0.any bad = true := by rcases hbad with h | h; omega; exact h
        exact reads_fail A0 B0 c0 d0 l0 _ w (by omega) (by omega) 1 (by decide) (fun W hW => new_fail A0 c0 l0 W 1 (by decide) (codes_fail A0 c0 l0 W 1 (by decide) (check_bad A0 c0 l0 W (Kd.C_below hr0 hW) hbad)))
          (fun W hW => ref_codes_fails A0 c0 l0 W 1 (Kd.C_below hr0 hW) hc0 (ref_codes_bad l0 (by omega) hany))
      · by_cases hk : chk ls = 0
        · obtain ⟨bs, rfl, hbs⟩ := bytes_nat b0 hby
          exact reads_good A0 B0 c0 d0 ls bs w hr0 hc0 hb0 hd0 (by rw [ints_length] at hl; omega) (by rw [ints_length] at hn; omega) hb hbs hk
        · exact reads_fail A0 B0 c0 d0 (ints ls) _ w (by omega) (by omega) _ hk (fun W hW => new_fail A0 c0 (ints ls) W _ hk (codes_fail A0 c0 (ints ls) W _ hk (check_good A0 c0 ls W (Kd.C_below hr0 hW) hc0 hn2 hb)))
            (fun W hW => ref_codes_fails A0 c0 (ints ls) W _ (Kd.C_below hr0 hW) hc0 (by have := ref_codes ls hb hn2; rwa [if_neg hk] at this))
end Go.Proofs.Ytgbfkfmjbacemaa.Cn
