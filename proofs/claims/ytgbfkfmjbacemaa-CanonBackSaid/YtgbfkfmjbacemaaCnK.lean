/- The contracts of Table.Read and Table.Code. -/
import Derived.Test.YtgbfkfmjbacemaaCnJ
namespace Go.Proofs.Ytgbfkfmjbacemaa.Cn
open Go.RowKit Go.Proofs.YtgbfkfmjbacemaaW.PrintWords Go.Proofs.YtgbfkfmjbacemaaW.PrintLast Go.Proofs.YtgbfkfmjbacemaaW.PrintMore Go.Proofs.Ytgbfkfmjbacemaa.PCanonReads Go.Proofs.Ytgbfkfmjbacemaa.Lb
attribute [local go_sem] max2_int min2_int max_two min_two
set_option linter.unusedVariables false
set_option linter.unusedSimpArgs false

theorem none_true (g : Nat) (ls : List Nat) (c n : Nat) (w : World) (hT : IsT w g ls) (hb : ∀ x ∈ ls, x ≤ 15) (hk : CN.kr ls ≤ 32768) (hc : c < 2 ^ n) (hn : n ≤ 15) (hN : ls.length ≤ 288) (hnn : nn ls c n) :
    Calls Try.prog 25 #[.pointer (some ⟨g, 0, none⟩), .int .u32 (c : Int), .int .i64 (n : Int)] w fun e w' => e = .returned (.bool true) ∧ Drawn0 w w' :=
  (none_calls g ls c n w hT hb hk hc hn hN).mono fun e w' ⟨b, he, hi, hd⟩ => by
    rw [hi.out.2 hnn] at he
    exact ⟨he, hd⟩
theorem none_false (g : Nat) (ls : List Nat) (c n : Nat) (w : World) (hT : IsT w g ls) (hb : ∀ x ∈ ls, x ≤ 15) (hk : CN.kr ls ≤ 32768) (hc : c < 2 ^ n) (hn : n ≤ 15) (hN : ls.length ≤ 288) (hnn : ¬ nn ls c n) :
    Calls Try.prog 25 #[.pointer (some ⟨g, 0, none⟩), .int .u32 (c : Int), .int .i64 (n : Int)] w fun e w' => e = .returned (.bool false) ∧ Drawn0 w w' :=
  (none_calls g ls c n w hT hb hk hc hn hN).mono fun e w' ⟨b, he, hi, hd⟩ => by
    cases b with
    | true => exact absurd (hi.out.1 rfl) hnn
    | false => exact ⟨he, hd⟩
theorem s61_drawn {w0 W W1 : World} {g : Nat} {f0 : List Int} {f1 : Int} (h : IsS61 w0 W g f0 f1) (hd : Drawn0 W W1) : IsS61 w0 W1 g f0 f1 := by
  obtain ⟨m, rfl⟩ := hd
  exact h.drewN m

set_option maxHeartbeats 2000000 in
set_option maxRecDepth 100000 in
theorem read_calls (gT gR : Nat) (ls bs : List Nat) (i : Nat) (w0 w : World) (hT : IsT w0 gT ls) (hI : IsS61 w0 w gR (ints bs) (i : Int)) (hB : Below w0.heap.size w0 w)
    (hb : ∀ x ∈ ls, x ≤ 15) (hk : CN.kr ls ≤ 32768) (hN : ls.length ≤ 288) (hbs : ∀ x ∈ bs, x < 256) (hl : bs.length ≤ 1000000) (hi : i ≤ 8 * bs.length) :
    Calls Try.prog 13 #[.pointer (some ⟨gT, 0, none⟩), .pointer (some ⟨gR, 0, none⟩)] w fun e w' =>
      e = .returned (.tuple #[.int .i64 ((rd1 ls (bitsOf bs) 17 i 0 0).1 : Int), .int .i64 ((rd1 ls (bitsOf bs) 17 i 0 0).2.1 : Int)]) ∧ IsS61 w0 w' gR (ints bs) ((rd1 ls (bitsOf bs) 17 i 0 0).2.2 : Int) ∧ Below w0.heap.size w0 w' ∧ KeepBut w w' gR none := by
  have HT := Aside0.mk hT
  have HI := Aside0.mk hI
  have HB0 := Aside0.mk hB
  have HB := Aside0.mk hb
  have HK := Aside0.mk hk
  have HBS := Aside0.mk hbs
  obtain ⟨R, hR⟩ : ∃ R, R = rd1 ls (bitsOf bs) 17 i 0 0 := ⟨_, rfl⟩
  rw [← hR]
  have HR := Aside0.mk hR
  clear hT hI hB hb hk hbs hR
  go_enter Try.func13, Try.ntmps13
  go_wp2
  go_loopw [6, 7, 8, 9, 10] (fun v6 v7 v8 v9 v10 w' => ∃ (c n j : Nat), v6 = .int .u32 (c : Int) ∧ v7 = .int .i64 (n : Int) ∧ n ≤ 15 ∧ Aside0 (c < 2 ^ n ∧ CN.fin ls n ≤ c ∧ j ≤ 8 * bs.length ∧ R = rd1 ls (bitsOf bs) (17 - n) j c n ∧ IsS61 w0 w' gR (ints bs) (j : Int) ∧ Below w0.heap.size w0 w' ∧ KeepBut w w' gR none))
    (fun _ v7 _ _ _ _ => 16 - (intOf v7).toNat)
  case atStart => exact ⟨0, 0, i, rfl, rfl, by omega, ⟨by simp, by simp [CN.fin, CN.first, CN.cnt], hi, HR.out, HI.out, HB0.out, KeepBut.refl _ _ _⟩⟩
  case round =>
    obtain ⟨c, n, j, rfl, rfl, hn15, H⟩ := hrel
    by_cases hnn : nn ls c n
    · have HNN := Aside0.mk hnn
      have hR2 : Aside0 (R = (0, 34, j)) := ⟨by rw [H.out.2.2.2.1, show 17 - n = (16 - n) + 1 by omega]; exact rd1_nn HB.out hnn⟩
      clear hnn
      go_wp2_with (go_at_call 25; refine (none_true gT ls c n _ (HT.out.below H.out.2.2.2.2.2.1) HB.out HK.out H.out.1 hn15 hN HNN.out).mono ?_; rintro e w1 ⟨rfl, hd⟩)
      go_ret2
      exact ⟨by rw [hR2.out]; rfl, by rw [hR2.out]; exact s61_drawn H.out.2.2.2.2.1 hd, below_then H.out.2.2.2.2.2.1 (H.out.2.2.2.2.2.1).size hd.below, KeepBut.trans H.out.2.2.2.2.2.2 (KeepBut.of_below hd.below gR none) (.inl rfl)⟩
    · have hn14 : n ≤ 14 := by
        rcases Nat.lt_or_ge n 15 with h | h
        · omega
        · exfalso
          refine hnn fun l h1 h2 => .inr ?_
          have h3 := lg_le ls HB.out ls.length
          obtain rfl : l = n := by omega
          rw [Nat.sub_self, Nat.pow_zero, Nat.mul_one]
          exact H.out.2.1
      have HNN := Aside0.mk hnn
      have hgo : Aside0 (R = match (bitsOf bs)[j]? with
        | none => (0, 20, j)
        | some b => if 2 * c + b < CN.fin ls (n + 1) then ((sy ls ls.length (n + 1)).getD (2 * c + b - CN.first ls (n + 1)) 0, 0, j + 1) else rd1 ls (bitsOf bs) (17 - (n + 1)) (j + 1) (2 * c + b) (n + 1)) := ⟨by
          rw [H.out.2.2.2.1, show 17 - n = (17 - (n + 1)) + 1 by omega]; exact rd1_go HB.out hnn⟩
      clear hnn
      by_cases hj : j < 8 * bs.length
      · have hjb : j < (bitsOf bs).length := by rw [bitsOf_length]; exact hj
        obtain ⟨b, hbv⟩ : ∃ b, b = (bitsOf bs)[j] := ⟨_, rfl⟩
        have hb1 : b ≤ 1 := by rw [hbv]; exact bitsOf_le bs _ (List.getElem_mem hjb)
        have hget : (bitsOf bs)[j]? = some b := by rw [List.getElem?_eq_getElem hjb, hbv]
        have hgetD : (bitsOf bs).getD j 0 = b := by rw [List.getD_eq_getElem?_getD, hget, Option.getD_some]
        have hbit := bit_get bs HBS.out j hj (by omega)
        rw [hgetD] at hbit
        have HBIT := Aside0.mk hbit
        obtain ⟨c', hc'⟩ : ∃ c', c' = 2 * c + b := ⟨_, rfl⟩
        obtain ⟨F, hF⟩ : ∃ F, F = CN.first ls (n + 1) := ⟨_, rfl⟩
        obtain ⟨C, hC⟩ : ∃ C, C = CN.cnt ls (n + 1) := ⟨_, rfl⟩
        have hgo2 := hgo.out
        rw [hget] at hgo2
        simp only at hgo2
        rw [← hc', CN.fin, ← hF, ← hC] at hgo2
        have HGO := Aside0.mk hgo2
        have hc15 : c < 32768 := by
          have h1 := H.out.1
          have h2 : 2 ^ n ≤ 2 ^ 15 := Nat.pow_le_pow_right (by omega) hn15
          exact Nat.lt_of_lt_of_le h1 h2
        have hc2 : Aside0 (c' < 2 ^ (n + 1)) := ⟨by have h1 := H.out.1; rw [Nat.pow_succ]; omega⟩
        have hor : Go.bits .or .u32 ((c : Int) * 2) (b : Int) = (c' : Int) := by rw [hc']; exact or_bit c b hc15 hb1
        have hFc : F ≤ c' := by
          have h1 := H.out.2.1
          rw [hF, CN.first]
          unfold CN.fin at h1
          omega
        have hc16 : c' < 65536 := by omega
        have HF := Aside0.mk hF
        have HC := Aside0.mk hC
        have HC' := Aside0.mk hc'
        clear hgo hgo2 hbit hget hgetD hjb hbv hF hC hc'
        by_cases hm : c' < F + C
        · have hR2 : Aside0 (R = ((sy ls ls.length (n + 1)).getD (c' - F) 0, 0, j + 1)) := ⟨by rw [HGO.out, if_pos hm]⟩
          have g1 : decide ((0 : Int) ≤ (c' : Int) - (F : Int)) = true := by simp only [decide_eq_true_eq]; omega
          have g2 : decide ((c' : Int) - (F : Int) < (C : Int)) = true := by simp only [decide_eq_true_eq]; omega
          go_wp2_with (first | (go_at_call 25; refine (none_false gT ls c n _ (HT.out.below H.out.2.2.2.2.2.1) HB.out HK.out H.out.1 hn15 hN HNN.out).mono ?_; rintro e w1 ⟨rfl, ⟨m1, rfl⟩⟩) | (go_at_call 26; refine (bits_Reader_Bit.calls 2 gR (ints bs) (j : Int) (b : Int) true ((j + 1 : Nat) : Int) w0 _ (IsS61.drewN H.out.2.2.2.2.1 _) (pw_below_drewN H.out.2.2.2.2.2.1 _) HBIT.out).mono ?_; rintro e w2 ⟨rfl, hs, hb2, hk2⟩; obtain ⟨_, _, _, _, _, _, _, _, _, HJ0⟩ := (HT.out.below hb2).cells; obtain ⟨q1, A, cc, q2, q3⟩ := HJ0 (n + 1) (by omega); rw [← HF.out] at q1; rw [← HC.out] at q2 q3; obtain ⟨ad, e1, hx⟩ := Kd.at_int q3 ((c' : Int) - (F : Int)) (by omega) (by omega); cases e1; rw [show ((c' : Int) - (F : Int)).toNat = c' - F from by omega] at hx; have HS := Aside0.mk hs; have HB2 := Aside0.mk hb2; have HK2 := Aside0.mk hk2; clear hs hb2 hk2 q3 HJ0))
          go_ret2
          refine ⟨?_, by rw [hR2.out]; exact HS.out, HB2.out, KeepBut.trans H.out.2.2.2.2.2.2 HK2.out (.inl rfl)⟩
          have hlen := sy_cnt ls (n + 1)
          rw [← HC.out] at hlen
          have hidx : c' - F < (sy ls ls.length (n + 1)).length := by omega
          have hv : rd (ints (sy ls ls.length (n + 1))) ((c' : Int) - (F : Int)) = ((sy ls ls.length (n + 1)).getD (c' - F) 0 : Int) := by
            rw [show (c' : Int) - (F : Int) = ((c' - F : Nat) : Int) from by omega, ints_rd _ _ hidx, List.getD_eq_getElem?_getD, List.getElem?_eq_getElem hidx, Option.getD_some]
          rw [hR2.out, ← hv]
          rfl
        · have g1 : decide ((0 : Int) ≤ (c' : Int) - (F : Int)) = true := by simp only [decide_eq_true_eq]; omega
          have g2 : decide ((c' : Int) - (F : Int) < (C : Int)) = false := by simp only [decide_eq_false_iff_not]; omega
          have hR2 : Aside0 (R = rd1 ls (bitsOf bs) (17 - (n + 1)) (j + 1) c' (n + 1)) := ⟨by rw [HGO.out, if_neg hm]⟩
          have hfin : Aside0 (CN.fin ls (n + 1) ≤ c') := ⟨by unfold CN.fin; rw [← HF.out, ← HC.out]; omega⟩
          clear hm
          go_wp2_with (first | (go_at_call 25; refine (none_false gT ls c n _ (HT.out.below H.out.2.2.2.2.2.1) HB.out HK.out H.out.1 hn15 hN HNN.out).mono ?_; rintro e w1 ⟨rfl, ⟨m1, rfl⟩⟩) | (go_at_call 26; refine (bits_Reader_Bit.calls 2 gR (ints bs) (j : Int) (b : Int) true ((j + 1 : Nat) : Int) w0 _ (IsS61.drewN H.out.2.2.2.2.1 _) (pw_below_drewN H.out.2.2.2.2.2.1 _) HBIT.out).mono ?_; rintro e w2 ⟨rfl, hs, hb2, hk2⟩; obtain ⟨_, _, _, _, _, _, _, _, _, HJ0⟩ := (HT.out.below hb2).cells; obtain ⟨q1, A, cc, q2, q3⟩ := HJ0 (n + 1) (by omega); rw [← HF.out] at q1; rw [← HC.out] at q2 q3; have HS := Aside0.mk hs; have HB2 := Aside0.mk hb2; have HK2 := Aside0.mk hk2; clear hs hb2 hk2 q3 HJ0))
          go_roundw
          case rel => exact ⟨c', n + 1, j + 1, rfl, by go_num, by omega, ⟨hc2.out, hfin.out, by omega, hR2.out, HS.out, HB2.out, KeepBut.trans H.out.2.2.2.2.2.2 HK2.out (.inl rfl)⟩⟩
          case measure => simp [intOf]; omega
      · obtain rfl : j = 8 * bs.length := by have := H.out.2.2.1; omega
        have hR2 : Aside0 (R = (0, 20, 8 * bs.length)) := ⟨by rw [hgo.out, List.getElem?_eq_none (by rw [bitsOf_length]; omega)]⟩
        have hbit : Aside0 (bits_Reader_Bit.f 2 (ints bs) ((8 * bs.length : Nat) : Int) = some (0, false, ((8 * bs.length : Nat) : Int))) := ⟨bit_none bs _ (Nat.le_refl _) (by omega) (by omega)⟩
        clear hj
        go_wp2_with (first | (go_at_call 25; refine (none_false gT ls c n _ (HT.out.below H.out.2.2.2.2.2.1) HB.out HK.out H.out.1 hn15 hN HNN.out).mono ?_; rintro e w1 ⟨rfl, ⟨m1, rfl⟩⟩) | (go_at_call 26; refine (bits_Reader_Bit.calls 2 gR (ints bs) ((8 * bs.length : Nat) : Int) 0 false ((8 * bs.length : Nat) : Int) w0 _ (IsS61.drewN H.out.2.2.2.2.1 _) (pw_below_drewN H.out.2.2.2.2.2.1 _) hbit.out).mono ?_; rintro e w2 ⟨rfl, hs, hb2, hk2⟩))
        go_ret2
        exact ⟨by rw [hR2.out]; rfl, by rw [hR2.out]; exact hs, hb2, KeepBut.trans H.out.2.2.2.2.2.2 hk2 (.inl rfl)⟩
end Go.Proofs.Ytgbfkfmjbacemaa.Cn
