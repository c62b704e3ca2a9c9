/- The contract of Table.none. -/
import Derived.Test.YtgbfkfmjbacemaaCnH
namespace Go.Proofs.Ytgbfkfmjbacemaa.Cn
open Go.RowKit Go.Proofs.YtgbfkfmjbacemaaW.PrintWords Go.Proofs.YtgbfkfmjbacemaaW.PrintLast Go.Proofs.YtgbfkfmjbacemaaW.PrintMore Go.Proofs.Ytgbfkfmjbacemaa.PCanonReads Go.Proofs.Ytgbfkfmjbacemaa.Lb
attribute [local go_sem] max2_int min2_int max_two min_two
set_option linter.unusedVariables false
set_option linter.unusedSimpArgs false

theorem sy_cnt (ls : List Nat) (j : Nat) : (sy ls ls.length j).length = CN.cnt ls j := by
  by_cases h : j = 0
  · subst h; rfl
  · rw [sy_all ls j h, CN.symsOf_length, CN.cnt, if_neg h]
theorem lg_le (ls : List Nat) (hb : ∀ x ∈ ls, x ≤ 15) : ∀ k, lg ls k ≤ 15 := by
  intro k
  unfold lg
  have : ∀ (l : List Nat) (a : Nat), a ≤ 15 → (∀ x ∈ l, x ≤ 15) → l.foldl max a ≤ 15 := by
    intro l
    induction l with
    | nil => intro a ha _; exact ha
    | cons x l ih => intro a ha h; exact ih _ (by have := h x (by simp); omega) (fun y hy => h y (by simp [hy]))
  exact this _ _ (by omega) (fun x hx => hb x (List.mem_of_mem_take hx))
theorem lg_ge (ls : List Nat) (x : Nat) (hx : x ∈ ls) : x ≤ lg ls ls.length := by
  unfold lg
  rw [List.take_length]
  have : ∀ (l : List Nat) (a : Nat), a ≤ l.foldl max a ∧ ∀ x ∈ l, x ≤ l.foldl max a := by
    intro l
    induction l with
    | nil => intro a; exact ⟨Nat.le_refl _, by simp⟩
    | cons y l ih =>
      intro a
      have h := ih (max a y)
      refine ⟨by have := h.1; simp only [List.foldl_cons]; omega, fun x hx => ?_⟩
      simp only [List.foldl_cons]
      rcases List.mem_cons.1 hx with rfl | hx
      · have := h.1; omega
      · exact h.2 x hx
  exact (this ls 0).2 x hx
/-- does no code of the length l begin so, or a later one? -/
def off (ls : List Nat) (c n l : Nat) : Prop := CN.cnt ls l = 0 ∨ CN.fin ls l ≤ c * 2 ^ (l - n)
/-- no code begins so. -/
def nn (ls : List Nat) (c n : Nat) : Prop := ∀ l, n ≤ l → l ≤ lg ls ls.length → off ls c n l

theorem IsT.cells {w : World} {g : Nat} {ls : List Nat} (h : IsT w g ls) : ∃ A0 A1 c0 c1, w.cell? ⟨g, 0, none⟩ = some (.slice A0 ls.length c0) ∧ w.cell? ⟨g, 1, none⟩ = some (.slice A1 ls.length c1) ∧ w.cell? ⟨g, 34, none⟩ = some (.int .i64 (lg ls ls.length : Int)) ∧
    Kd.C (Kd.int .i64) w A0 ls.length (ints ls) ∧ Kd.C (Kd.int .u32) w A1 ls.length (codes ls) ∧
    ∀ j, j < 16 → w.cell? ⟨g, 2 + j, none⟩ = some (.int .u32 (CN.first ls j : Int)) ∧ ∃ A c, w.cell? ⟨g, 18 + j, none⟩ = some (.slice A (CN.cnt ls j) c) ∧ Kd.C (Kd.int .i64) w A (CN.cnt ls j) (ints (sy ls ls.length j)) := by
  obtain ⟨A0, A1, c0, c1, vs, h1, h2, h3, h4, h5⟩ := h
  refine ⟨A0, A1, c0, c1, ?_, ?_, ?_, h2, h3, fun j hj => ⟨?_, ?_⟩⟩
  · rw [blk_cell h1]; rfl
  · rw [blk_cell h1]; rfl
  · rw [blk_cell h1, List.getElem?_toArray, tbl_long h4]
  · rw [blk_cell h1, List.getElem?_toArray, tbl_first j hj]
  · obtain ⟨A, c, e, _, hc⟩ := h5 j hj
    rw [sy_cnt] at e hc
    exact ⟨A, c, by rw [blk_cell h1, List.getElem?_toArray, tbl_row j hj h4, e], hc⟩

set_option maxHeartbeats 1000000 in
set_option maxRecDepth 100000 in
theorem none_calls (g : Nat) (ls : List Nat) (c n : Nat) (w : World) (hT : IsT w g ls) (hb : ∀ x ∈ ls, x ≤ 15) (hk : CN.kr ls ≤ 32768) (hc : c < 2 ^ n) (hn : n ≤ 15) (hN : ls.length ≤ 288) :
    Calls Try.prog 25 #[.pointer (some ⟨g, 0, none⟩), .int .u32 (c : Int), .int .i64 (n : Int)] w fun e w' => ∃ b, e = .returned (.bool b) ∧ Aside0 (b = true ↔ nn ls c n) ∧ Drawn0 w w' := by
  obtain ⟨A0, A1, c0, c1, q0, q1, q2, _, _, HJ0⟩ := hT.cells
  have HJ := Aside0.mk HJ0
  have hlg := lg_le ls hb ls.length
  have HB := Aside0.mk hb
  have HK := Aside0.mk hk
  have HC := Aside0.mk hc
  generalize hlgg : lg ls ls.length = lo at *
  have HLG := Aside0.mk hlgg
  have hc32 : (c : Int) < 32768 := by
    have : 2 ^ n ≤ 2 ^ 15 := Nat.pow_le_pow_right (by omega) hn
    have e15 : (2 : Nat) ^ 15 = 32768 := rfl
    omega
  clear hlgg HJ0 hT hb hk hc q0 q1
  go_enter Try.func25, Try.ntmps25
  go_wp2
  go_loopw [7, 8] (fun v7 v8 w' => ∃ (l : Nat), v7 = .int .i64 l ∧ n ≤ l ∧ l ≤ 16 ∧ Aside0 (∀ j, n ≤ j → j < l → off ls c n j) ∧ Drawn0 w w') (fun v7 _ _ => 16 - (intOf v7).toNat)
  case atStart => exact ⟨n, rfl, by omega, by omega, ⟨fun j h1 h2 => by omega⟩, Drawn0.refl _⟩
  case round =>
    obtain ⟨l, rfl, hnl, hl16, HI, ⟨m, rfl⟩⟩ := hrel
    by_cases hle : l ≤ lo
    · obtain ⟨q3, A, cc, q4, _⟩ := HJ.out l (by omega)
      have hfin := CN.fin_le_pow HB.out HK.out (l := l) (by omega)
      have hp15 : 2 ^ l ≤ 2 ^ 15 := Nat.pow_le_pow_right (by omega) (by omega)
      have e15 : (2 : Nat) ^ 15 = 32768 := rfl
      have hsum : (CN.first ls l : Int) + (CN.cnt ls l : Int) ≤ 32768 := by unfold CN.fin at hfin; omega
      have hli : ((l : Nat) : Int) < 16 := by omega
      clear hfin hp15 e15
      have hVlt : c * 2 ^ (l - n) < 32768 := by
        have h1 : c * 2 ^ (l - n) < 2 ^ n * 2 ^ (l - n) := Nat.mul_lt_mul_of_pos_right HC.out (Nat.pow_pos (by omega))
        rw [← Nat.pow_add, show n + (l - n) = l by omega] at h1
        have h2 : 2 ^ l ≤ 2 ^ 15 := Nat.pow_le_pow_right (by omega) (by omega)
        exact Nat.lt_of_lt_of_le h1 h2
      have hmod : ((c : Int) * 2 ^ (l - n) % 4294967296) = ((c * 2 ^ (l - n) : Nat) : Int) := by
        have e : ((c : Int) * 2 ^ (l - n)) = ((c * 2 ^ (l - n) : Nat) : Int) := by rw [Int.natCast_mul, Int.natCast_pow]; rfl
        rw [e]
        omega
      have HV := Aside0.mk hmod
      clear hmod hVlt
      obtain ⟨F, hF⟩ : ∃ F : Int, F = (CN.first ls l : Int) := ⟨_, rfl⟩
      obtain ⟨C, hC⟩ : ∃ C : Nat, C = CN.cnt ls l := ⟨_, rfl⟩
      have hF0 : 0 ≤ F := by omega
      rw [← hF] at q3 hsum
      rw [← hC] at q4 hsum
      have HF := Aside0.mk hF
      have HCC := Aside0.mk hC
      clear hF hC
      by_cases hcz : C = 0
      · have hgd1 : decide ((0 : Int) < (C : Int)) = false := by simp; omega
        have hgd2 : decide (0 < C) = false := by simp; omega
        have hoff : Aside0 (off ls c n l) := ⟨.inl (by rw [← HCC.out]; exact hcz)⟩
        clear hcz
        go_wp2
        go_quiet (fail)
        go_wp2
        go_roundw
        case rel => exact ⟨l + 1, by go_num, by omega, by omega, ⟨fun j h1 h2 => by
          rcases Nat.lt_or_ge j l with h | h
          · exact HI.out j h1 h
          · obtain rfl : j = l := by omega
            exact hoff.out⟩, ⟨⟨_, rfl⟩⟩⟩
        case measure => simp [intOf]; omega
      · have hgd1 : decide ((0 : Int) < (C : Int)) = true := by simp; omega
        have hgd2 : decide (0 < C) = true := by simp; omega
        by_cases hfl : CN.fin ls l ≤ c * 2 ^ (l - n)
        · have hcmp : decide ((c : Int) * 2 ^ (l - n) % 4294967296 < F + (C : Int)) = false := by
            rw [HV.out, HF.out, HCC.out]
            unfold CN.fin at hfl
            generalize c * 2 ^ (l - n) = v at hfl ⊢
            simp only [decide_eq_true_eq, decide_eq_false_iff_not]
            omega
          have hoff : Aside0 (off ls c n l) := ⟨.inr hfl⟩
          clear hcz hfl
          go_wp2
          go_quiet (fail)
          go_wp2
          go_roundw
          case rel => exact ⟨l + 1, by go_num, by omega, by omega, ⟨fun j h1 h2 => by
            rcases Nat.lt_or_ge j l with h | h
            · exact HI.out j h1 h
            · obtain rfl : j = l := by omega
              exact hoff.out⟩, ⟨⟨_, rfl⟩⟩⟩
          case measure => simp [intOf]; omega
        · have hcmp : decide ((c : Int) * 2 ^ (l - n) % 4294967296 < F + (C : Int)) = true := by
            rw [HV.out, HF.out, HCC.out]
            unfold CN.fin at hfl
            generalize c * 2 ^ (l - n) = v at hfl ⊢
            simp only [decide_eq_true_eq, decide_eq_false_iff_not]
            omega
          have hno : Aside0 (¬ off ls c n l) := ⟨fun h => by
            rcases h with h | h
            · exact hcz (by rw [HCC.out]; exact h)
            · exact hfl h⟩
          clear hcz hfl
          go_wp2
          go_quiet (fail)
          go_wp2
          go_ret
          exact ⟨_, rfl, ⟨⟨fun h => (by cases h), fun h => absurd (h l hnl (by rw [HLG.out]; exact hle)) hno.out⟩⟩, ⟨⟨_, rfl⟩⟩⟩
    · go_wp2
      go_ret
      exact ⟨_, rfl, ⟨⟨fun _ j h1 h2 => HI.out j h1 (by have := HLG.out; omega), fun _ => rfl⟩⟩, ⟨⟨_, rfl⟩⟩⟩
end Go.Proofs.Ytgbfkfmjbacemaa.Cn
