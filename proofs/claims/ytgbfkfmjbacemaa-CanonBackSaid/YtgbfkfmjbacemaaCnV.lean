/- The writer of bits as a row of bits: bit, Code, Done, Len. -/
import Derived.Test.YtgbfkfmjbacemaaCnU
namespace Go.Proofs.Ytgbfkfmjbacemaa.Cn
open Go.RowKit Go.Proofs.YtgbfkfmjbacemaaW.PrintWords Go.Proofs.YtgbfkfmjbacemaaW.PrintLast Go.Proofs.YtgbfkfmjbacemaaW.PrintMore Go.Proofs.Ytgbfkfmjbacemaa.PCanonReads Go.Proofs.Ytgbfkfmjbacemaa.Lb
attribute [local go_sem] max2_int min2_int max_two min_two
set_option linter.unusedVariables false
set_option linter.unusedSimpArgs false

/-- bytes that hold bits, noughts behind them. -/
def Hold (xs B : List Nat) : Prop := (∀ x ∈ xs, x < 256) ∧ B.length ≤ 8 * xs.length ∧ ∀ p, p < 8 * xs.length → xs.getD (p / 8) 0 / 2 ^ (p % 8) % 2 = B.getD p 0
/-- a writer of bits in memory that holds so many bits. -/
def Wb (w : World) (base g : Nat) (B : List Nat) : Prop := ∃ xs, IsWr w base g xs B.length ∧ Hold xs B ∧ 8 * xs.length < B.length + 8

theorem or_at (x b m j : Nat) (hb : b ≤ 1) (hx : x / 2 ^ m % 2 = 0) : (x ||| b * 2 ^ m) / 2 ^ j % 2 = if j = m then b else x / 2 ^ j % 2 := by
  have key : ∀ a, a / 2 ^ j % 2 = if a.testBit j then 1 else 0 := by
    intro a
    rw [Nat.testBit_eq_decide_div_mod_eq]
    by_cases h : a / 2 ^ j % 2 = 1
    · simp [h]
    · have : a / 2 ^ j % 2 = 0 := by omega
      simp [this]
  have hxm : x.testBit m = false := by rw [Nat.testBit_eq_decide_div_mod_eq, hx]; rfl
  rw [key, key x, Nat.testBit_or]
  obtain rfl | rfl : b = 0 ∨ b = 1 := by omega
  · rw [Nat.zero_mul, Nat.zero_testBit, Bool.or_false]
    by_cases h : j = m
    · subst h; rw [hxm]; simp
    · rw [if_neg h]
  · rw [Nat.one_mul, Nat.testBit_two_pow]
    by_cases h : j = m
    · subst h; rw [hxm]; simp
    · rw [if_neg h]
      have : decide (m = j) = false := by simp; omega
      rw [this, Bool.or_false]

theorem hold_put {xs B : List Nat} (h : Hold xs B) (hlt : B.length < 8 * xs.length) (b : Nat) (hb : b ≤ 1) : Hold (put1 xs B.length b) (B ++ [b]) := by
  obtain ⟨h1, h2, h3⟩ := h
  have hi : B.length / 8 < xs.length := by omega
  have hx : xs.getD (B.length / 8) 0 < 256 := by
    rw [List.getD_eq_getElem?_getD, List.getElem?_eq_getElem hi]
    exact h1 _ (List.getElem_mem hi)
  have hz : xs.getD (B.length / 8) 0 / 2 ^ (B.length % 8) % 2 = 0 := by
    rw [h3 B.length hlt, List.getD_eq_getElem?_getD, List.getElem?_eq_none (Nat.le_refl _)]; rfl
  refine ⟨?_, by unfold put1; rw [List.length_set, List.length_append]; simp; omega, fun p hp => ?_⟩
  · intro x hx2
    unfold put1 at hx2
    rcases List.mem_or_eq_of_mem_set hx2 with h | h
    · exact h1 x h
    · rw [h]
      exact Nat.or_lt_two_pow (n := 8) hx (bit_lt b _ hb (by omega))
  · unfold put1 at hp ⊢
    rw [List.length_set] at hp
    by_cases e : p / 8 = B.length / 8
    · have hg : (xs.set (B.length / 8) (xs.getD (B.length / 8) 0 ||| b * 2 ^ (B.length % 8))).getD (p / 8) 0 = xs.getD (B.length / 8) 0 ||| b * 2 ^ (B.length % 8) := by
        rw [e, List.getD_eq_getElem?_getD, List.getElem?_set_self hi]; rfl
      rw [hg, or_at _ _ _ _ hb hz]
      by_cases e2 : p % 8 = B.length % 8
      · rw [if_pos e2]
        have : p = B.length := by omega
        subst this
        rw [List.getD_eq_getElem?_getD, List.getElem?_append_right (Nat.le_refl _)]
        simp
      · rw [if_neg e2, ← e, h3 p hp]
        have hne : p ≠ B.length := by rintro rfl; exact e2 rfl
        rcases Nat.lt_or_ge p B.length with h | h
        · rw [List.getD_eq_getElem?_getD, List.getD_eq_getElem?_getD, List.getElem?_append_left h]
        · rw [List.getD_eq_getElem?_getD, List.getD_eq_getElem?_getD, List.getElem?_eq_none h, List.getElem?_eq_none (by rw [List.length_append]; simp; omega)]
    · have hg : (xs.set (B.length / 8) (xs.getD (B.length / 8) 0 ||| b * 2 ^ (B.length % 8))).getD (p / 8) 0 = xs.getD (p / 8) 0 := by
        rw [List.getD_eq_getElem?_getD, List.getElem?_set_ne (fun h => e h.symm), List.getD_eq_getElem?_getD]
      rw [hg, h3 p hp]
      have hne : p ≠ B.length := by rintro rfl; exact e rfl
      rcases Nat.lt_or_ge p B.length with h | h
      · rw [List.getD_eq_getElem?_getD, List.getD_eq_getElem?_getD, List.getElem?_append_left h]
      · rw [List.getD_eq_getElem?_getD, List.getD_eq_getElem?_getD, List.getElem?_eq_none h, List.getElem?_eq_none (by rw [List.length_append]; simp; omega)]

theorem hold_grow {xs B : List Nat} (h : Hold xs B) (he : B.length = 8 * xs.length) : Hold (xs ++ [0]) B := by
  obtain ⟨h1, h2, h3⟩ := h
  refine ⟨?_, by rw [List.length_append]; simp; omega, fun p hp => ?_⟩
  · intro x hx
    rcases List.mem_append.1 hx with h | h
    · exact h1 x h
    · have : x = 0 := by simpa using h
      omega
  · rcases Nat.lt_or_ge p (8 * xs.length) with h | h
    · rw [← h3 p h, List.getD_eq_getElem?_getD, List.getD_eq_getElem?_getD, List.getElem?_append_left (by omega)]
    · rw [List.length_append] at hp
      simp at hp
      have e : p / 8 = xs.length := by omega
      have hX : (xs ++ [0]).getD xs.length 0 = 0 := by simp
      have hB0 : B.getD p 0 = 0 := by rw [List.getD_eq_getElem?_getD, List.getElem?_eq_none (by omega)]; rfl
      rw [e, hX, hB0]
      simp

theorem hold_nil : Hold [] [] := ⟨by simp, by simp, by simp⟩

theorem put1_length (xs : List Nat) (n b : Nat) : (put1 xs n b).length = xs.length := by unfold put1; rw [List.length_set]

theorem bit_calls (base g : Nat) (B : List Nat) (v : Nat) (w : World) (hI : Wb w base g B) (hl : B.length ≤ 1000000) (hv : v < 4294967296) :
    Calls Try.prog 29 #[.pointer (some ⟨g, 0, none⟩), .int .u32 (v : Int)] w fun e w' => e = .returned (.tuple #[]) ∧ Aside0 (Wb w' base g (B ++ [v % 2]) ∧ Below base w w' ∧ Fr w w') := by
  obtain ⟨xs, hw, hh, hlt⟩ := hI
  have hlen : (B ++ [v % 2]).length = B.length + 1 := by simp
  by_cases hm : B.length % 8 = 0
  · have he : B.length = 8 * xs.length := by have := hh.2.1; omega
    refine (bit_new base g xs B.length v w hw he (by omega) hh.1 hv).mono fun e w' h => ⟨h.1, ⟨⟨put1 (xs ++ [0]) B.length (v % 2), ?_, ?_, ?_⟩, h.2.2⟩⟩
    · rw [hlen]; exact h.2.1
    · exact hold_put (hold_grow hh he) (by rw [List.length_append]; simp; omega) _ (by omega)
    · rw [put1_length, hlen, List.length_append]; simp; omega
  · have hlt2 : B.length < 8 * xs.length := by have := hh.2.1; omega
    refine (bit_old base g xs B.length v w hw hm hlt2 (by omega) hh.1 hv).mono fun e w' h => ⟨h.1, ⟨⟨put1 xs B.length (v % 2), ?_, ?_, ?_⟩, h.2.2⟩⟩
    · rw [hlen]; exact h.2.1
    · exact hold_put hh hlt2 _ (by omega)
    · rw [put1_length, hlen]; omega

theorem held_eq (L : Nat) (h : L ≤ 15) : bits_held.f (L : Int) = some (L : Int) := by
  have : ∀ x : Fin 16, bits_held.f ((x.val : Nat) : Int) = some ((x.val : Nat) : Int) := by decide
  exact this ⟨L, by omega⟩
theorem wb_drewN {w : World} {base g : Nat} {B : List Nat} (h : Wb w base g B) (m : Nat) : Wb (w.drewN m) base g B := by
  obtain ⟨xs, ⟨A, c, h1, h2, h3⟩, hh⟩ := h
  exact ⟨xs, ⟨A, c, h1, h2, Kd.R_drewN h3 m⟩, hh⟩

theorem wb_below {w w1 : World} {base g : Nat} {B : List Nat} (h : Wb w base g B) (hb : Below w.heap.size w w1) : Wb w1 base g B := by
  obtain ⟨xs, ⟨A, c, h1, h2, h3⟩, hh⟩ := h
  exact ⟨xs, ⟨A, c, blk_below h1 hb, h2, Kd.R_below h3 hb⟩, hh⟩
theorem fr_below {w w1 : World} (hb : Below w.heap.size w w1) : Fr w w1 := ⟨hb.size, fun k cs t fr hk _ _ => (hb.block k (Array.getElem?_eq_some_iff.1 hk).1).trans hk⟩
theorem shr_u32 (v i : Nat) (h : i ≤ 15) : (v : Int) / 2 ^ i = ((v / 2 ^ i : Nat) : Int) := by
  rw [Int.natCast_ediv, Int.natCast_pow]; rfl

set_option maxHeartbeats 1000000 in
set_option maxRecDepth 100000 in
theorem wcode_calls (base g : Nat) (B : List Nat) (v L : Nat) (w : World) (hI : Wb w base g B) (hl : B.length ≤ 100000) (hv : v < 4294967296) (hL : L ≤ 15) (hsz : base ≤ w.heap.size) :
    Calls Try.prog 17 #[.pointer (some ⟨g, 0, none⟩), .int .u32 (v : Int), .int .i64 (L : Int)] w fun e w' => e = .returned (.tuple #[]) ∧ Aside0 (Wb w' base g (B ++ (lb v L).reverse) ∧ Below base w w' ∧ Fr w w') := by
  have HI := Aside0.mk hI
  clear hI
  have HH := Aside0.mk (held_eq L hL)
  go_enter Try.func17, Try.ntmps17
  go_wp2_with (go_at_call 28; refine (bits_held.calls (L : Int) (L : Int) _ HH.out).mono ?_; rintro e w1 ⟨rfl, hb1⟩; have HB1 := Aside0.mk hb1; clear hb1)
  have HW1 := Aside0.mk (wb_below HI.out HB1.out)
  have HF1 := Aside0.mk (fr_below HB1.out)
  have HBB := Aside0.mk (HB1.out.mono hsz)
  go_loopw [6] (fun v6 w' => ∃ (z : Int) (k : Nat) (B' : List Nat), v6 = .int .i64 z ∧ z + 1 = k ∧ k ≤ L ∧ Aside0 (B'.length + k = B.length + L ∧ B' ++ (lb v k).reverse = B ++ (lb v L).reverse ∧ Wb w' base g B' ∧ Below base w w' ∧ Fr w w')) (fun v6 _ => (intOf v6 + 1).toNat)
  case atStart => exact ⟨_, L, B, rfl, by omega, Nat.le_refl _, ⟨rfl, rfl, HW1.out, HBB.out, HF1.out⟩⟩
  case round =>
    obtain ⟨z, k, B', rfl, hz, hk, H⟩ := hrel
    by_cases h0 : z < 0
    · have t1 : decide (0 ≤ z) = false := by simp only [decide_eq_false_iff_not]; omega
      obtain rfl : k = 0 := by omega
      go_wp2
      go_end0
      have h2 := H.out.2.1
      simp [lb] at h2
      refine ⟨rfl, ⟨?_, H.out.2.2.2.1, H.out.2.2.2.2⟩⟩
      unfold lb
      rw [← h2]
      exact H.out.2.2.1
    · obtain ⟨i, rfl⟩ := Int.eq_ofNat_of_zero_le (by omega : 0 ≤ z)
      have t1 : decide (0 ≤ ((i : Nat) : Int)) = true := by simp
      obtain rfl : k = i + 1 := by omega
      have HV : Aside0 (v / 2 ^ i < 4294967296) := ⟨Nat.lt_of_le_of_lt (Nat.div_le_self _ _) hv⟩
      have HBL : Aside0 (B'.length ≤ 1000000) := ⟨by have := H.out.1; omega⟩
      have hi15 : i ≤ 15 := by omega
      have HN : Aside0 ((B' ++ [v / 2 ^ i % 2]).length + i = B.length + L ∧ (B' ++ [v / 2 ^ i % 2]) ++ (lb v i).reverse = B ++ (lb v L).reverse) := ⟨by have := H.out.1; rw [List.length_append]; simp; omega, by
        have h1 := H.out.2.1
        have h2 : lb v (i + 1) = lb v i ++ [v / 2 ^ i % 2] := lb_succ v i
        rw [h2, List.reverse_append, List.reverse_singleton, ← List.append_assoc] at h1
        exact h1⟩
      go_wp2_with (go_at_call 29; rw [shr_u32 v i hi15]; refine (bit_calls base g B' (v / 2 ^ i) _ H.out.2.2.1 HBL.out HV.out).mono ?_; rintro e w2 ⟨rfl, H2⟩)
      go_roundw
      case rel => exact ⟨(i : Int) - 1, i, B' ++ [v / 2 ^ i % 2], by go_num, by omega, by omega, ⟨HN.out.1, HN.out.2, H2.out.1, H.out.2.2.2.1.trans H2.out.2.1, H.out.2.2.2.2.trans H2.out.2.2⟩⟩
      case measure => simp [intOf]

set_option maxHeartbeats 1000000 in
theorem bclone_calls (A0 : Option Addr) (c0 : Nat) (l0 : List Int) (w : World) (hr0 : Kd.C (Kd.int .u8) w A0 l0.length l0) (hc0 : l0.length ≤ c0) (hn : l0.length ≤ 1000000) :
    Calls Try.prog 30 #[.slice A0 l0.length c0] w fun e w' => ∃ v0_ : Value, e = .returned (v0_) ∧ Kd.R (Kd.int .u8) 5 w' w.heap.size (fun _ => True) v0_ l0 ∧ Below w.heap.size w w' := by
  have HR0 := Aside0.mk hr0
  have heq := fun (w : World) => Lib.run_eql_slice_nil (P := Try.prog) w 30 5 A0 l0.length c0 0 0 Try.underlying30
  cases A0 with
  | none =>
    have hl : l0 = [] := by
      cases l0 with
      | nil => rfl
      | cons a l =>
        obtain ⟨ad, h, _⟩ := hr0.2.2 (by simp)
        cases h
    subst hl
    have heq' := fun (w : World) => (heq w)
    simp only [Option.isNone_none, List.length_nil] at heq'
    clear heq hr0 hc0
    go_enter Try.func30, Try.ntmps30
    go_wp2
    go_ret
    exact ⟨_, rfl, Kd.R_nil _ _ _ _ _, Below.refl _ _⟩
  | some ad0 =>
    have heq' := fun (w : World) => (heq w)
    simp only [Option.isNone_some] at heq'
    have HB := Aside0.mk (Below.refl w.heap.size w)
    clear heq hr0 hc0
    go_enter Try.func30, Try.ntmps30
    go_wp2_with (first | ((with_reducible refine gate_dst (N := 5) rfl ?_); refine Kd.R_lit (Kd.int .u8) _ 5 ?hg (N := 5) ?hd (xs := ([] : List Int)) (inner := []) (ok := fun _ => True) (okp := fun _ => True) ?hr ?hp (fun _ hk => hk) trivial (Below.refl _ _) (Nat.le_refl _) (by simp) ?_; (case hd => rfl); (case hg => rfl); (case hr => first | (go_simp; done) | (go_simp; rfl)); (case hp => exact (Reps.none _ _)); intro v1 w1 ho hb hg_ hnew_; clear hg_ hnew_; have HO := Aside0.mk ho; have HB1 := Aside0.mk hb; clear ho hb) | ((with_reducible refine gate_builtin (b := .append) (xs := #[.tmp 5, .tmp 6]) rfl ?_); at_builtin; refine Kd.R_append_rows (Kd.int .u8) (w0 := w) w.heap.size rfl (.tmp 5) (.tmp 6) 30 5 (.int .u8 0) 1 rfl Try.underlying30 info5 rfl (by decide) (by omega) v1 [] l0 _ _ _ (fun _ => True) (fun _ => False) rfl rfl ?aO ?aR (fun _ _ h => h) (fun _ h => h.elim) ?aF ?aB ?aS ?aL ?_; (case aR => exact Kd.C_below HR0.out HB1.out); (case aB => exact HB1.out); (case aF => exact (fun _ _ => trivial)); (case aO => exact HO.out); (case aS => exact HB1.out.size); (case aL => simp; omega); intro v2 w2 ho hb hg hat; have HO2 := Aside0.mk ho; have HB2 := Aside0.mk hb; clear ho hb hg hat))
    go_ret
    exact ⟨_, rfl, HO2.out, HB2.out⟩

set_option maxHeartbeats 1000000 in
theorem done_calls (base g : Nat) (B : List Nat) (w : World) (hI : Wb w base g B) (hl : B.length ≤ 100000) :
    Calls Try.prog 18 #[.pointer (some ⟨g, 0, none⟩)] w fun e w' => ∃ A c xs, e = .returned (.slice A (ints xs).length c) ∧ Aside0 (Hold xs B ∧ xs.length ≤ 100000 ∧ (ints xs).length ≤ c ∧ Kd.C (Kd.int .u8) w' A (ints xs).length (ints xs) ∧ Below w.heap.size w w') := by
  obtain ⟨xs, ⟨A, c, hblk, hbg, hR⟩, hh, hlt⟩ := hI
  have hlen : (ints xs).length = xs.length := ints_length xs
  rw [← hlen] at hR hblk
  obtain ⟨_, hlc, hC⟩ := Kd.R_reads' hR
  have q0 : w.cell? ⟨g, 0, none⟩ = some (.slice A (ints xs).length c) := (blk_cell hblk 0).trans rfl
  have HC := Aside0.mk hC
  have HH := Aside0.mk hh
  have HLC := Aside0.mk hlc
  have HL : Aside0 (xs.length ≤ 100000) := ⟨by omega⟩
  have HLN : Aside0 ((ints xs).length ≤ 1000000) := ⟨by omega⟩
  clear hC hR hblk hh hlc hlen hlt
  go_enter Try.func18, Try.ntmps18
  go_wp2_with (go_at_call 30; refine (bclone_calls A c (ints xs) _ (by first | exact HC.out | exact Kd.C_drewN HC.out _) HLC.out HLN.out).mono ?_; rintro e w1 ⟨v, rfl, ho, hb⟩; have HO := Aside0.mk ho; have HB := Aside0.mk hb; clear ho hb)
  go_ret
  obtain ⟨A1, c1, hv, hl1, hC1⟩ := Kd.R_reads HO.out
  subst hv
  exact ⟨A1, c1, xs, rfl, ⟨HH.out, HL.out, hl1, hC1, HB.out⟩⟩

theorem len_calls (base g : Nat) (B : List Nat) (w : World) (hI : Wb w base g B) :
    Calls Try.prog 19 #[.pointer (some ⟨g, 0, none⟩)] w fun e w' => e = .returned (.int .i64 (B.length : Int)) ∧ Drawn0 w w' := by
  obtain ⟨xs, ⟨A, c, hblk, hbg, hR⟩, hh, hlt⟩ := hI
  have q1 : w.cell? ⟨g, 1, none⟩ = some (.int .i64 (B.length : Int)) := (blk_cell hblk 1).trans rfl
  clear hblk hR hh hlt
  go_enter Try.func19, Try.ntmps19
  go_wp2
  go_ret
  exact ⟨rfl, Drawn0.refl _⟩
end Go.Proofs.Ytgbfkfmjbacemaa.Cn
