/- The walk of CanonBack. -/
import Derived.Test.YtgbfkfmjbacemaaCnX
namespace Go.Proofs.Ytgbfkfmjbacemaa.Cn
open Go.RowKit Go.Proofs.YtgbfkfmjbacemaaW.PrintWords Go.Proofs.YtgbfkfmjbacemaaW.PrintLast Go.Proofs.YtgbfkfmjbacemaaW.PrintMore Go.Proofs.Ytgbfkfmjbacemaa.PCanonReads Go.Proofs.Ytgbfkfmjbacemaa.Lb
attribute [local go_sem] max2_int min2_int max_two min_two
set_option linter.unusedVariables false
set_option linter.unusedSimpArgs false

/-- a row of ints stays what it is where only writers of bits and bytes change. -/
theorem int_fr {W W1 : World} {B : Nat} {v : Value} {xs : List Int} (h : Kd.R (Kd.int .i64) 3 W B (fun _ => True) v xs) (hf : Fr W W1) : Kd.R (Kd.int .i64) 3 W1 B (fun _ => True) v xs :=
  Kd.R_mono (Kd.R_step (Kd.R_bound h) (fun k hk hlt => by
    obtain ⟨_, _, _, q, hq, cs, hcs⟩ := hk
    have hq3 : q = 3 := by
      have : q ∈ [3] := hq
      simpa using this
    subst hq3
    rw [hcs]
    exact hf.2 k cs _ _ hcs (by decide) (by decide))) (fun _ _ => trivial)
/-- a writer of bits stays what it is where a row of ints grows. -/
theorem wb_grown {W W1 : World} {B g base : Nat} {v : Value} {xs : List Int} {bits : List Nat} (h : Kd.R (Kd.int .i64) 3 W B (fun _ => True) v xs) (hg : W.grownBy W1 v.ownBlock) (hw : Wb W base g bits) : Wb W1 base g bits := by
  obtain ⟨ys, ⟨A, c, h1, h2, h3⟩, hh⟩ := hw
  have hne : ∀ k q cs, W.heap[k]? = some (Obj.cells cs q (0, 0)) → q ≠ 3 → some k ≠ v.ownBlock := by
    intro k q cs hk hq e
    obtain ⟨_, _, _, q', hq', cs', hcs⟩ := (Kd.R_bound h).1 k e.symm
    have hq3 : q' = 3 := by
      have : q' ∈ [3] := hq'
      simpa using this
    subst hq3
    rw [hcs] at hk
    injection hk with h
    injection h with _ h _
    exact hq h.symm
  refine ⟨ys, ⟨A, c, ?_, h2, ?_⟩, hh⟩
  · exact (hg.block g (blk_lt h1) (hne g _ _ h1 (by decide))).trans h1
  · refine Kd.R_mono (Kd.R_step (Kd.R_bound h3) (fun k hk hlt => ?_)) (fun _ _ => trivial)
    obtain ⟨_, _, _, q, hq, cs, hcs⟩ := hk
    have hq5 : q = 5 := by
      have : q ∈ [5] := hq
      simpa using this
    subst hq5
    exact hg.block k hlt (hne k _ _ hcs (by decide))

set_option maxHeartbeats 1000000 in
theorem back_long (A0 B0 : Option Addr) (c0 d0 : Nat) (l0 : List Int) (n : Nat) (w : World) (hl : 40 < l0.length) :
    Calls Try.prog 6 #[.slice A0 l0.length c0, .slice B0 n d0] w fun e w' => e = .returned (.bool true) ∧ Below w.heap.size w w' := by
  have g1 : decide ((40 : Int) < (l0.length : Int)) = true := by simp; omega
  have g2 : decide (40 < l0.length) = true := by simpa using hl
  go_enter Try.func6, Try.ntmps6
  go_wp2_with (go_at_call 7; refine (alive_calls _).mono ?_; rintro e w1 ⟨rfl, hb1⟩)
  go_ret
  exact ⟨rfl, hb1⟩

set_option maxHeartbeats 1000000 in
theorem back_long2 (A0 B0 : Option Addr) (c0 d0 : Nat) (l0 : List Int) (n : Nat) (w : World) (hl : l0.length ≤ 40) (hn : 40 < n) :
    Calls Try.prog 6 #[.slice A0 l0.length c0, .slice B0 n d0] w fun e w' => e = .returned (.bool true) ∧ Below w.heap.size w w' := by
  have g1 : decide ((40 : Int) < (l0.length : Int)) = false := by simp; omega
  have g2 : decide (40 < l0.length) = false := by simpa using hl
  have g3 : decide ((40 : Int) < (n : Int)) = true := by simp; omega
  have g4 : decide (40 < n) = true := by simpa using hn
  go_enter Try.func6, Try.ntmps6
  go_wp2_with (go_at_call 7; refine (alive_calls _).mono ?_; rintro e w1 ⟨rfl, hb1⟩)
  go_ret
  exact ⟨rfl, hb1⟩

set_option maxHeartbeats 1000000 in
theorem back_fail (A0 B0 : Option Addr) (c0 d0 : Nat) (l0 : List Int) (n : Nat) (w : World) (hl : l0.length ≤ 40) (hn : n ≤ 40) (r : Int) (hr : r ≠ 0)
    (hc : ∀ W, Below w.heap.size w W → Calls Try.prog 9 #[.slice A0 l0.length c0] W fun e w' => e = .returned (.tuple #[.pointer none, .int .i64 r]) ∧ Below W.heap.size W w') :
    Calls Try.prog 6 #[.slice A0 l0.length c0, .slice B0 n d0] w fun e w' => e = .returned (.bool true) ∧ Below w.heap.size w w' := by
  have g1 : decide ((40 : Int) < (l0.length : Int)) = false := by simp; omega
  have g2 : decide (40 < l0.length) = false := by simpa using hl
  have g3 : decide ((40 : Int) < (n : Int)) = false := by simp; omega
  have g4 : decide (40 < n) = false := by simpa using hn
  have f1 : (r != 0) = true := by simpa using hr
  have HC := Aside0.mk hc
  clear hc
  go_enter Try.func6, Try.ntmps6
  go_wp2_with (first | (go_at_call 7; refine (alive_calls _).mono ?_; rintro e w1 ⟨rfl, hb1⟩; have HB1 := Aside0.mk hb1; clear hb1) | (go_at_call 9; refine (HC.out _ HB1.out).mono ?_; rintro e w2 ⟨rfl, hb2⟩; have HB2 := Aside0.mk (below_then HB1.out HB1.out.size hb2); clear hb2))
  go_ret
  exact ⟨rfl, HB2.out⟩

theorem shift_ne (a b m n : Nat) (h : b / 2 ^ (n - m) ≠ a) : ((b : Int) / 2 ^ (n - m) == (a : Int)) = false := by
  have e : ((2 : Int) ^ (n - m)) = ((2 ^ (n - m) : Nat) : Int) := by rw [Int.natCast_pow]; rfl
  rw [e, ← Int.natCast_ediv]
  generalize b / 2 ^ (n - m) = p at h ⊢
  simp only [beq_eq_false_iff_ne]
  omega

theorem words_length (ls : List Nat) (hb : ∀ x ∈ ls, x ≤ 15) : ∀ ms : List Nat, (∀ s ∈ ms, s < ls.length) → (ms.flatMap (cw ls)).length ≤ 15 * ms.length := by
  intro ms
  induction ms with
  | nil => intro _; simp
  | cons s ms ih =>
    intro h
    have h1 := ih fun x hx => h x (by simp [hx])
    have h2 := h s (by simp)
    have h3 : ls.getD s 0 ≤ 15 := by rw [List.getD_eq_getElem?_getD, List.getElem?_eq_getElem h2]; exact hb _ (List.getElem_mem h2)
    rw [List.flatMap_cons, List.length_append, cw_length, List.length_cons]
    omega
theorem code_none (g : Nat) (ls : List Nat) (z : Int) (w : World) (hT : IsT w g ls) (hN : ls.length ≤ 288) (hz : (codeOf ls z).2 = 0) :
    Calls Try.prog 16 #[.pointer (some ⟨g, 0, none⟩), .int .i64 z] w fun e w' => e = .returned (.tuple #[.int .u32 ((codeOf ls z).1 : Int), .int .i64 0]) ∧ Drawn0 w w' := by
  have h := code_calls g ls z w hT hN
  rw [hz] at h
  exact h

set_option maxHeartbeats 4000000 in
set_option maxRecDepth 100000 in
theorem back_good (A0 B0 : Option Addr) (c0 d0 : Nat) (ls : List Nat) (zs : List Int) (w : World) (hr0 : Kd.C (Kd.int .i64) w A0 (ints ls).length (ints ls)) (hc0 : (ints ls).length ≤ c0) (hb0 : Kd.C (Kd.int .i64) w B0 zs.length zs) (hd0 : zs.length ≤ d0)
    (hl : ls.length ≤ 40) (hn : zs.length ≤ 40) (hb : ∀ x ∈ ls, x ≤ 15) (hk : chk ls = 0) :
    Calls Try.prog 6 #[.slice A0 (ints ls).length c0, .slice B0 zs.length d0] w fun e w' => e = .returned (.bool true) ∧ Below w.heap.size w w' := by
  have g1 : decide ((40 : Int) < ((ints ls).length : Int)) = false := by rw [ints_length]; simp; omega
  have g2 : decide (40 < (ints ls).length) = false := by rw [ints_length]; simpa using hl
  have g3 : decide ((40 : Int) < (zs.length : Int)) = false := by simp; omega
  have g4 : decide (40 < zs.length) = false := by simpa using hn
  have hl' : (ints ls).length ≤ 40 := by rw [ints_length]; exact hl
  have hl288 : ls.length ≤ 288 := by omega
  have HN8 := Aside0.mk hl288
  have HC := Aside0.mk hc0
  have HD := Aside0.mk hd0
  have HR := Aside0.mk hr0
  have HRZ := Aside0.mk hb0
  have HB := Aside0.mk hb
  have HK := Aside0.mk hk
  have hkr : CN.kr ls ≤ 32768 := by
    unfold chk at hk
    split at hk
    · assumption
    · cases hk
  have HKR := Aside0.mk hkr
  clear hc0 hr0 hb0 hd0 hb hk hkr hl288
  go_enter Try.func6, Try.ntmps6
  go_wp2_with (first
    | (go_at_call 7; refine (alive_calls _).mono ?_; rintro e w1 ⟨rfl, hb1⟩; have HB1 := Aside0.mk hb1; clear hb1)
    | (go_at_call 9; refine (new_good A0 c0 ls _ (Kd.C_below HR.out HB1.out) HC.out HN8.out HB.out HK.out).mono ?_; rintro e w2 ⟨gT, rfl, h2⟩; have H2 := Aside0.mk h2; have HB2 := Aside0.mk (below_then HB1.out HB1.out.size H2.out.2.2); clear h2))
  have HT := Aside0.mk H2.out.2.1
  have HZ := Aside0.mk (Kd.C_below HRZ.out HB2.out)
  clear H2
  go_loopw [7, 8, 9, 10, 11, 12, 43] (fun v7 v8 v9 v10 v11 v12 v43 w' => ∃ (i : Nat), v43 = .int .i64 i ∧ i ≤ ls.length ∧ Drawn0 w2 w') (fun _ _ _ _ _ _ v43 _ => ls.length - (intOf v43).toNat)
  case atStart => exact ⟨0, rfl, Nat.zero_le _, Drawn0.refl _⟩
  case round =>
    obtain ⟨i, rfl, hi, ⟨m1, rfl⟩⟩ := hrel
    by_cases hlt : i < ls.length
    · have hlt' : i < (ints ls).length := by rw [ints_length]; exact hlt
      have hil : ((i : Nat) : Int) < (ls.length : Int) := by omega
      have hil2 : ((i : Nat) : Int) < ((ints ls).length : Int) := by omega
      go_wp2
      go_loopw [8, 9, 10, 11, 12, 48] (fun v8 v9 v10 v11 v12 v48 w' => ∃ (k : Nat), v48 = .int .i64 k ∧ k ≤ ls.length ∧ Drawn0 w2 w') (fun _ _ _ _ _ v48 _ => ls.length - (intOf v48).toNat)
      case atStart => exact ⟨0, rfl, Nat.zero_le _, ⟨⟨_, rfl⟩⟩⟩
      case round =>
        obtain ⟨k, rfl, hk, ⟨m2, rfl⟩⟩ := hrel
        by_cases hkt : k < ls.length
        · have hkt' : k < (ints ls).length := by rw [ints_length]; exact hkt
          have hkl : ((k : Nat) : Int) < (ls.length : Int) := by omega
          have hkl2 : ((k : Nat) : Int) < ((ints ls).length : Int) := by omega
          obtain ⟨m, hm⟩ : ∃ m, ls.getD i 0 = m := ⟨_, rfl⟩
          obtain ⟨n, hn3⟩ : ∃ n, ls.getD k 0 = n := ⟨_, rfl⟩
          have HM := Aside0.mk hm
          have HN := Aside0.mk hn3
          have h15 : m ≤ 15 ∧ n ≤ 15 := by
            constructor
            · rw [← hm, List.getD_eq_getElem?_getD, List.getElem?_eq_getElem hlt]; exact HB.out _ (List.getElem_mem hlt)
            · rw [← hn3, List.getD_eq_getElem?_getD, List.getElem?_eq_getElem hkt]; exact HB.out _ (List.getElem_mem hkt)
          obtain ⟨h15a, h15b⟩ := h15
          clear hm hn3
          by_cases q1 : i = k
          · have t1 : ((i : Int) != (k : Int)) = false := by simp; omega
            clear q1
            go_wp2_with (go_at_call 16; first | (with_reducible refine (code_to gT ls i m _ ?ht HN8.out HM.out).mono ?_; (case ht => exact HT.out.below (by first | exact pw_below_drewN (Below.refl _ _) _ | exact Below.refl _ _)); rintro e w7 ⟨rfl, ⟨m7, rfl⟩⟩) | (with_reducible refine (code_to gT ls k n _ ?ht HN8.out HN.out).mono ?_; (case ht => exact HT.out.below (by first | exact pw_below_drewN (Below.refl _ _) _ | exact Below.refl _ _)); rintro e w8 ⟨rfl, ⟨m8, rfl⟩⟩))
            go_roundw
            case rel => exact ⟨k + 1, by go_num, by omega, ⟨⟨_, rfl⟩⟩⟩
            case measure => simp [intOf]; omega
          · have t1 : ((i : Int) != (k : Int)) = true := by simp; omega
            by_cases q2 : m = 0
            · have t2 : decide (0 < (m : Int)) = false := by simp; omega
              have t3 : decide (0 < m) = false := by simp; omega
              clear q1
              go_wp2_with (go_at_call 16; first | (with_reducible refine (code_to gT ls i m _ ?ht HN8.out HM.out).mono ?_; (case ht => exact HT.out.below (by first | exact pw_below_drewN (Below.refl _ _) _ | exact Below.refl _ _)); rintro e w7 ⟨rfl, ⟨m7, rfl⟩⟩) | (with_reducible refine (code_to gT ls k n _ ?ht HN8.out HN.out).mono ?_; (case ht => exact HT.out.below (by first | exact pw_below_drewN (Below.refl _ _) _ | exact Below.refl _ _)); rintro e w8 ⟨rfl, ⟨m8, rfl⟩⟩))
              go_roundw
              case rel => exact ⟨k + 1, by go_num, by omega, ⟨⟨_, rfl⟩⟩⟩
              case measure => simp [intOf]; omega
            · have t2 : decide (0 < (m : Int)) = true := by simp; omega
              have t3 : decide (0 < m) = true := by simp; omega
              by_cases q3 : m ≤ n
              · have t4 : decide ((m : Int) ≤ (n : Int)) = true := by simp; omega
                have t5 : decide (m ≤ n) = true := by simpa using q3
                have b1 : (0 : Int) ≤ (n : Int) - (m : Int) := by omega
                have b2 : (n : Int) - (m : Int) ≤ 32 := by omega
                have hpf := CN.prefix_free HB.out (i := i) (k := k) (by rw [HM.out]; exact q2) q1 (by rw [HM.out, HN.out]; exact q3)
                rw [HM.out, HN.out] at hpf
                have t6 := shift_ne (CN.code ls i) (CN.code ls k) m n hpf
                clear q1 q2 hpf
                go_wp2_with (go_at_call 16; first | (with_reducible refine (code_to gT ls i m _ ?ht HN8.out HM.out).mono ?_; (case ht => exact HT.out.below (by first | exact pw_below_drewN (Below.refl _ _) _ | exact Below.refl _ _)); rintro e w7 ⟨rfl, ⟨m7, rfl⟩⟩) | (with_reducible refine (code_to gT ls k n _ ?ht HN8.out HN.out).mono ?_; (case ht => exact HT.out.below (by first | exact pw_below_drewN (Below.refl _ _) _ | exact Below.refl _ _)); rintro e w8 ⟨rfl, ⟨m8, rfl⟩⟩))
                go_roundw
                case rel => exact ⟨k + 1, by go_num, by omega, ⟨⟨_, rfl⟩⟩⟩
                case measure => simp [intOf]; omega
              · have t4 : decide ((m : Int) ≤ (n : Int)) = false := by simp; omega
                have t5 : decide (m ≤ n) = false := by simpa using q3
                clear q1 q2
                go_wp2_with (go_at_call 16; first | (with_reducible refine (code_to gT ls i m _ ?ht HN8.out HM.out).mono ?_; (case ht => exact HT.out.below (by first | exact pw_below_drewN (Below.refl _ _) _ | exact Below.refl _ _)); rintro e w7 ⟨rfl, ⟨m7, rfl⟩⟩) | (with_reducible refine (code_to gT ls k n _ ?ht HN8.out HN.out).mono ?_; (case ht => exact HT.out.below (by first | exact pw_below_drewN (Below.refl _ _) _ | exact Below.refl _ _)); rintro e w8 ⟨rfl, ⟨m8, rfl⟩⟩))
                go_roundw
                case rel => exact ⟨k + 1, by go_num, by omega, ⟨⟨_, rfl⟩⟩⟩
                case measure => simp [intOf]; omega
        · have hkt' : ¬ k < (ints ls).length := by rw [ints_length]; exact hkt
          go_wp2
          go_roundw
          case rel => exact ⟨i + 1, by go_num, by omega, ⟨⟨_, rfl⟩⟩⟩
          case measure => simp [intOf]; omega
    · have hlt' : ¬ i < (ints ls).length := by rw [ints_length]; exact hlt
      clear hlt hi
      go_wp2_with ((with_reducible refine gate_dst (N := 86) rfl ?_); refine Kd.R_lit (Kd.int .i64) _ 3 ?hg (N := 86) ?hd (xs := ([] : List Int)) (inner := []) (ok := fun _ => True) (okp := fun _ => True) ?hr ?hp (fun _ hk => hk) trivial (Below.refl _ _) (Nat.le_refl _) (by simp) ?_; (case hd => rfl); (case hg => rfl); (case hr => first | (go_simp; done) | (go_simp; rfl)); (case hp => exact (Reps.none _ _)); intro v3 w3 ho hb hg_ hnew_; clear hg_ hnew_; have HO := Aside0.mk ho; have HB3 := Aside0.mk hb; clear ho hb)
      have HW : Aside0 (Wb w3 w2.heap.size w2.heap.size []) := ⟨wb_below (w := (w2.drewN m1).alloc (Obj.cells #[Value.slice none 0 0, Value.int IntKind.i64 0] 48)) ⟨[], ⟨none, 0, heap_alloc_new _ _, Nat.le_refl _, Kd.R_nil _ _ _ _ _⟩, hold_nil, by simp⟩ HB3.out⟩
      have HBB : Aside0 (Below w2.heap.size w2 w3) := ⟨(pw_below_drewN (Below.refl _ _) m1).trans (below_lit HB3.out)⟩
      have HMI : Aside0 (Kd.R (Kd.int .i64) 3 w3 w2.heap.size (fun _ => True) v3 (ints [])) := ⟨Kd.R_lower HO.out (by simp)⟩
      clear HO HB3
      go_loopw [14, 16, 17, 18, 89] (fun v14 v16 v17 v18 v89 w' => ∃ (t : Nat) (ms : List Nat), v89 = .int .i64 t ∧ t ≤ zs.length ∧ ms.length ≤ t ∧ Aside0 (Kd.R (Kd.int .i64) 3 w' w2.heap.size (fun _ => True) v14 (ints ms) ∧ Wb w' w2.heap.size w2.heap.size (ms.flatMap (cw ls)) ∧ Below w2.heap.size w2 w' ∧ ∀ s ∈ ms, s < ls.length ∧ ls.getD s 0 ≠ 0)) (fun _ _ _ _ v89 _ => zs.length - (intOf v89).toNat)
      case atStart => exact ⟨0, [], rfl, Nat.zero_le _, Nat.le_refl _, ⟨HMI.out, HW.out, HBB.out, by simp⟩⟩
      case round =>
        obtain ⟨t, ms, rfl, ht, hml, H⟩ := hrel
        by_cases htl : t < zs.length
        · obtain ⟨ad, e1, hx⟩ := Kd.at_int (Kd.C_below HZ.out H.out.2.2.1) (t : Int) (by omega) (by omega)
          cases e1
          rw [Int.toNat_natCast] at hx
          have htl2 : (t : Int) < (zs.length : Int) := by omega
          generalize rd zs (t : Int) = z at hx
          by_cases hz : (codeOf ls z).2 = 0
          · have HZ0 := Aside0.mk hz
            clear hz
            go_wp2_with (go_at_call 16; with_reducible refine (code_none gT ls z _ ?ht HN8.out HZ0.out).mono ?_; (case ht => exact HT.out.below (by first | exact H.out.2.2.1 | exact pw_below_drewN H.out.2.2.1 _)); rintro e w7 ⟨rfl, ⟨m7, rfl⟩⟩)
            go_roundw
            case rel => exact ⟨t + 1, ms, by go_num, by omega, by omega, ⟨Kd.R_drewN H.out.1 _, wb_drewN H.out.2.1 _, pw_below_drewN H.out.2.2.1 _, H.out.2.2.2⟩⟩
            case measure => simp [intOf]; omega
          · have hzs : ∃ s : Nat, z = (s : Int) ∧ s < ls.length ∧ ls.getD s 0 ≠ 0 := by
              unfold codeOf at hz
              split at hz
              · next h => exact ⟨z.toNat, by omega, CN.getD_mem hz, hz⟩
              · exact absurd rfl hz
            obtain ⟨s, rfl, hs, hs0⟩ := hzs
            clear hz
            obtain ⟨L, hL⟩ : ∃ L, ls.getD s 0 = L := ⟨_, rfl⟩
            have HLL := Aside0.mk hL
            have hL15 : L ≤ 15 := by
              rw [← hL, List.getD_eq_getElem?_getD, List.getElem?_eq_getElem hs]; exact HB.out _ (List.getElem_mem hs)
            have HCL : Aside0 (CN.code ls s < 4294967296) := ⟨by
              have h1 := CN.code_lt_pow HB.out HKR.out hs0
              have h2 : 2 ^ ls.getD s 0 ≤ 2 ^ 15 := Nat.pow_le_pow_right (by omega) (by rw [hL]; exact hL15)
              have h3 : CN.code ls s < 32768 := Nat.lt_of_lt_of_le h1 h2
              omega⟩
            have HBL : Aside0 ((ms.flatMap (cw ls)).length ≤ 100000) := ⟨by
              have := words_length ls HB.out ms fun x hx => (H.out.2.2.2 x hx).1
              omega⟩
            have t1 : decide (0 < (L : Int)) = true := by simp; omega
            have t2 : decide (0 < L) = true := by simp; omega
            have HMS : Aside0 (∀ x ∈ ms ++ [s], x < ls.length ∧ ls.getD x 0 ≠ 0) := ⟨by
              intro x hx
              rcases List.mem_append.1 hx with h | h
              · exact H.out.2.2.2 x h
              · obtain rfl : x = s := by simpa using h
                exact ⟨hs, hs0⟩⟩
            have HCW : Aside0 ((ms ++ [s]).flatMap (cw ls) = ms.flatMap (cw ls) ++ (lb (CN.code ls s) L).reverse) := ⟨by rw [List.flatMap_append, List.flatMap_cons, List.flatMap_nil, List.append_nil]; unfold cw; rw [hL]⟩
            have HIN : Aside0 (ints (ms ++ [s]) = ints ms ++ [(s : Int)]) := ⟨by simp [ints]⟩
            clear hL hs0
            go_wp2_with (first
              | (go_at_call 16; with_reducible refine (code_to gT ls s L _ ?ht HN8.out HLL.out).mono ?_; (case ht => exact HT.out.below (by first | exact H.out.2.2.1 | exact pw_below_drewN H.out.2.2.1 _)); rintro e w7 ⟨rfl, ⟨m7, rfl⟩⟩)
              | (go_at_call 17; refine (wcode_calls w2.heap.size w2.heap.size (ms.flatMap (cw ls)) (CN.code ls s) L _ (wb_drewN H.out.2.1 _) HBL.out HCL.out hL15 H.out.2.2.1.size).mono ?_; rintro e w4 ⟨rfl, H4⟩; have HM4 := Aside0.mk (int_fr (Kd.R_drewN H.out.1 _) H4.out.2.2); have HB4 := Aside0.mk ((pw_below_drewN H.out.2.2.1 _).trans H4.out.2.1))
              | ((with_reducible refine gate_builtin (b := .append) (xs := #[.tmp 104, .tmp 106]) rfl ?_); at_builtin; refine Kd.R_append (Kd.int .i64) (w0 := w2) w2.heap.size rfl (.tmp 104) (.tmp 106) 22 3 (.int .i64 0) 8 rfl Try.underlying22 info_int rfl (by decide) (by omega) u14 (ints ms) (s : Int) [.int .i64 (s : Int)] (fun _ => True) (fun _ => False) rfl rfl ?aP (fun _ hk => hk.elim) ?aF ?aO ?aB ?aS ?aL ?_; (case aP => exact rfl); (case aF => exact (fun _ _ => trivial)); (case aO => exact HM4.out); (case aB => exact HB4.out); (case aS => exact HB4.out.size); (case aL => rw [ints_length]; omega); intro v5 w5 ho hb hg hat; have HO5 := Aside0.mk ho; have HB5 := Aside0.mk hb; have HW5 := Aside0.mk (wb_grown HM4.out hg H4.out.1); clear ho hb hg hat))
            go_roundw
            case rel => exact ⟨t + 1, ms ++ [s], by go_num, by omega, by simp; omega, ⟨by rw [HIN.out]; exact HO5.out, by rw [HCW.out]; exact HW5.out, HB5.out, HMS.out⟩⟩
            case measure => simp [intOf]; omega
        · have HBL : Aside0 ((ms.flatMap (cw ls)).length ≤ 100000) := ⟨by
            have := words_length ls HB.out ms fun x hx => (H.out.2.2.2 x hx).1
            omega⟩
          obtain ⟨A3, c3, hv3, hl3, hC3⟩ := Kd.R_reads H.out.1
          subst hv3
          have HC3 := Aside0.mk hC3
          have HBG : Aside0 (Below w2.heap.size w2 wr) := ⟨H.out.2.2.1⟩
          clear hC3
          go_wp2_with (first
            | (go_at_call 18; refine (done_calls w2.heap.size w2.heap.size (ms.flatMap (cw ls)) _ (by first | exact H.out.2.1 | exact wb_drewN H.out.2.1 _) HBL.out).mono ?_; rintro e w4 ⟨A2, c2, xs, rfl, H4⟩)
            | (go_at_call 11; refine (bits_Read.calls A2 c2 (ints xs) (ints xs) 0 w4 _ (by first | exact Below.refl _ _ | exact pw_below_drewN (Below.refl _ _) _) H4.out.2.2.2.1 H4.out.2.2.1 rfl).mono ?_; rintro e w5 ⟨gR, rfl, hI5, hB5, hB5'⟩; have HI5 := Aside0.mk hI5; have HB5 := Aside0.mk hB5; clear hI5 hB5 hB5'))
          have hb24 : Below w2.heap.size w2 w4 := below_then HBG.out HBG.out.size H4.out.2.2.2.2
          have HT4 := Aside0.mk (HT.out.below hb24)
          have HM4 := Aside0.mk (Kd.C_below HC3.out H4.out.2.2.2.2)
          have HW4 := Aside0.mk (wb_below H.out.2.1 H4.out.2.2.2.2)
          have HBE := Aside0.mk (below_then HB2.out HB2.out.size hb24)
          have HML := Aside0.mk (ints_length ms)
          have HLT := Aside0.mk (show ms.length ≤ (ints ms).length by rw [ints_length]; exact Nat.le_refl _)
          clear hb24
          go_loopw [21, 22, 23, 113] (fun v21 v22 v23 v113 w' => ∃ (t : Nat), v113 = .int .i64 t ∧ t ≤ ms.length ∧ Aside0 (IsS61 w4 w' gR (ints xs) ((((ms.take t).flatMap (cw ls)).length : Nat) : Int) ∧ Below w4.heap.size w4 w')) (fun _ _ _ v113 _ => ms.length - (intOf v113).toNat)
          case atStart => exact ⟨0, rfl, Nat.zero_le _, ⟨by simpa using HI5.out, HB5.out⟩⟩
          case round =>
            obtain ⟨t, rfl, htm, HL⟩ := hrel
            by_cases htl2 : t < ms.length
            · obtain ⟨ad, e1, hx⟩ := Kd.at_int (Kd.C_below HM4.out HL.out.2) (t : Int) (by omega) (by have := HLT.out; omega)
              cases e1
              rw [Int.toNat_natCast, ints_rd ms t htl2] at hx
              have htl3 : (t : Int) < ((ints ms).length : Int) := by have := HLT.out; omega
              have htl4 : t < (ints ms).length := by have := HLT.out; omega
              have hsx := H.out.2.2.2 _ (List.getElem_mem htl2)
              have HSP : Aside0 (ms.flatMap (cw ls) = (ms.take t).flatMap (cw ls) ++ (cw ls ms[t] ++ (ms.drop (t + 1)).flatMap (cw ls))) := ⟨by
                conv => lhs; rw [← List.take_append_drop t ms, List.drop_eq_getElem_cons htl2, List.flatMap_append, List.flatMap_cons]⟩
              have HNX : Aside0 (((ms.take (t + 1)).flatMap (cw ls)).length = ((ms.take t).flatMap (cw ls)).length + ls.getD ms[t] 0) := ⟨by
                rw [List.take_succ_eq_append_getElem htl2, List.flatMap_append, List.length_append, List.flatMap_cons, List.flatMap_nil, List.append_nil, cw_length]⟩
              have HRD := Aside0.mk (rd_word (R := (ms.drop (t + 1)).flatMap (cw ls)) HB.out HKR.out hsx.2 (by rw [← HSP.out]; exact H4.out.1))
              have HJ : Aside0 (((ms.take t).flatMap (cw ls)).length ≤ 8 * xs.length) := ⟨by
                have h1 := H4.out.1.2.1
                rw [HSP.out, List.length_append] at h1
                omega⟩
              generalize ms[t] = s at *
              obtain ⟨L, hL⟩ : ∃ L, ls.getD s 0 = L := ⟨_, rfl⟩
              rw [hL] at HRD HNX
              have t1 : ((s : Int) != (s : Int)) = false := by simp
              clear htl2 hsx hL
              go_wp2_with (go_at_call 13; refine (read_to gT gR ls xs _ s 0 _ 0 w4 _ HT4.out (by first | exact HL.out.1 | exact IsS61.drewN HL.out.1 _) (by first | exact HL.out.2 | exact pw_below_drewN HL.out.2 _) HB.out HKR.out HN8.out H4.out.1.1 (by have := H4.out.2.1; omega) HJ.out HRD.out rfl).mono ?_; rintro e w6 ⟨rfl, hS, hBB⟩; have HS := Aside0.mk hS; have HBB := Aside0.mk hBB; clear hS hBB)
              go_roundw
              case rel => exact ⟨t + 1, by go_num, by have := HML.out; omega, ⟨by rw [HNX.out]; exact HS.out, HBB.out⟩⟩
              case measure => simp [intOf]; have := HML.out; omega
            · have hte : Aside0 (((((ms.take t).flatMap (cw ls)).length : Nat) : Int) = (((ms.flatMap (cw ls)).length : Nat) : Int)) := ⟨by rw [List.take_of_length_le (by omega)]⟩
              have htl5 : ¬ t < (ints ms).length := by have := HML.out; omega
              have HI6 : Aside0 (IsS61 w4 wr gR (ints xs) (((ms.flatMap (cw ls)).length : Nat) : Int)) := ⟨by rw [← hte.out]; exact HL.out.1⟩
              have HBW : Aside0 (Below w4.heap.size w4 wr) := ⟨HL.out.2⟩
              have HWB := Aside0.mk (wb_below HW4.out HL.out.2)
              generalize (ms.flatMap (cw ls)) = BB at HI6 HWB
              clear htl2
              go_wp2_with (first
                | (go_at_call 15; refine (at_calls gR (ints xs) (BB.length : Int) w4 _ (by first | exact HI6.out | exact IsS61.drewN HI6.out _)).mono ?_; rintro e w8 ⟨rfl, ⟨m8, rfl⟩⟩)
                | (go_at_call 19; refine (len_calls w2.heap.size w2.heap.size BB _ (by first | exact HWB.out | exact wb_drewN HWB.out _)).mono ?_; rintro e w9 ⟨rfl, ⟨m9, rfl⟩⟩))
              go_ret
              exact ⟨by simp, below_then HBE.out HBE.out.size (pw_below_drewN HBW.out _)⟩

theorem back_all (A0 B0 : Option Addr) (c0 d0 : Nat) (l0 zs : List Int) (w : World) (hr0 : Kd.C (Kd.int .i64) w A0 l0.length l0) (hc0 : l0.length ≤ c0) (hb0 : Kd.C (Kd.int .i64) w B0 zs.length zs) (hd0 : zs.length ≤ d0) :
    Calls Try.prog 6 #[.slice A0 l0.length c0, .slice B0 zs.length d0] w fun e w' => e = .returned (.bool true) ∧ Below w.heap.size w w' := by
  by_cases hl : 40 < l0.length
  · exact back_long A0 B0 c0 d0 l0 _ w hl
  · by_cases hn : 40 < zs.length
    · exact back_long2 A0 B0 c0 d0 l0 _ w (by omega) hn
    · rcases list_cases l0 with hbad | ⟨ls, rfl, hb, hn2⟩
      · exact back_fail A0 B0 c0 d0 l0 _ w (by omega) (by omega) 1 (by decide) (fun W hW => new_fail A0 c0 l0 W 1 (by decide) (codes_fail A0 c0 l0 W 1 (by decide) (check_bad A0 c0 l0 W (Kd.C_below hr0 hW) hbad)))
      · by_cases hk : chk ls = 0
        · exact back_good A0 B0 c0 d0 ls zs w hr0 hc0 hb0 hd0 (by rw [ints_length] at hl; omega) (by omega) hb hk
        · exact back_fail A0 B0 c0 d0 (ints ls) _ w (by omega) (by omega) _ hk (fun W hW => new_fail A0 c0 (ints ls) W _ hk (codes_fail A0 c0 (ints ls) W _ hk (check_good A0 c0 ls W (Kd.C_below hr0 hW) hc0 hn2 hb)))
end Go.Proofs.Ytgbfkfmjbacemaa.Cn
