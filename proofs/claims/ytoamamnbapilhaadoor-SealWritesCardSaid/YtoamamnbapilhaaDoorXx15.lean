import Derived.Test.YtoamamnbapilhaaDoorXx0
import Derived.Test.YtoamamnbapilhaaDoorXx3
import Derived.Test.YtoamamnbapilhaaDoorXx4
import Derived.Test.YtoamamnbapilhaaDoorXx5
import Derived.Test.YtoamamnbapilhaaDoorXx6
import Derived.Test.YtoamamnbapilhaaDoorXx8
import Derived.Test.YtoamamnbapilhaaDoorXx9
import Derived.Test.YtoamamnbapilhaaDoorXx10
import Derived.Test.YtoamamnbapilhaaDoorXx13
import Derived.Test.YtoamamnbapilhaaDoorXx14
namespace Go.Proofs.YtoamamnbapilhaaDoor.X
open Go.RowKit Go.Proofs.YtoamamnbapilhaaDoorW.PrintWords Go.Proofs.YtoamamnbapilhaaDoorW.PrintLast Go.Proofs.YtoamamnbapilhaaDoorW.PrintMore
attribute [local go_sem] max2_int min2_int max_two min_two max_three min_three max_four min_four
set_option linter.unusedVariables false
set_option linter.unusedSimpArgs false
mutual
def footlockerlaw24_SealWrites.l0 : Nat → List Int → List (List Int) → List (List Int) → Int → Int → Int → Int → Int → Int → Int → List (List Int) → Option (Bool)
 | 0, _, _, _, _, _, _, _, _, _, _, _ => none
 | k + 1, x1, x2, x16, x17, x18, x458000, x458001, x458002, x458003, x458004, x458005 => if x18 < x17 then (if 0 ≤ x18 then (if x18 < (x16.length : Int) then (if ((rd_L8 x16 x18).length : Int) > 200 then (some true) else (footlockerlaw24_SealWrites.l0 k x1 x2 x16 x17 (wrap64 (x18 + 1)) x458000 x458001 x458002 x458003 x458004 x458005)) else (none)) else (none)) else ((footlockerlaw24_small.f k x458000 x458001 x458002 x458003 x458004 x458005).bind fun t460 => (if t460 = true then (if (x1.length : Int) > 1100 then (footlockerlaw24_SealWrites.j1 k x1 x2 true x458000 x458001 x458002 x458003 x458004 x458005) else (footlockerlaw24_SealWrites.j1 k x1 x2 (decide ((x2.length : Int) > 20)) x458000 x458001 x458002 x458003 x458004 x458005)) else (footlockerlaw24_SealWrites.j1 k x1 x2 true x458000 x458001 x458002 x458003 x458004 x458005)))
def footlockerlaw24_SealWrites.j1 : Nat → List Int → List (List Int) → Bool → Int → Int → Int → Int → Int → List (List Int) → Option (Bool)
 | 0, _, _, _, _, _, _, _, _, _ => none
 | k + 1, x1, x2, x38, x458000, x458001, x458002, x458003, x458004, x458005 => if x38 = true then (some true) else ((seal_Write.f k x458000 x458001 x458002 x458003 x458004 x458005 x1).bind fun bt461 => ((footlockerlaw24_as.f x458000 x458001 x458002 x458003 x458004 x458005).bind fun bt465 => ((footlockerref24_Write.f k bt465.1 bt465.2.1 bt465.2.2.1 bt465.2.2.2.1 bt465.2.2.2.2.1 bt465.2.2.2.2.2 x1).bind fun bt473 => (if bt461.2 = bt473.2 then ((footlockerref01_Same.f k bt461.1 bt473.1).bind fun t477 => (footlockerlaw24_SealWrites.j2 k x2 (!t477) x458000 x458001 x458002 x458003 x458004 x458005)) else (footlockerlaw24_SealWrites.j2 k x2 true x458000 x458001 x458002 x458003 x458004 x458005)))))
def footlockerlaw24_SealWrites.j2 : Nat → List (List Int) → Bool → Int → Int → Int → Int → Int → List (List Int) → Option (Bool)
 | 0, _, _, _, _, _, _, _, _ => none
 | k + 1, x2, x60, x458000, x458001, x458002, x458003, x458004, x458005 => if x60 = true then (none) else ((footlockerref23_Right.f x458000 x458001 x458002 x458003).bind fun t479 => (if t479 = true then ((seal_Head.f x458000 x458001 x458002 x458003).bind fun t484 => ((footlockerref24_Head.f k x458000 x458001 x458002 x458003).bind fun t485 => (if t484 = t485 then ((seal_Sums.f k x2 x458000 x458001 x458002 x458003).bind fun t486 => ((footlockerref24_Sums.f k x2 x458003).bind fun t489 => ((footlockerref24_SameSums.f k t486 t489).bind fun t492 => (some t492)))) else (none)))) else ((seal_Head.f x458000 x458001 x458002 x458003).bind fun t480 => (if t480 = 0 then ((seal_Sums.f k x2 x458000 x458001 x458002 x458003).bind fun t481 => (some ((t481.length : Int) == 0))) else (none)))))
end
def footlockerlaw24_SealWrites.f (k : Nat) (a0_0 : Int) (a0_1 : Int) (a0_2 : Int) (a0_3 : Int) (a0_4 : Int) (l0_5 : List (List Int)) (l1 : List Int) (l2 : List (List Int)) : Option (Bool) := (footlockerlaw24_alive.f k).bind fun t458 => (if t458 = true then (footlockerlaw24_SealWrites.l0 k l1 l2 l2 (l2.length : Int) 0 a0_0 a0_1 a0_2 a0_3 a0_4 l0_5) else (none))
def footlockerlaw24_SealWrites.T18 : Bool × List (List Nat × List Nat) := (true, [([], []), ([0], [0]), ([1], [1]), ([], []), ([3, 2], [3]), ([2, 4], [2, 4]), ([5, 4], [5]), ([6], [6]), ([6], [6]), ([8, 6], [6, 8]), ([7, 9, 6, 6], [6, 7, 9]), ([6], [6]), ([6], [6]), ([12, 6], [6, 12]), ([13, 6], [6, 13]), ([11, 14, 10, 6], [6, 11, 14]), ([10, 15, 15, 6], [6, 10, 15]), ([6, 16], [6, 16]), ([17, 16, 0, 1, 2, 3, 4, 5, 6, 7, 8, 9, 10, 11, 12, 13, 14, 15, 16, 17], [17])])
def footlockerlaw24_SealWrites.B18 : List Nat := [0, 1, 3, 0, 15, 31, 63, 127, 127, 383, 1023, 127, 127, 4223, 12415, 32767, 65535, 131071, 262143]
theorem footlockerlaw24_SealWrites.tab18 : rtab .any (opsOf Tryd.f3 18) = footlockerlaw24_SealWrites.T18 := by kernel_rfl
theorem footlockerlaw24_SealWrites.bits18 : waitsOk footlockerlaw24_SealWrites.T18.2 footlockerlaw24_SealWrites.B18 = true := by kernel_rfl
set_option maxHeartbeats 8000000 in
set_option maxRecDepth 100000 in
theorem footlockerlaw24_SealWrites.calls (k : Nat) (a0_0 : Int) (a0_1 : Int) (a0_2 : Int) (a0_3 : Int) (a0_4 : Int) (A0_5 : Option Addr) (c0_5 : Nat) (l0_5 : List (List Int)) (A1 : Option Addr) (c1 : Nat) (l1 : List Int) (A2 : Option Addr) (c2 : Nat) (l2 : List (List Int)) (r : Bool) (w : World) (hG : Glob w) (hr0_5 : Kd.C (Kd.slice 54 (Kd.int .u32)) w A0_5 l0_5.length l0_5) (hc0_5 : l0_5.length ≤ c0_5) (hr1 : Kd.C (Kd.int .u8) w A1 l1.length l1) (hc1 : l1.length ≤ c1) (hr2 : Kd.C (Kd.slice 5 (Kd.int .u8)) w A2 l2.length l2) (hc2 : l2.length ≤ c2) (h : footlockerlaw24_SealWrites.f k a0_0 a0_1 a0_2 a0_3 a0_4 l0_5 l1 l2 = some r) :
  Calls Tryd.prog 3 #[.agg #[.int .i64 a0_0, .int .i64 a0_1, .int .i64 a0_2, .int .i64 a0_3, .int .i64 a0_4, .slice A0_5 l0_5.length c0_5], .slice A1 l1.length c1, .slice A2 l2.length c2] w fun e w' => e = .returned (.bool r) ∧ Below w.heap.size w w' := by
 have hu26 := Tryd.underlying26
 have hu23 := Tryd.underlying23
 have hu36 := Tryd.underlying36
 have HR0_5 := kzA hr0_5
 have HC0_5 := kzA hc0_5
 clear hr0_5 hc0_5
 have HR1 := kzA hr1
 have HC1 := kzA hc1
 clear hr1 hc1
 have HR2 := kzA hr2
 have HC2 := kzA hc2
 clear hr2 hc2
 have HB := kzA (Below.refl w.heap.size w)
 have H : ((footlockerlaw24_alive.f k).bind fun t458 => (if t458 = true then (footlockerlaw24_SealWrites.l0 k l1 l2 l2 (l2.length : Int) 0 a0_0 a0_1 a0_2 a0_3 a0_4 l0_5) else (none))) = some r := h
 clear h
 replace H := Option.bind_eq_some_iff.mp H
 obtain ⟨t458, A40, H⟩ := H
 replace H : (if t458 = true then (footlockerlaw24_SealWrites.l0 k l1 l2 l2 (l2.length : Int) 0 a0_0 a0_1 a0_2 a0_3 a0_4 l0_5) else (none)) = some r := H
 have A4 := kzA A40
 clear A40
 by_cases c5 : t458 = true
 ·subst c5
  have H1 : (footlockerlaw24_SealWrites.l0 k l1 l2 l2 (l2.length : Int) 0 a0_0 a0_1 a0_2 a0_3 a0_4 l0_5) = some r := by rw [if_pos rfl] at H; exact H
  clear H
  have H := H1
  clear H1
  have H' := kzA H
  clear H
  go_enter Tryd.func3, Tryd.ntmps3
  go_wp2_with (first | ((with_reducible refine kBA (N := 3) rfl ?_); (try (refine kCI (by rfl) ?_; dsimp only)); refine kBD ?hg (N := 3) ?hd (cs := #[.int .i64 a0_0, .int .i64 a0_1, .int .i64 a0_2, .int .i64 a0_3, .int .i64 a0_4, .slice A0_5 l0_5.length c0_5]) (t := 26) ?hr ?_; (case hd => rfl); (case hg => rfl); (case hr => first | (go_simp; done) | (go_simp; rfl)); intro gb457 hg w6 hbox hb; have n0_ := kzA (kAK (by repeat (first | (with_reducible first | exact HB.out | apply kAB | apply kAA | apply kAC) | exact HB.out)) hb); have n1_ := kzA (hbox); have n2_ := kzA ((by rw [hg]; exact (kAJ (by repeat (first | (with_reducible first | exact HB.out | apply kAB | apply kAA | apply kAC) | exact HB.out))) : w.heap.size ≤ gb457)); have n3_ := kzA ((by rw [hg]; exact (kAJ (by repeat (first | (with_reducible first | exact HB.out | apply kAB | apply kAA | apply kAC) | exact HB.out))) : w.heap.size ≤ gb457)); clear HB; have HB := n0_; have BK457 := n1_; have GW457 := n2_; have GE457 := n3_; clear n0_ n1_ n2_ n3_; clear hb hbox hg) | ((with_reducible refine kAQ (f := 7) rfl ?_); refine kBI (some 14) rfl rfl Tryd.func7 (by kernel_rfl) rfl #[] rfl (by (try simp only [List.map_toArray, List.map_cons, List.map_nil]); first | done | rfl | (simp only [List.length_drop, List.length_take]; rfl)) ?_; (with_reducible refine (footlockerlaw24_alive.calls k  true _ ?side1 A4.out).mono ?_); (case side1 => exact Glob.below hG (by repeat (first | (with_reducible first | exact HB.out | apply kAB | apply kAA | apply kAC | refine kAF ?_ GE457.out) | exact HB.out))); rintro e w7 ⟨rfl, hb⟩; refine ⟨_, rfl, ?_⟩; have n0_ := kzA (kAL (g := gb457) (o := .cells #[.int .i64 a0_0, .int .i64 a0_1, .int .i64 a0_2, .int .i64 a0_3, .int .i64 a0_4, .slice A0_5 l0_5.length c0_5] 26 (0, 0)) (by (with_reducible repeat (first | refine kAH ?_ _ | refine kAI ?_ | refine kAG ?_ _)); exact BK457.out) hb); have n1_ := kzA (kAK (by repeat (first | (with_reducible first | exact HB.out | apply kAB | apply kAA | apply kAC | refine kAF ?_ GE457.out) | exact HB.out)) hb); clear BK457; clear HB; have BK457 := n0_; have HB := n1_; clear n0_ n1_; (try clear hb); (try clear hb2); (try clear hk); (try clear hi)))
  go_loopg [18] k (fun kq v18 w' => ∃ (x18_1 : Int), v18 = .int .i64 x18_1 ∧ Aside0 (footlockerlaw24_SealWrites.l0 kq l1 l2 l2 (l2.length : Int) x18_1 a0_0 a0_1 a0_2 a0_3 a0_4 l0_5 = some r) ∧ Aside0 (kq ≤ k) ∧ Aside0 (w'.heap[gb457]? = some (.cells #[.int .i64 a0_0, .int .i64 a0_1, .int .i64 a0_2, .int .i64 a0_3, .int .i64 a0_4, (.slice A0_5 l0_5.length c0_5)] 26 (0, 0))) ∧ Aside0 (Below w.heap.size w w'))
  case atStart => exact ⟨(0), (by first | rfl | (simp; done) | (simp [*]; done)), H', ⟨Nat.le_refl _⟩, ⟨by (with_reducible repeat (first | refine kAH ?_ _ | refine kAI ?_ | refine kAG ?_ _)); exact BK457.out⟩, ⟨by repeat (first | (with_reducible first | exact HB.out | apply kAB | apply kAA | apply kAC | refine kAF ?_ GE457.out) | exact HB.out)⟩⟩
  case round =>
   clear H'
   try clear c1
   try clear c2
   try clear p2
   try clear c3
   try clear c5
   try clear c7
   obtain ⟨x18_1, rfl, HA, HK1, BK457, HB⟩ := hrel
   cases gk with
   | zero => exact absurd HA.out (by simp [footlockerlaw24_SealWrites.l0])
   | succ k1 =>
    have H := HA.out
    clear HA
    simp only [footlockerlaw24_SealWrites.l0] at H
    by_cases c8 : x18_1 < (l2.length : Int)
    ·rw [if_pos c8] at H
     have c8b0 : decide (x18_1 < (l2.length : Int)) = true := decide_eq_true c8
     clear c8
     by_cases c9 : 0 ≤ x18_1
     ·rw [if_pos c9] at H
      have c9b0 : decide (0 ≤ x18_1) = true := decide_eq_true c9
      clear c9
      by_cases c10 : x18_1 < (l2.length : Int)
      ·rw [if_pos c10] at H
       have c10b0 : decide (x18_1 < (l2.length : Int)) = true := decide_eq_true c10
       clear c10
       by_cases c11 : ((rd_L8 l2 x18_1).length : Int) > 200
       ·rw [if_pos c11] at H
        have c11b0 : decide (200 < ((rd_L8 l2 x18_1).length : Int)) = true := decide_eq_true c11
        have c11b1 : decide (200 < (rd_L8 l2 x18_1).length) = true := decide_eq_true (by omega)
        clear c11
        obtain rfl := Option.some.inj H
        have p459 : 0 ≤ (x18_1 : Int) := of_decide_eq_true (by first | (with_reducible assumption) | assumption)
        have q459 : x18_1 < (l2.length : Int) := of_decide_eq_true (by first | (with_reducible assumption) | assumption)
        obtain ⟨ad459, A459_0, c459_0, e459, hx459_0, hl459_0, hi459_0⟩ := at_L8 HR2.out x18_1 p459 q459
        cases e459
        replace hx459_0 := (HB.out.cell (World.block_lt_of_cell? w _ hx459_0)).trans hx459_0
        have HR459_0 := kzA hi459_0
        have HC459_0 := kzA hl459_0
        clear hi459_0 hl459_0
        replace p459 := eq_true p459
        replace q459 := eq_true q459
        go_wp2
        go_ret
        exact ⟨by first | rfl | (simp [kAN, kAM] <;> rfl) | (simp [*, kAN, kAM] <;> rfl), by repeat (first | (with_reducible first | exact HB.out | apply kAB | apply kAA | apply kAC | refine kAF ?_ GE457.out) | exact HB.out)⟩
       ·rw [if_neg c11] at H
        have c11b0 : decide (200 < ((rd_L8 l2 x18_1).length : Int)) = false := decide_eq_false c11
        have c11b1 : decide (200 < (rd_L8 l2 x18_1).length) = false := decide_eq_false (by omega)
        clear c11
        have H' := kzA H
        clear H
        have p459 : 0 ≤ (x18_1 : Int) := of_decide_eq_true (by first | (with_reducible assumption) | assumption)
        have q459 : x18_1 < (l2.length : Int) := of_decide_eq_true (by first | (with_reducible assumption) | assumption)
        obtain ⟨ad459, A459_0, c459_0, e459, hx459_0, hl459_0, hi459_0⟩ := at_L8 HR2.out x18_1 p459 q459
        cases e459
        replace hx459_0 := (HB.out.cell (World.block_lt_of_cell? w _ hx459_0)).trans hx459_0
        have HR459_0 := kzA hi459_0
        have HC459_0 := kzA hl459_0
        clear hi459_0 hl459_0
        replace p459 := eq_true p459
        replace q459 := eq_true q459
        go_wp2
        go_roundg k1
        case measure => have := HK1.out; omega
        case rel => exact ⟨(wrap64 (x18_1 + 1)), (by first | rfl | (simp; done) | (simp [*]; done)), H', ⟨by have := HK1.out; omega⟩, ⟨by (with_reducible repeat (first | refine kAH ?_ _ | refine kAI ?_ | refine kAG ?_ _)); exact BK457.out⟩, ⟨by repeat (first | (with_reducible first | exact HB.out | apply kAB | apply kAA | apply kAC | refine kAF ?_ GE457.out) | exact HB.out)⟩⟩
      ·rw [if_neg c10] at H
       exact absurd H (by simp)
     ·rw [if_neg c9] at H
      exact absurd H (by simp)
    ·rw [if_neg c8] at H
     have c8b0 : decide (x18_1 < (l2.length : Int)) = false := decide_eq_false c8
     clear c8
     have HC12 := kzA H
     clear H
     go_upto_region 9 with (fail)
     go_cut [38] (fun v38 wc => ∃ (kq : Nat) (x38_11 : Bool), v38 = .bool x38_11 ∧ Aside0 (footlockerlaw24_SealWrites.j1 kq l1 l2 x38_11 a0_0 a0_1 a0_2 a0_3 a0_4 l0_5 = some r) ∧ Aside0 (kq ≤ k1) ∧ Aside0 (wc.heap[gb457]? = some (.cells #[.int .i64 a0_0, .int .i64 a0_1, .int .i64 a0_2, .int .i64 a0_3, .int .i64 a0_4, (.slice A0_5 l0_5.length c0_5)] 26 (0, 0))) ∧ Aside0 (Below w.heap.size w wc))
     case first =>
      have H := HC12.out
      clear HC12
      replace H := Option.bind_eq_some_iff.mp H
      obtain ⟨t460, A130, H⟩ := H
      replace H : (if t460 = true then (if (l1.length : Int) > 1100 then (footlockerlaw24_SealWrites.j1 k1 l1 l2 true a0_0 a0_1 a0_2 a0_3 a0_4 l0_5) else (footlockerlaw24_SealWrites.j1 k1 l1 l2 (decide ((l2.length : Int) > 20)) a0_0 a0_1 a0_2 a0_3 a0_4 l0_5)) else (footlockerlaw24_SealWrites.j1 k1 l1 l2 true a0_0 a0_1 a0_2 a0_3 a0_4 l0_5)) = some r := H
      have A13 := kzA A130
      clear A130
      by_cases c14 : t460 = true
      ·subst c14
       have H1 : (if (l1.length : Int) > 1100 then (footlockerlaw24_SealWrites.j1 k1 l1 l2 true a0_0 a0_1 a0_2 a0_3 a0_4 l0_5) else (footlockerlaw24_SealWrites.j1 k1 l1 l2 (decide ((l2.length : Int) > 20)) a0_0 a0_1 a0_2 a0_3 a0_4 l0_5)) = some r := by rw [if_pos rfl] at H; exact H
       clear H
       have H := H1
       clear H1
       by_cases c15 : (l1.length : Int) > 1100
       ·rw [if_pos c15] at H
        have c15b0 : decide (1100 < (l1.length : Int)) = true := decide_eq_true c15
        have c15b1 : decide (1100 < l1.length) = true := decide_eq_true (by omega)
        clear c15
        (first | rw [c15b0] | (simp only [kAX, kAY]; rw [c15b0]) | skip)
        have H' := kzA H
        clear H
        have hcz16_0 : wr.cell? ⟨gb457, 0, none⟩ = some (.int .i64 a0_0) := (kAD BK457.out 0).trans rfl
        have hcz16_1 : wr.cell? ⟨gb457, 1, none⟩ = some (.int .i64 a0_1) := (kAD BK457.out 1).trans rfl
        have hcz16_2 : wr.cell? ⟨gb457, 2, none⟩ = some (.int .i64 a0_2) := (kAD BK457.out 2).trans rfl
        have hcz16_3 : wr.cell? ⟨gb457, 3, none⟩ = some (.int .i64 a0_3) := (kAD BK457.out 3).trans rfl
        have hcz16_4 : wr.cell? ⟨gb457, 4, none⟩ = some (.int .i64 a0_4) := (kAD BK457.out 4).trans rfl
        have hcz16_5 : wr.cell? ⟨gb457, 5, none⟩ = some (.slice A0_5 l0_5.length c0_5) := (kAD BK457.out 5).trans rfl
        have hfz16_0 := kAE BK457.out 0
        have hfz16_1 := kAE BK457.out 1
        have hfz16_2 := kAE BK457.out 2
        have hfz16_3 := kAE BK457.out 3
        have hfz16_4 := kAE BK457.out 4
        have hfz16_5 := kAE BK457.out 5
        go_wp2_with (first | ((with_reducible refine kAQ (f := 8) rfl ?_); refine kBI (some 27) rfl rfl Tryd.func8 (by kernel_rfl) rfl #[.agg #[.int .i64 a0_0, .int .i64 a0_1, .int .i64 a0_2, .int .i64 a0_3, .int .i64 a0_4, .slice A0_5 l0_5.length c0_5]] rfl (by (try simp only [List.map_toArray, List.map_cons, List.map_nil]); first | done | rfl | (simp only [List.length_drop, List.length_take]; rfl)) ?_; (with_reducible refine (footlockerlaw24_small.calls k1 a0_0 a0_1 a0_2 a0_3 a0_4 _ _ l0_5 true _ ?side1 ?side2 A13.out).mono ?_); (case side1 => repeat (first | exact (Kd.kCG HR0_5.out HB.out) | (with_reducible refine Kd.kBH ?_ _) | (with_reducible refine Kd.kBF ?_ _) | (with_reducible refine Kd.kBM ?_))); (case side2 => exact HC0_5.out); rintro e w17 ⟨rfl, hb⟩; refine ⟨_, rfl, ?_⟩; have n0_ := kzA (kAL (g := gb457) (o := .cells #[.int .i64 a0_0, .int .i64 a0_1, .int .i64 a0_2, .int .i64 a0_3, .int .i64 a0_4, .slice A0_5 l0_5.length c0_5] 26 (0, 0)) (by (with_reducible repeat (first | refine kAH ?_ _ | refine kAI ?_ | refine kAG ?_ _)); exact BK457.out) hb); have n1_ := kzA (kAK (by repeat (first | (with_reducible first | exact HB.out | apply kAB | apply kAA | apply kAC | refine kAF ?_ GE457.out) | exact HB.out)) hb); clear BK457; clear HB; have BK457 := n0_; have HB := n1_; clear n0_ n1_; (try clear hb); (try clear hb2); (try clear hk); (try clear hi)))
        go_meet
        case rel => exact ⟨_, (true), (by first | rfl | (simp; done) | (simp [*]; done)), H', ⟨by have := HK1.out; first | omega | exact Nat.le_refl _⟩, ⟨by (with_reducible repeat (first | refine kAH ?_ _ | refine kAI ?_ | refine kAG ?_ _)); exact BK457.out⟩, ⟨by repeat (first | (with_reducible first | exact HB.out | apply kAB | apply kAA | apply kAC | refine kAF ?_ GE457.out) | exact HB.out)⟩⟩
       ·rw [if_neg c15] at H
        have c15b0 : decide (1100 < (l1.length : Int)) = false := decide_eq_false c15
        have c15b1 : decide (1100 < l1.length) = false := decide_eq_false (by omega)
        clear c15
        (first | rw [c15b0] | (simp only [kAX, kAY]; rw [c15b0]) | skip)
        have H' := kzA H
        clear H
        have hcz18_0 : wr.cell? ⟨gb457, 0, none⟩ = some (.int .i64 a0_0) := (kAD BK457.out 0).trans rfl
        have hcz18_1 : wr.cell? ⟨gb457, 1, none⟩ = some (.int .i64 a0_1) := (kAD BK457.out 1).trans rfl
        have hcz18_2 : wr.cell? ⟨gb457, 2, none⟩ = some (.int .i64 a0_2) := (kAD BK457.out 2).trans rfl
        have hcz18_3 : wr.cell? ⟨gb457, 3, none⟩ = some (.int .i64 a0_3) := (kAD BK457.out 3).trans rfl
        have hcz18_4 : wr.cell? ⟨gb457, 4, none⟩ = some (.int .i64 a0_4) := (kAD BK457.out 4).trans rfl
        have hcz18_5 : wr.cell? ⟨gb457, 5, none⟩ = some (.slice A0_5 l0_5.length c0_5) := (kAD BK457.out 5).trans rfl
        have hfz18_0 := kAE BK457.out 0
        have hfz18_1 := kAE BK457.out 1
        have hfz18_2 := kAE BK457.out 2
        have hfz18_3 := kAE BK457.out 3
        have hfz18_4 := kAE BK457.out 4
        have hfz18_5 := kAE BK457.out 5
        go_wp2_with (first | ((with_reducible refine kAQ (f := 8) rfl ?_); refine kBI (some 27) rfl rfl Tryd.func8 (by kernel_rfl) rfl #[.agg #[.int .i64 a0_0, .int .i64 a0_1, .int .i64 a0_2, .int .i64 a0_3, .int .i64 a0_4, .slice A0_5 l0_5.length c0_5]] rfl (by (try simp only [List.map_toArray, List.map_cons, List.map_nil]); first | done | rfl | (simp only [List.length_drop, List.length_take]; rfl)) ?_; (with_reducible refine (footlockerlaw24_small.calls k1 a0_0 a0_1 a0_2 a0_3 a0_4 _ _ l0_5 true _ ?side1 ?side2 A13.out).mono ?_); (case side1 => repeat (first | exact (Kd.kCG HR0_5.out HB.out) | (with_reducible refine Kd.kBH ?_ _) | (with_reducible refine Kd.kBF ?_ _) | (with_reducible refine Kd.kBM ?_))); (case side2 => exact HC0_5.out); rintro e w19 ⟨rfl, hb⟩; refine ⟨_, rfl, ?_⟩; have n0_ := kzA (kAL (g := gb457) (o := .cells #[.int .i64 a0_0, .int .i64 a0_1, .int .i64 a0_2, .int .i64 a0_3, .int .i64 a0_4, .slice A0_5 l0_5.length c0_5] 26 (0, 0)) (by (with_reducible repeat (first | refine kAH ?_ _ | refine kAI ?_ | refine kAG ?_ _)); exact BK457.out) hb); have n1_ := kzA (kAK (by repeat (first | (with_reducible first | exact HB.out | apply kAB | apply kAA | apply kAC | refine kAF ?_ GE457.out) | exact HB.out)) hb); clear BK457; clear HB; have BK457 := n0_; have HB := n1_; clear n0_ n1_; (try clear hb); (try clear hb2); (try clear hk); (try clear hi)))
        go_meet
        case rel => exact ⟨_, (decide ((l2.length : Int) > 20)), (by first | rfl | (simp; done) | (simp [*]; done)), H', ⟨by have := HK1.out; first | omega | exact Nat.le_refl _⟩, ⟨by (with_reducible repeat (first | refine kAH ?_ _ | refine kAI ?_ | refine kAG ?_ _)); exact BK457.out⟩, ⟨by repeat (first | (with_reducible first | exact HB.out | apply kAB | apply kAA | apply kAC | refine kAF ?_ GE457.out) | exact HB.out)⟩⟩
      ·replace c14 := Bool.eq_false_iff.mpr c14
       subst c14
       have H1 : (footlockerlaw24_SealWrites.j1 k1 l1 l2 true a0_0 a0_1 a0_2 a0_3 a0_4 l0_5) = some r := by rw [if_neg (show ¬ (false = true) by decide)] at H; exact H
       clear H
       have H := H1
       clear H1
       have H' := kzA H
       clear H
       have hcz20_0 : wr.cell? ⟨gb457, 0, none⟩ = some (.int .i64 a0_0) := (kAD BK457.out 0).trans rfl
       have hcz20_1 : wr.cell? ⟨gb457, 1, none⟩ = some (.int .i64 a0_1) := (kAD BK457.out 1).trans rfl
       have hcz20_2 : wr.cell? ⟨gb457, 2, none⟩ = some (.int .i64 a0_2) := (kAD BK457.out 2).trans rfl
       have hcz20_3 : wr.cell? ⟨gb457, 3, none⟩ = some (.int .i64 a0_3) := (kAD BK457.out 3).trans rfl
       have hcz20_4 : wr.cell? ⟨gb457, 4, none⟩ = some (.int .i64 a0_4) := (kAD BK457.out 4).trans rfl
       have hcz20_5 : wr.cell? ⟨gb457, 5, none⟩ = some (.slice A0_5 l0_5.length c0_5) := (kAD BK457.out 5).trans rfl
       have hfz20_0 := kAE BK457.out 0
       have hfz20_1 := kAE BK457.out 1
       have hfz20_2 := kAE BK457.out 2
       have hfz20_3 := kAE BK457.out 3
       have hfz20_4 := kAE BK457.out 4
       have hfz20_5 := kAE BK457.out 5
       go_wp2_with (first | ((with_reducible refine kAQ (f := 8) rfl ?_); refine kBI (some 27) rfl rfl Tryd.func8 (by kernel_rfl) rfl #[.agg #[.int .i64 a0_0, .int .i64 a0_1, .int .i64 a0_2, .int .i64 a0_3, .int .i64 a0_4, .slice A0_5 l0_5.length c0_5]] rfl (by (try simp only [List.map_toArray, List.map_cons, List.map_nil]); first | done | rfl | (simp only [List.length_drop, List.length_take]; rfl)) ?_; (with_reducible refine (footlockerlaw24_small.calls k1 a0_0 a0_1 a0_2 a0_3 a0_4 _ _ l0_5 false _ ?side1 ?side2 A13.out).mono ?_); (case side1 => repeat (first | exact (Kd.kCG HR0_5.out HB.out) | (with_reducible refine Kd.kBH ?_ _) | (with_reducible refine Kd.kBF ?_ _) | (with_reducible refine Kd.kBM ?_))); (case side2 => exact HC0_5.out); rintro e w21 ⟨rfl, hb⟩; refine ⟨_, rfl, ?_⟩; have n0_ := kzA (kAL (g := gb457) (o := .cells #[.int .i64 a0_0, .int .i64 a0_1, .int .i64 a0_2, .int .i64 a0_3, .int .i64 a0_4, .slice A0_5 l0_5.length c0_5] 26 (0, 0)) (by (with_reducible repeat (first | refine kAH ?_ _ | refine kAI ?_ | refine kAG ?_ _)); exact BK457.out) hb); have n1_ := kzA (kAK (by repeat (first | (with_reducible first | exact HB.out | apply kAB | apply kAA | apply kAC | refine kAF ?_ GE457.out) | exact HB.out)) hb); clear BK457; clear HB; have BK457 := n0_; have HB := n1_; clear n0_ n1_; (try clear hb); (try clear hb2); (try clear hk); (try clear hi)))
       go_meet
       case rel => exact ⟨_, (true), (by first | rfl | (simp; done) | (simp [*]; done)), H', ⟨by have := HK1.out; first | omega | exact Nat.le_refl _⟩, ⟨by (with_reducible repeat (first | refine kAH ?_ _ | refine kAI ?_ | refine kAG ?_ _)); exact BK457.out⟩, ⟨by repeat (first | (with_reducible first | exact HB.out | apply kAB | apply kAA | apply kAC | refine kAF ?_ GE457.out) | exact HB.out)⟩⟩
     case rest =>
      clear HC12
      try clear c1
      try clear c2
      try clear p2
      try clear c3
      try clear c4
      try clear p4
      try clear q4
      try clear hx4
      try clear c5
      try clear p6
      try clear c7
      try clear c8
      try clear c8b0
      try clear c9
      try clear c9b0
      try clear c10
      try clear c10b0
      try clear c11
      try clear c11b0
      try clear c11b1
      try clear c14
      try clear c15
      try clear c15b0
      try clear c15b1
      try clear hcz16_0
      try clear hcz16_1
      try clear hcz16_2
      try clear hcz16_3
      try clear hcz16_4
      try clear hcz16_5
      try clear hcz18_0
      try clear hcz18_1
      try clear hcz18_2
      try clear hcz18_3
      try clear hcz18_4
      try clear hcz18_5
      try clear hcz20_0
      try clear hcz20_1
      try clear hcz20_2
      try clear hcz20_3
      try clear hcz20_4
      try clear hcz20_5
      try clear hfz16_0
      try clear hfz16_1
      try clear hfz16_2
      try clear hfz16_3
      try clear hfz16_4
      try clear hfz16_5
      try clear hfz18_0
      try clear hfz18_1
      try clear hfz18_2
      try clear hfz18_3
      try clear hfz18_4
      try clear hfz18_5
      try clear hfz20_0
      try clear hfz20_1
      try clear hfz20_2
      try clear hfz20_3
      try clear hfz20_4
      try clear hfz20_5
      try clear hx459_0
      try clear p2
      try clear p459
      try clear q459
      obtain ⟨kq, x38_11, rfl, HA, HJ11, BK457, HB⟩ := hcut
      cases kq with
      | zero => exact absurd HA.out (by simp [footlockerlaw24_SealWrites.j1])
      | succ kj11 =>
       have H := HA.out
       clear HA
       simp only [footlockerlaw24_SealWrites.j1] at H
       by_cases c22 : x38_11 = true
       ·subst c22
        have H1 : (some true) = some r := by rw [if_pos rfl] at H; exact H
        clear H
        have H := H1
        clear H1
        obtain rfl := Option.some.inj H
        go_wp2
        go_ret
        exact ⟨by first | rfl | (simp [kAN, kAM] <;> rfl) | (simp [*, kAN, kAM] <;> rfl), by repeat (first | (with_reducible first | exact HB.out | apply kAB | apply kAA | apply kAC | refine kAF ?_ GE457.out) | exact HB.out)⟩
       ·replace c22 := Bool.eq_false_iff.mpr c22
        subst c22
        have H1 : ((seal_Write.f kj11 a0_0 a0_1 a0_2 a0_3 a0_4 l0_5 l1).bind fun bt461 => ((footlockerlaw24_as.f a0_0 a0_1 a0_2 a0_3 a0_4 l0_5).bind fun bt465 => ((footlockerref24_Write.f kj11 bt465.1 bt465.2.1 bt465.2.2.1 bt465.2.2.2.1 bt465.2.2.2.2.1 bt465.2.2.2.2.2 l1).bind fun bt473 => (if bt461.2 = bt473.2 then ((footlockerref01_Same.f kj11 bt461.1 bt473.1).bind fun t477 => (footlockerlaw24_SealWrites.j2 kj11 l2 (!t477) a0_0 a0_1 a0_2 a0_3 a0_4 l0_5)) else (footlockerlaw24_SealWrites.j2 kj11 l2 true a0_0 a0_1 a0_2 a0_3 a0_4 l0_5))))) = some r := by rw [if_neg (show ¬ (false = true) by decide)] at H; exact H
        clear H
        have H := H1
        clear H1
        replace H := Option.bind_eq_some_iff.mp H
        obtain ⟨⟨t461, t464⟩, A230, H⟩ := H
        replace H : ((footlockerlaw24_as.f a0_0 a0_1 a0_2 a0_3 a0_4 l0_5).bind fun bt465 => ((footlockerref24_Write.f kj11 bt465.1 bt465.2.1 bt465.2.2.1 bt465.2.2.2.1 bt465.2.2.2.2.1 bt465.2.2.2.2.2 l1).bind fun bt473 => (if t464 = bt473.2 then ((footlockerref01_Same.f kj11 t461 bt473.1).bind fun t477 => (footlockerlaw24_SealWrites.j2 kj11 l2 (!t477) a0_0 a0_1 a0_2 a0_3 a0_4 l0_5)) else (footlockerlaw24_SealWrites.j2 kj11 l2 true a0_0 a0_1 a0_2 a0_3 a0_4 l0_5)))) = some r := H
        have A23 := kzA A230
        clear A230
        replace H := Option.bind_eq_some_iff.mp H
        obtain ⟨⟨t465, t466, t467, t468, t469, t470⟩, A240, H⟩ := H
        replace H : ((footlockerref24_Write.f kj11 t465 t466 t467 t468 t469 t470 l1).bind fun bt473 => (if t464 = bt473.2 then ((footlockerref01_Same.f kj11 t461 bt473.1).bind fun t477 => (footlockerlaw24_SealWrites.j2 kj11 l2 (!t477) a0_0 a0_1 a0_2 a0_3 a0_4 l0_5)) else (footlockerlaw24_SealWrites.j2 kj11 l2 true a0_0 a0_1 a0_2 a0_3 a0_4 l0_5))) = some r := H
        have A24 := kzA A240
        clear A240
        replace H := Option.bind_eq_some_iff.mp H
        obtain ⟨⟨t473, t476⟩, A250, H⟩ := H
        replace H : (if t464 = t476 then ((footlockerref01_Same.f kj11 t461 t473).bind fun t477 => (footlockerlaw24_SealWrites.j2 kj11 l2 (!t477) a0_0 a0_1 a0_2 a0_3 a0_4 l0_5)) else (footlockerlaw24_SealWrites.j2 kj11 l2 true a0_0 a0_1 a0_2 a0_3 a0_4 l0_5)) = some r := H
        have A25 := kzA A250
        clear A250
        have HC26 := kzA H
        clear H
        have hcz27_0 : wc.cell? ⟨gb457, 0, none⟩ = some (.int .i64 a0_0) := (kAD BK457.out 0).trans rfl
        have hcz27_1 : wc.cell? ⟨gb457, 1, none⟩ = some (.int .i64 a0_1) := (kAD BK457.out 1).trans rfl
        have hcz27_2 : wc.cell? ⟨gb457, 2, none⟩ = some (.int .i64 a0_2) := (kAD BK457.out 2).trans rfl
        have hcz27_3 : wc.cell? ⟨gb457, 3, none⟩ = some (.int .i64 a0_3) := (kAD BK457.out 3).trans rfl
        have hcz27_4 : wc.cell? ⟨gb457, 4, none⟩ = some (.int .i64 a0_4) := (kAD BK457.out 4).trans rfl
        have hcz27_5 : wc.cell? ⟨gb457, 5, none⟩ = some (.slice A0_5 l0_5.length c0_5) := (kAD BK457.out 5).trans rfl
        have hfz27_0 := kAE BK457.out 0
        have hfz27_1 := kAE BK457.out 1
        have hfz27_2 := kAE BK457.out 2
        have hfz27_3 := kAE BK457.out 3
        have hfz27_4 := kAE BK457.out 4
        have hfz27_5 := kAE BK457.out 5
        go_upto_region 13 with (first | ((with_reducible refine kAQ (f := 9) rfl ?_); refine kBI (some 42) rfl rfl Tryd.func9 (by kernel_rfl) rfl #[.agg #[.int .i64 a0_0, .int .i64 a0_1, .int .i64 a0_2, .int .i64 a0_3, .int .i64 a0_4, .slice A0_5 l0_5.length c0_5], .slice A1 l1.length c1] rfl (by (try simp only [List.map_toArray, List.map_cons, List.map_nil]); first | done | rfl | (simp only [List.length_drop, List.length_take]; rfl)) ?_; (with_reducible refine (seal_Write.calls kj11 a0_0 a0_1 a0_2 a0_3 a0_4 _ _ l0_5 (fun k_ => k_ < w.heap.size) _ _ l1 t461 t464 _ ?side1 ?side2 ?side3 ?side4 A23.out).mono ?_); (case side1 => exact Glob.below hG (by repeat (first | (with_reducible first | exact HB.out | apply kAB | apply kAA | apply kAC | refine kAF ?_ GE457.out) | exact HB.out))); (case side2 => repeat (first | exact (Kd.kCG HR0_5.out HB.out) | (with_reducible refine Kd.kBH ?_ _) | (with_reducible refine Kd.kBF ?_ _) | (with_reducible refine Kd.kBM ?_))); (case side3 => exact HC0_5.out); (case side4 => exact Kd.V_mk HC1.out (Kd.F_below (Kd.C_F (Kd.heap_int .u8) HR1.out) (by repeat (first | (with_reducible first | exact HB.out | apply kAB | apply kAA | apply kAC | refine kAF ?_ GE457.out) | exact HB.out)))); rintro e w28 ⟨v462, rfl, ho0, hb⟩; refine ⟨_, rfl, ?_⟩; have n0_ := kzA (Kd.kBO (Kd.kBL (ok' := fun k_ => True) ho0 (fun _ hk_ => trivial)) (kAJ (by repeat (first | (with_reducible first | exact HB.out | apply kAB | apply kAA | apply kAC | refine kAF ?_ GE457.out) | exact HB.out)))); have n1_ := kzA (kAL (g := gb457) (o := .cells #[.int .i64 a0_0, .int .i64 a0_1, .int .i64 a0_2, .int .i64 a0_3, .int .i64 a0_4, .slice A0_5 l0_5.length c0_5] 26 (0, 0)) (by (with_reducible repeat (first | refine kAH ?_ _ | refine kAI ?_ | refine kAG ?_ _)); exact BK457.out) hb); have n2_ := kzA (kAK (by repeat (first | (with_reducible first | exact HB.out | apply kAB | apply kAA | apply kAC | refine kAF ?_ GE457.out) | exact HB.out)) hb); clear BK457; clear HB; have HO463 := n0_; have BK457 := n1_; have HB := n2_; clear n0_ n1_ n2_; (try clear hb); (try clear hb2); (try clear hk); (try clear hi); (try clear ho0); have hcz29_0 : w28.cell? ⟨gb457, 0, none⟩ = some (.int .i64 a0_0) := (kAD BK457.out 0).trans rfl; have hcz29_1 : w28.cell? ⟨gb457, 1, none⟩ = some (.int .i64 a0_1) := (kAD BK457.out 1).trans rfl; have hcz29_2 : w28.cell? ⟨gb457, 2, none⟩ = some (.int .i64 a0_2) := (kAD BK457.out 2).trans rfl; have hcz29_3 : w28.cell? ⟨gb457, 3, none⟩ = some (.int .i64 a0_3) := (kAD BK457.out 3).trans rfl; have hcz29_4 : w28.cell? ⟨gb457, 4, none⟩ = some (.int .i64 a0_4) := (kAD BK457.out 4).trans rfl; have hcz29_5 : w28.cell? ⟨gb457, 5, none⟩ = some (.slice A0_5 l0_5.length c0_5) := (kAD BK457.out 5).trans rfl; have hfz29_0 := kAE BK457.out 0; have hfz29_1 := kAE BK457.out 1; have hfz29_2 := kAE BK457.out 2; have hfz29_3 := kAE BK457.out 3; have hfz29_4 := kAE BK457.out 4; have hfz29_5 := kAE BK457.out 5) | ((with_reducible refine kAQ (f := 11) rfl ?_); refine kBI (some 47) rfl rfl Tryd.func11 (by kernel_rfl) rfl #[.agg #[.int .i64 a0_0, .int .i64 a0_1, .int .i64 a0_2, .int .i64 a0_3, .int .i64 a0_4, .slice A0_5 l0_5.length c0_5]] rfl (by (try simp only [List.map_toArray, List.map_cons, List.map_nil]); first | done | rfl | (simp only [List.length_drop, List.length_take]; rfl)) ?_; (with_reducible refine (footlockerlaw24_as.calls a0_0 a0_1 a0_2 a0_3 a0_4 (fun k_ => k_ < w.heap.size) _ _ l0_5 t465 t466 t467 t468 t469 t470 _ ?side1 A24.out).mono ?_); (case side1 => exact Kd.V_mk HC0_5.out (Kd.F_below (Kd.C_F (Kd.heap_slice 54 (Kd.heap_int .u32)) HR0_5.out) (by repeat (first | (with_reducible first | exact HB.out | apply kAB | apply kAA | apply kAC | refine kAF ?_ GE457.out) | exact HB.out)))); rintro e w30 ⟨v471, rfl, ho0, hb⟩; refine ⟨_, rfl, ?_⟩; have n0_ := kzA (Kd.kBJ (by (with_reducible repeat (first | apply Kd.kAP | apply Kd.kAO | apply Kd.kAR)); exact HO463.out) hb); have n1_ := kzA (Kd.V_lower (Kd.kBV (ok' := fun k_ => some k_ ≠ (v462 : Value).ownBlock ∧ k_ ≠ gb457) ho0 (fun k_ hk_ => ⟨Or.elim hk_ (fun hs_ => fun e_ => Nat.not_le.2 hs_ (Kd.kBK HO463.out k_ e_.symm)) (fun hn_ => (Kd.fresh' (Kd.R_lt (by (with_reducible repeat (first | apply Kd.kAP | apply Kd.kAO | apply Kd.kAR)); exact HO463.out)) k_ hn_)), Or.elim hk_ (fun hs_ => fun e_ => Nat.not_le.2 hs_ (by rw [e_]; exact GW457.out)) (fun hn_ => (Kd.freshB (g := gb457) (o := .cells #[.int .i64 a0_0, .int .i64 a0_1, .int .i64 a0_2, .int .i64 a0_3, .int .i64 a0_4, .slice A0_5 l0_5.length c0_5] 26 (0, 0)) (by (with_reducible repeat (first | refine kAH ?_ _ | refine kAI ?_ | refine kAG ?_ _)); exact BK457.out) k_ hn_))⟩)) (kAJ (by repeat (first | (with_reducible first | exact HB.out | apply kAB | apply kAA | apply kAC | refine kAF ?_ GE457.out) | exact HB.out)))); have n2_ := kzA (kAL (g := gb457) (o := .cells #[.int .i64 a0_0, .int .i64 a0_1, .int .i64 a0_2, .int .i64 a0_3, .int .i64 a0_4, .slice A0_5 l0_5.length c0_5] 26 (0, 0)) (by (with_reducible repeat (first | refine kAH ?_ _ | refine kAI ?_ | refine kAG ?_ _)); exact BK457.out) hb); have n3_ := kzA (kAK (by repeat (first | (with_reducible first | exact HB.out | apply kAB | apply kAA | apply kAC | refine kAF ?_ GE457.out) | exact HB.out)) hb); clear HO463; clear BK457; clear HB; have HO463 := n0_; have HO472 := n1_; have BK457 := n2_; have HB := n3_; clear n0_ n1_ n2_ n3_; (try clear hb); (try clear hb2); (try clear hk); (try clear hi); (try clear ho0); obtain ⟨Ao31, co31, eo31⟩ := Kd.V_slice HO472.out; subst eo31) | ((with_reducible refine kAQ (f := 10) rfl ?_); refine kBI (some 49) rfl rfl Tryd.func10 (by kernel_rfl) rfl #[.agg #[.int .i64 t465, .int .i64 t466, .int .i64 t467, .int .i64 t468, .int .i64 t469, .slice Ao31 t470.length co31], .slice A1 l1.length c1] rfl (by (try simp only [List.map_toArray, List.map_cons, List.map_nil]); first | done | rfl | (simp only [List.length_drop, List.length_take]; rfl)) ?_; (with_reducible refine (footlockerref24_Write.calls kj11 t465 t466 t467 t468 t469 _ _ t470 (fun k_ => k_ < w.heap.size) _ _ l1 t473 t476 _ ?side1 ?side2 ?side3 A25.out).mono ?_); (case side1 => repeat (first | exact (Kd.V_reads' HO472.out).2.2 | (with_reducible refine Kd.kBH ?_ _) | (with_reducible refine Kd.kBF ?_ _) | (with_reducible refine Kd.kBM ?_))); (case side2 => exact (Kd.V_reads' HO472.out).2.1); (case side3 => exact Kd.V_mk HC1.out (Kd.F_below (Kd.C_F (Kd.heap_int .u8) HR1.out) (by repeat (first | (with_reducible first | exact HB.out | apply kAB | apply kAA | apply kAC | refine kAF ?_ GE457.out) | exact HB.out)))); rintro e w32 ⟨v474, rfl, ho0, hb⟩; refine ⟨_, rfl, ?_⟩; have n0_ := kzA (Kd.R_elder' (by (with_reducible repeat (first | apply Kd.kAP | apply Kd.kAO | apply Kd.kAR)); exact HO463.out) (Kd.kBK ho0) hb); have n1_ := kzA (Kd.V_elder' (by (with_reducible repeat (first | apply Kd.kAT | apply Kd.kAS | apply Kd.kAZ)); exact HO472.out) (Kd.kBK ho0) hb); have n2_ := kzA (Kd.kBO (Kd.R_new' (Kd.kBL (ok' := fun k_ => True) ho0 (fun _ hk_ => trivial)) (Kd.R_lt (by (with_reducible repeat (first | apply Kd.kAP | apply Kd.kAO | apply Kd.kAR)); exact HO463.out))) (kAJ (by repeat (first | (with_reducible first | exact HB.out | apply kAB | apply kAA | apply kAC | refine kAF ?_ GE457.out) | exact HB.out)))); have n3_ := kzA (kAL (g := gb457) (o := .cells #[.int .i64 a0_0, .int .i64 a0_1, .int .i64 a0_2, .int .i64 a0_3, .int .i64 a0_4, .slice A0_5 l0_5.length c0_5] 26 (0, 0)) (by (with_reducible repeat (first | refine kAH ?_ _ | refine kAI ?_ | refine kAG ?_ _)); exact BK457.out) hb); have n4_ := kzA (kAK (by repeat (first | (with_reducible first | exact HB.out | apply kAB | apply kAA | apply kAC | refine kAF ?_ GE457.out) | exact HB.out)) hb); clear HO463; clear HO472; clear BK457; clear HB; have HO463 := n0_; have HO472 := n1_; have HO475 := n2_; have BK457 := n3_; have HB := n4_; clear n0_ n1_ n2_ n3_ n4_; (try clear hb); (try clear hb2); (try clear hk); (try clear hi); (try clear ho0)))
        (try simp only [Act.put, kzB, kzC, kzD])
        go_cut [60] (fun v60 wc => ∃ (kq : Nat) (x60_25 : Bool), v60 = .bool x60_25 ∧ Aside0 (footlockerlaw24_SealWrites.j2 kq l2 x60_25 a0_0 a0_1 a0_2 a0_3 a0_4 l0_5 = some r) ∧ Aside0 (kq ≤ kj11) ∧ Aside0 (wc.heap[gb457]? = some (.cells #[.int .i64 a0_0, .int .i64 a0_1, .int .i64 a0_2, .int .i64 a0_3, .int .i64 a0_4, (.slice A0_5 l0_5.length c0_5)] 26 (0, 0))) ∧ Aside0 (Below w.heap.size w wc))
        case first =>
         have H := HC26.out
         clear HC26
         by_cases c33 : t464 = t476
         ·rw [if_pos c33] at H
          have c33b0 : (t464 == t476) = true := beq_iff_eq.mpr c33
          have c33b1 : (t464 != t476) = false := bne_eq_false_iff_eq.mpr c33
          clear c33
          (first | rw [c33b0] | (simp only [kAX, kAY]; rw [c33b0]) | skip)
          replace H := Option.bind_eq_some_iff.mp H
          obtain ⟨t477, A340, H⟩ := H
          replace H : (footlockerlaw24_SealWrites.j2 kj11 l2 (!t477) a0_0 a0_1 a0_2 a0_3 a0_4 l0_5) = some r := H
          have A34 := kzA A340
          clear A340
          have H' := kzA H
          clear H
          obtain ⟨Ao35, co35, eo35⟩ := Kd.kCK HO463.out
          subst eo35
          obtain ⟨Ao36, co36, eo36⟩ := Kd.kCK HO475.out
          subst eo36
          go_wp2_with (first | (go_at_call 12; (with_reducible refine (footlockerref01_Same.calls kj11 _ _ t461 _ _ t473 t477 _ ?side1 ?side2 ?side3 ?side4 A34.out).mono ?_); (case side1 => repeat (first | exact (Kd.R_reads' HO463.out).2.2 | (with_reducible refine Kd.kBH ?_ _) | (with_reducible refine Kd.kBF ?_ _) | (with_reducible refine Kd.kBM ?_))); (case side2 => exact (Kd.R_reads' HO463.out).2.1); (case side3 => repeat (first | exact (Kd.R_reads' HO475.out).2.2 | (with_reducible refine Kd.kBH ?_ _) | (with_reducible refine Kd.kBF ?_ _) | (with_reducible refine Kd.kBM ?_))); (case side4 => exact (Kd.R_reads' HO475.out).2.1); rintro e w' ⟨rfl, ⟨nd, rfl⟩⟩))
          go_meet
          case rel => exact ⟨_, (!t477), (by first | rfl | (simp; done) | (simp [*]; done)), H', ⟨by have := HK1.out; have := HJ11.out; first | omega | exact Nat.le_refl _⟩, ⟨by (with_reducible repeat (first | refine kAH ?_ _ | refine kAI ?_ | refine kAG ?_ _)); exact BK457.out⟩, ⟨by repeat (first | (with_reducible first | exact HB.out | apply kAB | apply kAA | apply kAC | refine kAF ?_ GE457.out) | exact HB.out)⟩⟩
         ·rw [if_neg c33] at H
          have c33b0 : (t464 == t476) = false := beq_eq_false_iff_ne.mpr c33
          have c33b1 : (t464 != t476) = true := bne_iff_ne.mpr c33
          (first | rw [c33b0] | (simp only [kAX, kAY]; rw [c33b0]) | skip)
          have H' := kzA H
          clear H
          go_wp2
          go_meet
          case rel => exact ⟨_, (true), (by first | rfl | (simp; done) | (simp [*]; done)), H', ⟨by have := HK1.out; have := HJ11.out; first | omega | exact Nat.le_refl _⟩, ⟨by (with_reducible repeat (first | refine kAH ?_ _ | refine kAI ?_ | refine kAG ?_ _)); exact BK457.out⟩, ⟨by repeat (first | (with_reducible first | exact HB.out | apply kAB | apply kAA | apply kAC | refine kAF ?_ GE457.out) | exact HB.out)⟩⟩
        case rest =>
         clear HC26
         try clear c1
         try clear c2
         try clear p2
         try clear c3
         try clear c4
         try clear p4
         try clear q4
         try clear hx4
         try clear c5
         try clear p6
         try clear c7
         try clear c8
         try clear c8b0
         try clear c9
         try clear c9b0
         try clear c10
         try clear c10b0
         try clear c11
         try clear c11b0
         try clear c11b1
         try clear c14
         try clear c15
         try clear c15b0
         try clear c15b1
         try clear c22
         try clear c33
         try clear c33b0
         try clear c33b1
         try clear hcz16_0
         try clear hcz16_1
         try clear hcz16_2
         try clear hcz16_3
         try clear hcz16_4
         try clear hcz16_5
         try clear hcz18_0
         try clear hcz18_1
         try clear hcz18_2
         try clear hcz18_3
         try clear hcz18_4
         try clear hcz18_5
         try clear hcz20_0
         try clear hcz20_1
         try clear hcz20_2
         try clear hcz20_3
         try clear hcz20_4
         try clear hcz20_5
         try clear hcz27_0
         try clear hcz27_1
         try clear hcz27_2
         try clear hcz27_3
         try clear hcz27_4
         try clear hcz27_5
         try clear hcz29_0
         try clear hcz29_1
         try clear hcz29_2
         try clear hcz29_3
         try clear hcz29_4
         try clear hcz29_5
         try clear hfz16_0
         try clear hfz16_1
         try clear hfz16_2
         try clear hfz16_3
         try clear hfz16_4
         try clear hfz16_5
         try clear hfz18_0
         try clear hfz18_1
         try clear hfz18_2
         try clear hfz18_3
         try clear hfz18_4
         try clear hfz18_5
         try clear hfz20_0
         try clear hfz20_1
         try clear hfz20_2
         try clear hfz20_3
         try clear hfz20_4
         try clear hfz20_5
         try clear hfz27_0
         try clear hfz27_1
         try clear hfz27_2
         try clear hfz27_3
         try clear hfz27_4
         try clear hfz27_5
         try clear hfz29_0
         try clear hfz29_1
         try clear hfz29_2
         try clear hfz29_3
         try clear hfz29_4
         try clear hfz29_5
         try clear hx459_0
         try clear p2
         try clear p4
         try clear p459
         try clear p6
         try clear q4
         try clear q459
         obtain ⟨kq, x60_25, rfl, HA, HJ25, BK457, HB⟩ := hcut
         cases kq with
         | zero => exact absurd HA.out (by simp [footlockerlaw24_SealWrites.j2])
         | succ kj25 =>
          have H := HA.out
          clear HA
          simp only [footlockerlaw24_SealWrites.j2] at H
          by_cases c37 : x60_25 = true
          ·subst c37
           have H1 : (none) = some r := by rw [if_pos rfl] at H; exact H
           clear H
           have H := H1
           clear H1
           exact absurd H (by simp)
          ·replace c37 := Bool.eq_false_iff.mpr c37
           subst c37
           have H1 : ((footlockerref23_Right.f a0_0 a0_1 a0_2 a0_3).bind fun t479 => (if t479 = true then ((seal_Head.f a0_0 a0_1 a0_2 a0_3).bind fun t484 => ((footlockerref24_Head.f kj25 a0_0 a0_1 a0_2 a0_3).bind fun t485 => (if t484 = t485 then ((seal_Sums.f kj25 l2 a0_0 a0_1 a0_2 a0_3).bind fun t486 => ((footlockerref24_Sums.f kj25 l2 a0_3).bind fun t489 => ((footlockerref24_SameSums.f kj25 t486 t489).bind fun t492 => (some t492)))) else (none)))) else ((seal_Head.f a0_0 a0_1 a0_2 a0_3).bind fun t480 => (if t480 = 0 then ((seal_Sums.f kj25 l2 a0_0 a0_1 a0_2 a0_3).bind fun t481 => (some ((t481.length : Int) == 0))) else (none))))) = some r := by rw [if_neg (show ¬ (false = true) by decide)] at H; exact H
           clear H
           have H := H1
           clear H1
           replace H := Option.bind_eq_some_iff.mp H
           obtain ⟨t479, A380, H⟩ := H
           replace H : (if t479 = true then ((seal_Head.f a0_0 a0_1 a0_2 a0_3).bind fun t484 => ((footlockerref24_Head.f kj25 a0_0 a0_1 a0_2 a0_3).bind fun t485 => (if t484 = t485 then ((seal_Sums.f kj25 l2 a0_0 a0_1 a0_2 a0_3).bind fun t486 => ((footlockerref24_Sums.f kj25 l2 a0_3).bind fun t489 => ((footlockerref24_SameSums.f kj25 t486 t489).bind fun t492 => (some t492)))) else (none)))) else ((seal_Head.f a0_0 a0_1 a0_2 a0_3).bind fun t480 => (if t480 = 0 then ((seal_Sums.f kj25 l2 a0_0 a0_1 a0_2 a0_3).bind fun t481 => (some ((t481.length : Int) == 0))) else (none)))) = some r := H
           have A38 := kzA A380
           clear A380
           by_cases c39 : t479 = true
           ·subst c39
            have H1 : ((seal_Head.f a0_0 a0_1 a0_2 a0_3).bind fun t484 => ((footlockerref24_Head.f kj25 a0_0 a0_1 a0_2 a0_3).bind fun t485 => (if t484 = t485 then ((seal_Sums.f kj25 l2 a0_0 a0_1 a0_2 a0_3).bind fun t486 => ((footlockerref24_Sums.f kj25 l2 a0_3).bind fun t489 => ((footlockerref24_SameSums.f kj25 t486 t489).bind fun t492 => (some t492)))) else (none)))) = some r := by rw [if_pos rfl] at H; exact H
            clear H
            have H := H1
            clear H1
            replace H := Option.bind_eq_some_iff.mp H
            obtain ⟨t484, A400, H⟩ := H
            replace H : ((footlockerref24_Head.f kj25 a0_0 a0_1 a0_2 a0_3).bind fun t485 => (if t484 = t485 then ((seal_Sums.f kj25 l2 a0_0 a0_1 a0_2 a0_3).bind fun t486 => ((footlockerref24_Sums.f kj25 l2 a0_3).bind fun t489 => ((footlockerref24_SameSums.f kj25 t486 t489).bind fun t492 => (some t492)))) else (none))) = some r := H
            have A40 := kzA A400
            clear A400
            replace H := Option.bind_eq_some_iff.mp H
            obtain ⟨t485, A410, H⟩ := H
            replace H : (if t484 = t485 then ((seal_Sums.f kj25 l2 a0_0 a0_1 a0_2 a0_3).bind fun t486 => ((footlockerref24_Sums.f kj25 l2 a0_3).bind fun t489 => ((footlockerref24_SameSums.f kj25 t486 t489).bind fun t492 => (some t492)))) else (none)) = some r := H
            have A41 := kzA A410
            clear A410
            by_cases c42 : t484 = t485
            ·rw [if_pos c42] at H
             have c42b0 : (t484 == t485) = true := beq_iff_eq.mpr c42
             have c42b1 : (t484 != t485) = false := bne_eq_false_iff_eq.mpr c42
             clear c42
             replace H := Option.bind_eq_some_iff.mp H
             obtain ⟨t486, A430, H⟩ := H
             replace H : ((footlockerref24_Sums.f kj25 l2 a0_3).bind fun t489 => ((footlockerref24_SameSums.f kj25 t486 t489).bind fun t492 => (some t492))) = some r := H
             have A43 := kzA A430
             clear A430
             replace H := Option.bind_eq_some_iff.mp H
             obtain ⟨t489, A440, H⟩ := H
             replace H : ((footlockerref24_SameSums.f kj25 t486 t489).bind fun t492 => (some t492)) = some r := H
             have A44 := kzA A440
             clear A440
             replace H := Option.bind_eq_some_iff.mp H
             obtain ⟨t492, A450, H⟩ := H
             replace H : (some t492) = some r := H
             have A45 := kzA A450
             clear A450
             obtain rfl := Option.some.inj H
             have hcz46_0 : wc.cell? ⟨gb457, 0, none⟩ = some (.int .i64 a0_0) := (kAD BK457.out 0).trans rfl
             have hcz46_1 : wc.cell? ⟨gb457, 1, none⟩ = some (.int .i64 a0_1) := (kAD BK457.out 1).trans rfl
             have hcz46_2 : wc.cell? ⟨gb457, 2, none⟩ = some (.int .i64 a0_2) := (kAD BK457.out 2).trans rfl
             have hcz46_3 : wc.cell? ⟨gb457, 3, none⟩ = some (.int .i64 a0_3) := (kAD BK457.out 3).trans rfl
             have hcz46_4 : wc.cell? ⟨gb457, 4, none⟩ = some (.int .i64 a0_4) := (kAD BK457.out 4).trans rfl
             have hcz46_5 : wc.cell? ⟨gb457, 5, none⟩ = some (.slice A0_5 l0_5.length c0_5) := (kAD BK457.out 5).trans rfl
             have hfz46_0 := kAE BK457.out 0
             have hfz46_1 := kAE BK457.out 1
             have hfz46_2 := kAE BK457.out 2
             have hfz46_3 := kAE BK457.out 3
             have hfz46_4 := kAE BK457.out 4
             have hfz46_5 := kAE BK457.out 5
             try go_wp2_with (first | ((with_reducible refine kBA (N := 13) rfl ?_); (try (refine kCI (by rfl) ?_; dsimp only)); refine kBD ?hg (N := 13) ?hd (cs := #[.int .i64 0, .int .i64 0, .int .i64 0, .int .i64 0]) (t := 36) ?hr ?_; (case hd => rfl); (case hg => rfl); (case hr => first | (go_simp; done) | (go_simp; rfl)); intro gb478 hg w47 hbox hb; have n0_ := kzA (kAL (g := gb457) (o := .cells #[.int .i64 a0_0, .int .i64 a0_1, .int .i64 a0_2, .int .i64 a0_3, .int .i64 a0_4, .slice A0_5 l0_5.length c0_5] 26 (0, 0)) (by (with_reducible repeat (first | refine kAH ?_ _ | refine kAI ?_ | refine kAG ?_ _)); exact BK457.out) hb); have n1_ := kzA (kAK (by repeat (first | (with_reducible first | exact HB.out | apply kAB | apply kAA | apply kAC | refine kAF ?_ GE457.out) | exact HB.out)) hb); have n2_ := kzA (hbox); have n3_ := kzA ((by rw [hg]; exact (kAJ (by repeat (first | (with_reducible first | exact HB.out | apply kAB | apply kAA | apply kAC | refine kAF ?_ GE457.out) | exact HB.out))) : w.heap.size ≤ gb478)); have n4_ := kzA ((by rw [hg]; exact (kAJ (by repeat (first | (with_reducible first | exact HB.out | apply kAB | apply kAA | apply kAC | refine kAF ?_ GE457.out) | exact HB.out))) : w.heap.size ≤ gb478)); have n5_ := kzA ((by rw [hg]; exact Nat.ne_of_lt (kCH (g := gb457) (o := .cells #[.int .i64 a0_0, .int .i64 a0_1, .int .i64 a0_2, .int .i64 a0_3, .int .i64 a0_4, .slice A0_5 l0_5.length c0_5] 26 (0, 0)) (by (with_reducible repeat (first | refine kAH ?_ _ | refine kAI ?_ | refine kAG ?_ _)); exact BK457.out)) : gb457 ≠ gb478)); have n6_ := kzA ((by rw [hg]; exact Nat.ne_of_gt (kCH (g := gb457) (o := .cells #[.int .i64 a0_0, .int .i64 a0_1, .int .i64 a0_2, .int .i64 a0_3, .int .i64 a0_4, .slice A0_5 l0_5.length c0_5] 26 (0, 0)) (by (with_reducible repeat (first | refine kAH ?_ _ | refine kAI ?_ | refine kAG ?_ _)); exact BK457.out)) : gb478 ≠ gb457)); clear BK457; clear HB; have BK457 := n0_; have HB := n1_; have BK478 := n2_; have GW478 := n3_; have GE478 := n4_; have NB457_478 := n5_; have NB478_457 := n6_; clear n0_ n1_ n2_ n3_ n4_ n5_ n6_; clear hb hbox hg; have hnb48 := NB478_457.out; have hnc48 := NB457_478.out; have hcz49_0 : w47.cell? ⟨gb478, 0, none⟩ = some (.int .i64 0) := (kAD BK478.out 0).trans rfl; have hcz49_1 : w47.cell? ⟨gb478, 1, none⟩ = some (.int .i64 0) := (kAD BK478.out 1).trans rfl; have hcz49_2 : w47.cell? ⟨gb478, 2, none⟩ = some (.int .i64 0) := (kAD BK478.out 2).trans rfl; have hcz49_3 : w47.cell? ⟨gb478, 3, none⟩ = some (.int .i64 0) := (kAD BK478.out 3).trans rfl; have hfz49_0 := kAE BK478.out 0; have hfz49_1 := kAE BK478.out 1; have hfz49_2 := kAE BK478.out 2; have hfz49_3 := kAE BK478.out 3) | ((with_reducible refine kAQ (f := 13) rfl ?_); refine kBI (some 64) rfl rfl Tryd.func13 (by kernel_rfl) rfl #[.agg #[.int .i64 a0_0, .int .i64 a0_1, .int .i64 a0_2, .int .i64 a0_3]] rfl (by (try simp only [List.map_toArray, List.map_cons, List.map_nil]); first | done | rfl | (simp only [List.length_drop, List.length_take]; rfl)) ?_; (with_reducible refine (footlockerref23_Right.calls a0_0 a0_1 a0_2 a0_3 true _ A38.out).mono ?_); rintro e w50 ⟨rfl, hb⟩; refine ⟨_, rfl, ?_⟩; have n0_ := kzA (kAL (g := gb457) (o := .cells #[.int .i64 a0_0, .int .i64 a0_1, .int .i64 a0_2, .int .i64 a0_3, .int .i64 a0_4, .slice A0_5 l0_5.length c0_5] 26 (0, 0)) (by (with_reducible repeat (first | refine kAH ?_ _ | refine kAI ?_ | refine kAG ?_ _)); refine kBB ?_ NB457_478.out _; (with_reducible repeat (first | refine kAH ?_ _ | refine kAI ?_ | refine kAG ?_ _)); refine kBB ?_ NB457_478.out _; (with_reducible repeat (first | refine kAH ?_ _ | refine kAI ?_ | refine kAG ?_ _)); refine kBB ?_ NB457_478.out _; (with_reducible repeat (first | refine kAH ?_ _ | refine kAI ?_ | refine kAG ?_ _)); refine kBB ?_ NB457_478.out _; (with_reducible repeat (first | refine kAH ?_ _ | refine kAI ?_ | refine kAG ?_ _)); exact BK457.out) hb); have n1_ := kzA (kAL (g := gb478) (o := .cells #[.int .i64 a0_0, .int .i64 a0_1, .int .i64 a0_2, .int .i64 a0_3] 36 (0, 0)) (by (with_reducible repeat (first | refine kAH ?_ _ | refine kAI ?_ | refine kAG ?_ _)); refine kAU (cs := #[.int .i64 a0_0, .int .i64 a0_1, .int .i64 a0_2, .int .i64 0]) ?_ 3 _ rfl; (with_reducible repeat (first | refine kAH ?_ _ | refine kAI ?_ | refine kAG ?_ _)); refine kAU (cs := #[.int .i64 a0_0, .int .i64 a0_1, .int .i64 0, .int .i64 0]) ?_ 2 _ rfl; (with_reducible repeat (first | refine kAH ?_ _ | refine kAI ?_ | refine kAG ?_ _)); refine kAU (cs := #[.int .i64 a0_0, .int .i64 0, .int .i64 0, .int .i64 0]) ?_ 1 _ rfl; (with_reducible repeat (first | refine kAH ?_ _ | refine kAI ?_ | refine kAG ?_ _)); refine kAU (cs := #[.int .i64 0, .int .i64 0, .int .i64 0, .int .i64 0]) ?_ 0 _ rfl; (with_reducible repeat (first | refine kAH ?_ _ | refine kAI ?_ | refine kAG ?_ _)); exact BK478.out) hb); have n2_ := kzA (kAK (by repeat (first | (with_reducible first | exact HB.out | apply kAB | apply kAA | apply kAC | refine kAF ?_ GE457.out | refine kAF ?_ GE478.out) | exact HB.out)) hb); clear BK457; clear BK478; clear HB; have BK457 := n0_; have BK478 := n1_; have HB := n2_; clear n0_ n1_ n2_; (try clear hb); (try clear hb2); (try clear hk); (try clear hi)))
             have n0_ := kzA (kAI BK457.out)
             have n1_ := kzA (kAI BK478.out)
             have n2_ := kzA (kAC HB.out)
             clear BK457
             clear BK478
             clear HB
             have BK457 := n0_
             have BK478 := n1_
             have HB := n2_
             clear n0_ n1_ n2_
             refine start_ (n := 19) (S := fun w' => w'.cell? ⟨gb457, 0, none⟩ = some (.int .i64 a0_0) ∧ w'.cell? ⟨gb457, 1, none⟩ = some (.int .i64 a0_1) ∧ w'.cell? ⟨gb457, 2, none⟩ = some (.int .i64 a0_2) ∧ w'.cell? ⟨gb457, 3, none⟩ = some (.int .i64 a0_3) ∧ w'.cell? ⟨gb457, 4, none⟩ = some (.int .i64 a0_4) ∧ w'.cell? ⟨gb457, 5, none⟩ = some (.slice A0_5 l0_5.length c0_5) ∧ w'.cell? ⟨gb478, 0, none⟩ = some (.int .i64 a0_0) ∧ w'.cell? ⟨gb478, 1, none⟩ = some (.int .i64 a0_1) ∧ w'.cell? ⟨gb478, 2, none⟩ = some (.int .i64 a0_2) ∧ w'.cell? ⟨gb478, 3, none⟩ = some (.int .i64 a0_3)) (ds := []) #[false, false, false, false, false, false, false, false, false, false, false, false, false, false, false, false, false, false, false] (by kernel_rfl) rfl rfl ⟨(kAD BK457.out 0).trans rfl, (kAD BK457.out 1).trans rfl, (kAD BK457.out 2).trans rfl, (kAD BK457.out 3).trans rfl, (kAD BK457.out 4).trans rfl, (kAD BK457.out 5).trans rfl, (kAD BK478.out 0).trans rfl, (kAD BK478.out 1).trans rfl, (kAD BK478.out 2).trans rfl, (kAD BK478.out 3).trans rfl⟩ (fun hHeld => ?_); refine with_tabW footlockerlaw24_SealWrites.tab18 footlockerlaw24_SealWrites.bits18 (fun HT_ HW_ => ?_)
             generalize w50.drew = w51 at BK457 BK478 HB hHeld ⊢
             refine kBN (i := 0) (N := some 78) (v := ?_) (a' := ?_) #[true, false, false, false, false, false, false, false, false, false, false, false, false, false, false, false, false, false, false] rfl rfl (kBG HT_.out (by kernel_rfl)) (fun _ _ _ h => h) (Or.inl ⟨by rfl, ?_⟩) ?_ ?_
             rotate_left
             ·intro w'
              go_simp
              with_reducible rfl
             rotate_left
             ·simp only [Act.put, kzB, kzC, kzD, kAX, kAY]
              rfl
             refine take_ (i := 1) (N := some 79) (v := ?_) (a' := ?_) #[true, true, false, false, false, false, false, false, false, false, false, false, false, false, false, false, false, false, false] rfl rfl (kBX HT_.out HW_.out (by kernel_rfl)) (fun _ _ _ h => h) (Or.inl ⟨by rfl, ?_⟩) hHeld ?_ ?_
             rotate_left
             ·rintro w' ⟨s0, s1, s2, s3, s4, s5, s6, s7, s8, s9⟩
              go_simp
              with_reducible rfl
             rotate_left
             ·simp only [Act.put, kzB, kzC, kzD, kAX, kAY]
              rfl
             refine take_ (i := 3) (N := some 81) (v := ?_) (a' := ?_) #[true, true, false, true, false, false, false, false, false, false, false, false, false, false, false, false, false, false, false] rfl rfl (kBX HT_.out HW_.out (by kernel_rfl)) (fun _ _ _ h => h) (Or.inl ⟨by rfl, ?_⟩) hHeld ?_ ?_
             rotate_left
             ·rintro w' ⟨s0, s1, s2, s3, s4, s5, s6, s7, s8, s9⟩
              go_simp
              with_reducible rfl
             rotate_left
             ·simp only [Act.put, kzB, kzC, kzD, kAX, kAY]
              rfl
             refine one_ (i := 2) (N := some 80) #[true, true, true, true, false, false, false, false, false, false, false, false, false, false, false, false, false, false, false] rfl rfl (one_of HT_.out (by kernel_rfl)) (by decide) (fun K hK => ?_)
             refine goes_ Tryd.func14 (by kernel_rfl) rfl #[.agg #[.int .i64 a0_0, .int .i64 a0_1, .int .i64 a0_2, .int .i64 a0_3]] (by rfl) rfl rfl (by (try simp only [List.map_toArray, List.map_cons, List.map_nil]); first | done | rfl | (simp only [List.length_drop, List.length_take]; rfl)) ?_
             with_reducible refine (seal_Head.calls a0_0 a0_1 a0_2 a0_3 t484 _ A40.out).mono ?_
             rintro e w52 ⟨rfl, hb⟩
             refine ⟨_, rfl, ?_⟩
             have n0_ := kzA (kAL (g := gb457) (o := .cells #[.int .i64 a0_0, .int .i64 a0_1, .int .i64 a0_2, .int .i64 a0_3, .int .i64 a0_4, .slice A0_5 l0_5.length c0_5] 26 (0, 0)) (by (with_reducible repeat (first | refine kAH ?_ _ | refine kAI ?_ | refine kAG ?_ _)); exact BK457.out) hb)
             have n1_ := kzA (kAL (g := gb478) (o := .cells #[.int .i64 a0_0, .int .i64 a0_1, .int .i64 a0_2, .int .i64 a0_3] 36 (0, 0)) (by (with_reducible repeat (first | refine kAH ?_ _ | refine kAI ?_ | refine kAG ?_ _)); exact BK478.out) hb)
             have n2_ := kzA (kAK (by repeat (first | (with_reducible first | exact HB.out | apply kAB | apply kAA | apply kAC | refine kAF ?_ GE457.out | refine kAF ?_ GE478.out) | exact HB.out)) hb)
             clear BK457
             clear BK478
             clear HB
             have BK457 := n0_
             have BK478 := n1_
             have HB := n2_
             clear n0_ n1_ n2_
             (try clear hb)
             (try clear hb2)
             (try clear hk)
             (try clear hi)
             refine hK.out _ _ ⟨(kAD BK457.out 0).trans rfl, (kAD BK457.out 1).trans rfl, (kAD BK457.out 2).trans rfl, (kAD BK457.out 3).trans rfl, (kAD BK457.out 4).trans rfl, (kAD BK457.out 5).trans rfl, (kAD BK478.out 0).trans rfl, (kAD BK478.out 1).trans rfl, (kAD BK478.out 2).trans rfl, (kAD BK478.out 3).trans rfl⟩ (fun hHeld => ?_)
             clear hK K
             refine norm_ (a' := ?_) ?_ ?_
             rotate_left
             ·show Act.put _ (some 80) _ = _
              simp only [Act.put, kzB, kzC, kzD, kAX, kAY]
              rfl
             refine one_ (i := 4) (N := some 82) #[true, true, true, true, true, false, false, false, false, false, false, false, false, false, false, false, false, false, false] rfl rfl (one_of HT_.out (by kernel_rfl)) (by decide) (fun K hK => ?_)
             refine goes_ Tryd.func16 (by kernel_rfl) rfl #[.agg #[.int .i64 a0_0, .int .i64 a0_1, .int .i64 a0_2, .int .i64 a0_3]] (by rfl) rfl rfl (by (try simp only [List.map_toArray, List.map_cons, List.map_nil]); first | done | rfl | (simp only [List.length_drop, List.length_take]; rfl)) ?_
             with_reducible refine (footlockerref24_Head.calls kj25 a0_0 a0_1 a0_2 a0_3 t485 _ A41.out).mono ?_
             rintro e w53 ⟨rfl, hb⟩
             refine ⟨_, rfl, ?_⟩
             have n0_ := kzA (kAL (g := gb457) (o := .cells #[.int .i64 a0_0, .int .i64 a0_1, .int .i64 a0_2, .int .i64 a0_3, .int .i64 a0_4, .slice A0_5 l0_5.length c0_5] 26 (0, 0)) (by (with_reducible repeat (first | refine kAH ?_ _ | refine kAI ?_ | refine kAG ?_ _)); exact BK457.out) hb)
             have n1_ := kzA (kAL (g := gb478) (o := .cells #[.int .i64 a0_0, .int .i64 a0_1, .int .i64 a0_2, .int .i64 a0_3] 36 (0, 0)) (by (with_reducible repeat (first | refine kAH ?_ _ | refine kAI ?_ | refine kAG ?_ _)); exact BK478.out) hb)
             have n2_ := kzA (kAK (by repeat (first | (with_reducible first | exact HB.out | apply kAB | apply kAA | apply kAC | refine kAF ?_ GE457.out | refine kAF ?_ GE478.out) | exact HB.out)) hb)
             clear BK457
             clear BK478
             clear HB
             have BK457 := n0_
             have BK478 := n1_
             have HB := n2_
             clear n0_ n1_ n2_
             (try clear hb)
             (try clear hb2)
             (try clear hk)
             (try clear hi)
             refine hK.out _ _ ⟨(kAD BK457.out 0).trans rfl, (kAD BK457.out 1).trans rfl, (kAD BK457.out 2).trans rfl, (kAD BK457.out 3).trans rfl, (kAD BK457.out 4).trans rfl, (kAD BK457.out 5).trans rfl, (kAD BK478.out 0).trans rfl, (kAD BK478.out 1).trans rfl, (kAD BK478.out 2).trans rfl, (kAD BK478.out 3).trans rfl⟩ (fun hHeld => ?_)
             clear hK K
             refine norm_ (a' := ?_) ?_ ?_
             rotate_left
             ·show Act.put _ (some 82) _ = _
              simp only [Act.put, kzB, kzC, kzD, kAX, kAY]
              rfl
             refine kBN (i := 5) (N := some 83) (v := ?_) (a' := ?_) #[true, true, true, true, true, true, false, false, false, false, false, false, false, false, false, false, false, false, false] rfl rfl (kBG HT_.out (by kernel_rfl)) (fun _ _ _ h => h) (Or.inl ⟨by rfl, ?_⟩) ?_ ?_
             rotate_left
             ·intro w'
              go_simp
              with_reducible rfl
             rotate_left
             ·simp only [Act.put, kzB, kzC, kzD, kAX, kAY]
              rfl
             refine kBN (i := 6) (N := some 84) (v := ?_) (a' := ?_) #[true, true, true, true, true, true, true, false, false, false, false, false, false, false, false, false, false, false, false] rfl rfl (kBG HT_.out (by kernel_rfl)) (fun _ _ _ h => h) (Or.inl ⟨by rfl, ?_⟩) ?_ ?_
             rotate_left
             ·intro w'
              go_simp
              with_reducible rfl
             rotate_left
             ·simp only [Act.put, kzB, kzC, kzD, kAX, kAY]
              rfl
             refine kBN (i := 7) (N := some 85) (v := ?_) (a' := ?_) #[true, true, true, true, true, true, true, true, false, false, false, false, false, false, false, false, false, false, false] rfl rfl (kBG HT_.out (by kernel_rfl)) (fun _ _ _ h => h) (Or.inl ⟨by rfl, ?_⟩) ?_ ?_
             rotate_left
             ·intro w'
              go_simp
              with_reducible rfl
             rotate_left
             ·simp only [Act.put, kzB, kzC, kzD, kAX, kAY]
              rfl
             refine kBN (i := 8) (N := some 86) (v := ?_) (a' := ?_) #[true, true, true, true, true, true, true, true, true, false, false, false, false, false, false, false, false, false, false] rfl rfl (kBG HT_.out (by kernel_rfl)) (fun _ _ _ h => h) (Or.inl ⟨by rfl, ?_⟩) ?_ ?_
             rotate_left
             ·intro w'
              go_simp
              with_reducible rfl
             rotate_left
             ·simp only [Act.put, kzB, kzC, kzD, kAX, kAY]
              rfl
             refine kBN (i := 11) (N := some 89) (v := ?_) (a' := ?_) #[true, true, true, true, true, true, true, true, true, false, false, true, false, false, false, false, false, false, false] rfl rfl (kBG HT_.out (by kernel_rfl)) (fun _ _ _ h => h) (Or.inl ⟨by rfl, ?_⟩) ?_ ?_
             rotate_left
             ·intro w'
              go_simp
              with_reducible rfl
             rotate_left
             ·simp only [Act.put, kzB, kzC, kzD, kAX, kAY]
              rfl
             refine kBN (i := 12) (N := some 90) (v := ?_) (a' := ?_) #[true, true, true, true, true, true, true, true, true, false, false, true, true, false, false, false, false, false, false] rfl rfl (kBG HT_.out (by kernel_rfl)) (fun _ _ _ h => h) (Or.inl ⟨by rfl, ?_⟩) ?_ ?_
             rotate_left
             ·intro w'
              go_simp
              with_reducible rfl
             rotate_left
             ·simp only [Act.put, kzB, kzC, kzD, kAX, kAY]
              rfl
             refine kBN (i := 13) (N := some 91) (v := ?_) (a' := ?_) #[true, true, true, true, true, true, true, true, true, false, false, true, true, true, false, false, false, false, false] rfl rfl (kBG HT_.out (by kernel_rfl)) (fun _ _ _ h => h) (Or.inl ⟨by rfl, ?_⟩) ?_ ?_
             rotate_left
             ·intro w'
              go_simp
              with_reducible rfl
             rotate_left
             ·simp only [Act.put, kzB, kzC, kzD, kAX, kAY]
              rfl
             refine take_ (i := 9) (N := some 87) (v := ?_) (a' := ?_) #[true, true, true, true, true, true, true, true, true, true, false, true, true, true, false, false, false, false, false] rfl rfl (kBX HT_.out HW_.out (by kernel_rfl)) (fun _ _ _ h => h) (Or.inl ⟨by rfl, ?_⟩) hHeld ?_ ?_
             rotate_left
             ·rintro w' ⟨s0, s1, s2, s3, s4, s5, s6, s7, s8, s9⟩
              go_simp
              with_reducible rfl
             rotate_left
             ·simp only [Act.put, kzB, kzC, kzD, kAX, kAY]
              rfl
             refine take_ (i := 14) (N := some 92) (v := ?_) (a' := ?_) #[true, true, true, true, true, true, true, true, true, true, false, true, true, true, true, false, false, false, false] rfl rfl (kBX HT_.out HW_.out (by kernel_rfl)) (fun _ _ _ h => h) (Or.inl ⟨by rfl, ?_⟩) hHeld ?_ ?_
             rotate_left
             ·rintro w' ⟨s0, s1, s2, s3, s4, s5, s6, s7, s8, s9⟩
              go_simp
              with_reducible rfl
             rotate_left
             ·simp only [Act.put, kzB, kzC, kzD, kAX, kAY]
              rfl
             refine one_ (i := 10) (N := some 88) #[true, true, true, true, true, true, true, true, true, true, true, true, true, true, true, false, false, false, false] rfl rfl (one_of HT_.out (by kernel_rfl)) (by decide) (fun K hK => ?_)
             refine goes_ Tryd.func15 (by kernel_rfl) rfl #[.slice A2 l2.length c2, .agg #[.int .i64 a0_0, .int .i64 a0_1, .int .i64 a0_2, .int .i64 a0_3]] (by rfl) rfl rfl (by (try simp only [List.map_toArray, List.map_cons, List.map_nil]); first | done | rfl | (simp only [List.length_drop, List.length_take]; rfl)) ?_
             with_reducible refine (seal_Sums.calls kj25 _ _ l2 a0_0 a0_1 a0_2 a0_3 t486 _ ?side1 ?side2 ?side3 A43.out).mono ?_
             (case side1 => exact Glob.below hG (by repeat (first | (with_reducible first | exact HB.out | apply kAB | apply kAA | apply kAC | refine kAF ?_ GE457.out | refine kAF ?_ GE478.out) | exact HB.out)))
             (case side2 => repeat (first | exact (Kd.kCG HR2.out HB.out) | (with_reducible refine Kd.kBH ?_ _) | (with_reducible refine Kd.kBF ?_ _) | (with_reducible refine Kd.kBM ?_)))
             (case side3 => exact HC2.out)
             rintro e w54 ⟨v487, rfl, ho0, hb⟩
             refine ⟨_, rfl, ?_⟩
             have n0_ := kzA (Kd.S_lower ho0 (kAJ (by repeat (first | (with_reducible first | exact HB.out | apply kAB | apply kAA | apply kAC | refine kAF ?_ GE457.out | refine kAF ?_ GE478.out) | exact HB.out))))
             have n1_ := kzA (kAL (g := gb457) (o := .cells #[.int .i64 a0_0, .int .i64 a0_1, .int .i64 a0_2, .int .i64 a0_3, .int .i64 a0_4, .slice A0_5 l0_5.length c0_5] 26 (0, 0)) (by (with_reducible repeat (first | refine kAH ?_ _ | refine kAI ?_ | refine kAG ?_ _)); exact BK457.out) hb)
             have n2_ := kzA (kAL (g := gb478) (o := .cells #[.int .i64 a0_0, .int .i64 a0_1, .int .i64 a0_2, .int .i64 a0_3] 36 (0, 0)) (by (with_reducible repeat (first | refine kAH ?_ _ | refine kAI ?_ | refine kAG ?_ _)); exact BK478.out) hb)
             have n3_ := kzA (kAK (by repeat (first | (with_reducible first | exact HB.out | apply kAB | apply kAA | apply kAC | refine kAF ?_ GE457.out | refine kAF ?_ GE478.out) | exact HB.out)) hb)
             clear BK457
             clear BK478
             clear HB
             have HO488 := n0_
             have BK457 := n1_
             have BK478 := n2_
             have HB := n3_
             clear n0_ n1_ n2_ n3_
             (try clear hb)
             (try clear hb2)
             (try clear hk)
             (try clear hi)
             (try clear ho0)
             refine hK.out _ _ ⟨(kAD BK457.out 0).trans rfl, (kAD BK457.out 1).trans rfl, (kAD BK457.out 2).trans rfl, (kAD BK457.out 3).trans rfl, (kAD BK457.out 4).trans rfl, (kAD BK457.out 5).trans rfl, (kAD BK478.out 0).trans rfl, (kAD BK478.out 1).trans rfl, (kAD BK478.out 2).trans rfl, (kAD BK478.out 3).trans rfl⟩ (fun hHeld => ?_)
             clear hK K
             refine norm_ (a' := ?_) ?_ ?_
             rotate_left
             ·show Act.put _ (some 88) _ = _
              simp only [Act.put, kzB, kzC, kzD, kAX, kAY]
              rfl
             refine one_ (i := 15) (N := some 93) #[true, true, true, true, true, true, true, true, true, true, true, true, true, true, true, true, false, false, false] rfl rfl (one_of HT_.out (by kernel_rfl)) (by decide) (fun K hK => ?_)
             refine goes_ Tryd.func18 (by kernel_rfl) rfl #[.slice A2 l2.length c2, .int .i64 a0_3] (by rfl) rfl rfl (by (try simp only [List.map_toArray, List.map_cons, List.map_nil]); first | done | rfl | (simp only [List.length_drop, List.length_take]; rfl)) ?_
             with_reducible refine (footlockerref24_Sums.calls kj25 _ _ l2 a0_3 t489 _ ?side1 ?side2 A44.out).mono ?_
             (case side1 => repeat (first | exact (Kd.kCG HR2.out HB.out) | (with_reducible refine Kd.kBH ?_ _) | (with_reducible refine Kd.kBF ?_ _) | (with_reducible refine Kd.kBM ?_)))
             (case side2 => exact HC2.out)
             rintro e w55 ⟨v490, rfl, ho0, hb⟩
             refine ⟨_, rfl, ?_⟩
             have n0_ := kzA (Kd.S_elder' (by (with_reducible repeat (first | apply Kd.kCF | apply Kd.kCE | apply Kd.S_drew)); exact HO488.out) (Kd.S_base ho0) hb)
             have n1_ := kzA (Kd.S_lower (Kd.S_new' ho0 (Kd.S_lt (by (with_reducible repeat (first | apply Kd.kCF | apply Kd.kCE | apply Kd.S_drew)); exact HO488.out))) (kAJ (by repeat (first | (with_reducible first | exact HB.out | apply kAB | apply kAA | apply kAC | refine kAF ?_ GE457.out | refine kAF ?_ GE478.out) | exact HB.out))))
             have n2_ := kzA (kAL (g := gb457) (o := .cells #[.int .i64 a0_0, .int .i64 a0_1, .int .i64 a0_2, .int .i64 a0_3, .int .i64 a0_4, .slice A0_5 l0_5.length c0_5] 26 (0, 0)) (by (with_reducible repeat (first | refine kAH ?_ _ | refine kAI ?_ | refine kAG ?_ _)); exact BK457.out) hb)
             have n3_ := kzA (kAL (g := gb478) (o := .cells #[.int .i64 a0_0, .int .i64 a0_1, .int .i64 a0_2, .int .i64 a0_3] 36 (0, 0)) (by (with_reducible repeat (first | refine kAH ?_ _ | refine kAI ?_ | refine kAG ?_ _)); exact BK478.out) hb)
             have n4_ := kzA (kAK (by repeat (first | (with_reducible first | exact HB.out | apply kAB | apply kAA | apply kAC | refine kAF ?_ GE457.out | refine kAF ?_ GE478.out) | exact HB.out)) hb)
             clear HO488
             clear BK457
             clear BK478
             clear HB
             have HO488 := n0_
             have HO491 := n1_
             have BK457 := n2_
             have BK478 := n3_
             have HB := n4_
             clear n0_ n1_ n2_ n3_ n4_
             (try clear hb)
             (try clear hb2)
             (try clear hk)
             (try clear hi)
             (try clear ho0)
             obtain ⟨Ao56, co56, eo56⟩ := Kd.S_slice HO488.out
             (first | subst eo56 | (injection eo56 with f1_ f2_ f3_; have f4_ := f1_.symm; have f5_ := f3_.symm; clear f1_ f2_ f3_; subst f4_; subst f5_))
             obtain ⟨Ao57, co57, eo57⟩ := Kd.S_slice HO491.out
             (first | subst eo57 | (injection eo57 with f1_ f2_ f3_; have f4_ := f1_.symm; have f5_ := f3_.symm; clear f1_ f2_ f3_; subst f4_; subst f5_))
             refine hK.out _ _ ⟨(kAD BK457.out 0).trans rfl, (kAD BK457.out 1).trans rfl, (kAD BK457.out 2).trans rfl, (kAD BK457.out 3).trans rfl, (kAD BK457.out 4).trans rfl, (kAD BK457.out 5).trans rfl, (kAD BK478.out 0).trans rfl, (kAD BK478.out 1).trans rfl, (kAD BK478.out 2).trans rfl, (kAD BK478.out 3).trans rfl⟩ (fun hHeld => ?_)
             clear hK K
             refine norm_ (a' := ?_) ?_ ?_
             rotate_left
             ·show Act.put _ (some 93) _ = _
              simp only [Act.put, kzB, kzC, kzD, kAX, kAY]
              rfl
             refine one_ (i := 16) (N := some 94) #[true, true, true, true, true, true, true, true, true, true, true, true, true, true, true, true, true, false, false] rfl rfl (one_of HT_.out (by kernel_rfl)) (by decide) (fun K hK => ?_)
             refine goes_ Tryd.func17 (by kernel_rfl) rfl #[.slice Ao56 t486.length co56, .slice Ao57 t489.length co57] (by rfl) rfl rfl (by (try simp only [List.map_toArray, List.map_cons, List.map_nil]); first | done | rfl | (simp only [List.length_drop, List.length_take]; rfl)) ?_
             with_reducible refine (footlockerref24_SameSums.calls kj25 _ _ t486 _ _ t489 t492 _ ?side1 ?side2 ?side3 ?side4 A45.out).mono ?_
             (case side1 => repeat (first | exact (Kd.S_reads' HO488.out).2.2 | (with_reducible refine Kd.kBH ?_ _) | (with_reducible refine Kd.kBF ?_ _) | (with_reducible refine Kd.kBM ?_)))
             (case side2 => exact (Kd.S_reads' HO488.out).2.1)
             (case side3 => repeat (first | exact (Kd.S_reads' HO491.out).2.2 | (with_reducible refine Kd.kBH ?_ _) | (with_reducible refine Kd.kBF ?_ _) | (with_reducible refine Kd.kBM ?_)))
             (case side4 => exact (Kd.S_reads' HO491.out).2.1)
             rintro e w' ⟨rfl, ⟨nd, rfl⟩⟩
             refine ⟨_, rfl, ?_⟩
             refine hK.out _ _ ⟨(kAD BK457.out 0).trans rfl, (kAD BK457.out 1).trans rfl, (kAD BK457.out 2).trans rfl, (kAD BK457.out 3).trans rfl, (kAD BK457.out 4).trans rfl, (kAD BK457.out 5).trans rfl, (kAD BK478.out 0).trans rfl, (kAD BK478.out 1).trans rfl, (kAD BK478.out 2).trans rfl, (kAD BK478.out 3).trans rfl⟩ (fun hHeld => ?_)
             clear hK K
             refine norm_ (a' := ?_) ?_ ?_
             rotate_left
             ·show Act.put _ (some 94) _ = _
              simp only [Act.put, kzB, kzC, kzD, kAX, kAY]
              rfl
             refine kBN (i := 17) (N := some 95) (v := ?_) (a' := ?_) #[true, true, true, true, true, true, true, true, true, true, true, true, true, true, true, true, true, true, false] rfl rfl (kBG HT_.out (by kernel_rfl)) (fun _ _ _ h => h) (Or.inl ⟨by rfl, ?_⟩) ?_ ?_
             rotate_left
             ·intro w'
              go_simp
              with_reducible rfl
             rotate_left
             ·simp only [Act.put, kzB, kzC, kzD, kAX, kAY]
              rfl
             refine kBN (i := 18) (N := some 6) (v := ?_) (a' := ?_) #[true, true, true, true, true, true, true, true, true, true, true, true, true, true, true, true, true, true, true] rfl rfl (kBG HT_.out (by kernel_rfl)) (fun _ _ _ h => h) (Or.inl ⟨by rfl, ?_⟩) ?_ ?_
             rotate_left
             ·intro w'
              go_simp
              with_reducible rfl
             rotate_left
             ·simp only [Act.put, kzB, kzC, kzD, kAX, kAY]
              rfl
             refine done_ (done_of HT_.out (by kernel_rfl)) ?_
             try go_wp2
             go_ret
             exact ⟨by first | rfl | (simp [kAN, kAM] <;> rfl) | (simp [*, kAN, kAM] <;> rfl), by repeat (first | (with_reducible first | exact HB.out | apply kAB | apply kAA | apply kAC | refine kAF ?_ GE457.out | refine kAF ?_ GE478.out) | exact HB.out)⟩
            ·rw [if_neg c42] at H
             exact absurd H (by simp)
           ·replace c39 := Bool.eq_false_iff.mpr c39
            subst c39
            have H1 : ((seal_Head.f a0_0 a0_1 a0_2 a0_3).bind fun t480 => (if t480 = 0 then ((seal_Sums.f kj25 l2 a0_0 a0_1 a0_2 a0_3).bind fun t481 => (some ((t481.length : Int) == 0))) else (none))) = some r := by rw [if_neg (show ¬ (false = true) by decide)] at H; exact H
            clear H
            have H := H1
            clear H1
            replace H := Option.bind_eq_some_iff.mp H
            obtain ⟨t480, A580, H⟩ := H
            replace H : (if t480 = 0 then ((seal_Sums.f kj25 l2 a0_0 a0_1 a0_2 a0_3).bind fun t481 => (some ((t481.length : Int) == 0))) else (none)) = some r := H
            have A58 := kzA A580
            clear A580
            by_cases c59 : t480 = 0
            ·rw [if_pos c59] at H
             have c59b0 : (t480 == 0) = true := beq_iff_eq.mpr c59
             have c59b1 : (t480 != 0) = false := bne_eq_false_iff_eq.mpr c59
             clear c59
             replace H := Option.bind_eq_some_iff.mp H
             obtain ⟨t481, A600, H⟩ := H
             replace H : (some ((t481.length : Int) == 0)) = some r := H
             have A60 := kzA A600
             clear A600
             obtain rfl := Option.some.inj H
             have hcz61_0 : wc.cell? ⟨gb457, 0, none⟩ = some (.int .i64 a0_0) := (kAD BK457.out 0).trans rfl
             have hcz61_1 : wc.cell? ⟨gb457, 1, none⟩ = some (.int .i64 a0_1) := (kAD BK457.out 1).trans rfl
             have hcz61_2 : wc.cell? ⟨gb457, 2, none⟩ = some (.int .i64 a0_2) := (kAD BK457.out 2).trans rfl
             have hcz61_3 : wc.cell? ⟨gb457, 3, none⟩ = some (.int .i64 a0_3) := (kAD BK457.out 3).trans rfl
             have hcz61_4 : wc.cell? ⟨gb457, 4, none⟩ = some (.int .i64 a0_4) := (kAD BK457.out 4).trans rfl
             have hcz61_5 : wc.cell? ⟨gb457, 5, none⟩ = some (.slice A0_5 l0_5.length c0_5) := (kAD BK457.out 5).trans rfl
             have hfz61_0 := kAE BK457.out 0
             have hfz61_1 := kAE BK457.out 1
             have hfz61_2 := kAE BK457.out 2
             have hfz61_3 := kAE BK457.out 3
             have hfz61_4 := kAE BK457.out 4
             have hfz61_5 := kAE BK457.out 5
             go_wp2_with (first | ((with_reducible refine kBA (N := 13) rfl ?_); (try (refine kCI (by rfl) ?_; dsimp only)); refine kBD ?hg (N := 13) ?hd (cs := #[.int .i64 0, .int .i64 0, .int .i64 0, .int .i64 0]) (t := 36) ?hr ?_; (case hd => rfl); (case hg => rfl); (case hr => first | (go_simp; done) | (go_simp; rfl)); intro gb478 hg w62 hbox hb; have n0_ := kzA (kAL (g := gb457) (o := .cells #[.int .i64 a0_0, .int .i64 a0_1, .int .i64 a0_2, .int .i64 a0_3, .int .i64 a0_4, .slice A0_5 l0_5.length c0_5] 26 (0, 0)) (by (with_reducible repeat (first | refine kAH ?_ _ | refine kAI ?_ | refine kAG ?_ _)); exact BK457.out) hb); have n1_ := kzA (kAK (by repeat (first | (with_reducible first | exact HB.out | apply kAB | apply kAA | apply kAC | refine kAF ?_ GE457.out) | exact HB.out)) hb); have n2_ := kzA (hbox); have n3_ := kzA ((by rw [hg]; exact (kAJ (by repeat (first | (with_reducible first | exact HB.out | apply kAB | apply kAA | apply kAC | refine kAF ?_ GE457.out) | exact HB.out))) : w.heap.size ≤ gb478)); have n4_ := kzA ((by rw [hg]; exact (kAJ (by repeat (first | (with_reducible first | exact HB.out | apply kAB | apply kAA | apply kAC | refine kAF ?_ GE457.out) | exact HB.out))) : w.heap.size ≤ gb478)); have n5_ := kzA ((by rw [hg]; exact Nat.ne_of_lt (kCH (g := gb457) (o := .cells #[.int .i64 a0_0, .int .i64 a0_1, .int .i64 a0_2, .int .i64 a0_3, .int .i64 a0_4, .slice A0_5 l0_5.length c0_5] 26 (0, 0)) (by (with_reducible repeat (first | refine kAH ?_ _ | refine kAI ?_ | refine kAG ?_ _)); exact BK457.out)) : gb457 ≠ gb478)); have n6_ := kzA ((by rw [hg]; exact Nat.ne_of_gt (kCH (g := gb457) (o := .cells #[.int .i64 a0_0, .int .i64 a0_1, .int .i64 a0_2, .int .i64 a0_3, .int .i64 a0_4, .slice A0_5 l0_5.length c0_5] 26 (0, 0)) (by (with_reducible repeat (first | refine kAH ?_ _ | refine kAI ?_ | refine kAG ?_ _)); exact BK457.out)) : gb478 ≠ gb457)); clear BK457; clear HB; have BK457 := n0_; have HB := n1_; have BK478 := n2_; have GW478 := n3_; have GE478 := n4_; have NB457_478 := n5_; have NB478_457 := n6_; clear n0_ n1_ n2_ n3_ n4_ n5_ n6_; clear hb hbox hg; have hnb63 := NB478_457.out; have hnc63 := NB457_478.out; have hcz64_0 : w62.cell? ⟨gb478, 0, none⟩ = some (.int .i64 0) := (kAD BK478.out 0).trans rfl; have hcz64_1 : w62.cell? ⟨gb478, 1, none⟩ = some (.int .i64 0) := (kAD BK478.out 1).trans rfl; have hcz64_2 : w62.cell? ⟨gb478, 2, none⟩ = some (.int .i64 0) := (kAD BK478.out 2).trans rfl; have hcz64_3 : w62.cell? ⟨gb478, 3, none⟩ = some (.int .i64 0) := (kAD BK478.out 3).trans rfl; have hfz64_0 := kAE BK478.out 0; have hfz64_1 := kAE BK478.out 1; have hfz64_2 := kAE BK478.out 2; have hfz64_3 := kAE BK478.out 3) | ((with_reducible refine kAQ (f := 13) rfl ?_); refine kBI (some 64) rfl rfl Tryd.func13 (by kernel_rfl) rfl #[.agg #[.int .i64 a0_0, .int .i64 a0_1, .int .i64 a0_2, .int .i64 a0_3]] rfl (by (try simp only [List.map_toArray, List.map_cons, List.map_nil]); first | done | rfl | (simp only [List.length_drop, List.length_take]; rfl)) ?_; (with_reducible refine (footlockerref23_Right.calls a0_0 a0_1 a0_2 a0_3 false _ A38.out).mono ?_); rintro e w65 ⟨rfl, hb⟩; refine ⟨_, rfl, ?_⟩; have n0_ := kzA (kAL (g := gb457) (o := .cells #[.int .i64 a0_0, .int .i64 a0_1, .int .i64 a0_2, .int .i64 a0_3, .int .i64 a0_4, .slice A0_5 l0_5.length c0_5] 26 (0, 0)) (by (with_reducible repeat (first | refine kAH ?_ _ | refine kAI ?_ | refine kAG ?_ _)); refine kBB ?_ NB457_478.out _; (with_reducible repeat (first | refine kAH ?_ _ | refine kAI ?_ | refine kAG ?_ _)); refine kBB ?_ NB457_478.out _; (with_reducible repeat (first | refine kAH ?_ _ | refine kAI ?_ | refine kAG ?_ _)); refine kBB ?_ NB457_478.out _; (with_reducible repeat (first | refine kAH ?_ _ | refine kAI ?_ | refine kAG ?_ _)); refine kBB ?_ NB457_478.out _; (with_reducible repeat (first | refine kAH ?_ _ | refine kAI ?_ | refine kAG ?_ _)); exact BK457.out) hb); have n1_ := kzA (kAL (g := gb478) (o := .cells #[.int .i64 a0_0, .int .i64 a0_1, .int .i64 a0_2, .int .i64 a0_3] 36 (0, 0)) (by (with_reducible repeat (first | refine kAH ?_ _ | refine kAI ?_ | refine kAG ?_ _)); refine kAU (cs := #[.int .i64 a0_0, .int .i64 a0_1, .int .i64 a0_2, .int .i64 0]) ?_ 3 _ rfl; (with_reducible repeat (first | refine kAH ?_ _ | refine kAI ?_ | refine kAG ?_ _)); refine kAU (cs := #[.int .i64 a0_0, .int .i64 a0_1, .int .i64 0, .int .i64 0]) ?_ 2 _ rfl; (with_reducible repeat (first | refine kAH ?_ _ | refine kAI ?_ | refine kAG ?_ _)); refine kAU (cs := #[.int .i64 a0_0, .int .i64 0, .int .i64 0, .int .i64 0]) ?_ 1 _ rfl; (with_reducible repeat (first | refine kAH ?_ _ | refine kAI ?_ | refine kAG ?_ _)); refine kAU (cs := #[.int .i64 0, .int .i64 0, .int .i64 0, .int .i64 0]) ?_ 0 _ rfl; (with_reducible repeat (first | refine kAH ?_ _ | refine kAI ?_ | refine kAG ?_ _)); exact BK478.out) hb); have n2_ := kzA (kAK (by repeat (first | (with_reducible first | exact HB.out | apply kAB | apply kAA | apply kAC | refine kAF ?_ GE457.out | refine kAF ?_ GE478.out) | exact HB.out)) hb); clear BK457; clear BK478; clear HB; have BK457 := n0_; have BK478 := n1_; have HB := n2_; clear n0_ n1_ n2_; (try clear hb); (try clear hb2); (try clear hk); (try clear hi); have hcz66_0 : w65.cell? ⟨gb457, 0, none⟩ = some (.int .i64 a0_0) := (kAD BK457.out 0).trans rfl; have hcz66_1 : w65.cell? ⟨gb457, 1, none⟩ = some (.int .i64 a0_1) := (kAD BK457.out 1).trans rfl; have hcz66_2 : w65.cell? ⟨gb457, 2, none⟩ = some (.int .i64 a0_2) := (kAD BK457.out 2).trans rfl; have hcz66_3 : w65.cell? ⟨gb457, 3, none⟩ = some (.int .i64 a0_3) := (kAD BK457.out 3).trans rfl; have hcz66_4 : w65.cell? ⟨gb457, 4, none⟩ = some (.int .i64 a0_4) := (kAD BK457.out 4).trans rfl; have hcz66_5 : w65.cell? ⟨gb457, 5, none⟩ = some (.slice A0_5 l0_5.length c0_5) := (kAD BK457.out 5).trans rfl; have hfz66_0 := kAE BK457.out 0; have hfz66_1 := kAE BK457.out 1; have hfz66_2 := kAE BK457.out 2; have hfz66_3 := kAE BK457.out 3; have hfz66_4 := kAE BK457.out 4; have hfz66_5 := kAE BK457.out 5) | ((with_reducible refine kAQ (f := 14) rfl ?_); refine kBI (some 68) rfl rfl Tryd.func14 (by kernel_rfl) rfl #[.agg #[.int .i64 a0_0, .int .i64 a0_1, .int .i64 a0_2, .int .i64 a0_3]] rfl (by (try simp only [List.map_toArray, List.map_cons, List.map_nil]); first | done | rfl | (simp only [List.length_drop, List.length_take]; rfl)) ?_; (with_reducible refine (seal_Head.calls a0_0 a0_1 a0_2 a0_3 t480 _ A58.out).mono ?_); rintro e w67 ⟨rfl, hb⟩; refine ⟨_, rfl, ?_⟩; have n0_ := kzA (kAL (g := gb457) (o := .cells #[.int .i64 a0_0, .int .i64 a0_1, .int .i64 a0_2, .int .i64 a0_3, .int .i64 a0_4, .slice A0_5 l0_5.length c0_5] 26 (0, 0)) (by (with_reducible repeat (first | refine kAH ?_ _ | refine kAI ?_ | refine kAG ?_ _)); exact BK457.out) hb); have n1_ := kzA (kAL (g := gb478) (o := .cells #[.int .i64 a0_0, .int .i64 a0_1, .int .i64 a0_2, .int .i64 a0_3] 36 (0, 0)) (by (with_reducible repeat (first | refine kAH ?_ _ | refine kAI ?_ | refine kAG ?_ _)); exact BK478.out) hb); have n2_ := kzA (kAK (by repeat (first | (with_reducible first | exact HB.out | apply kAB | apply kAA | apply kAC | refine kAF ?_ GE457.out | refine kAF ?_ GE478.out) | exact HB.out)) hb); clear BK457; clear BK478; clear HB; have BK457 := n0_; have BK478 := n1_; have HB := n2_; clear n0_ n1_ n2_; (try clear hb); (try clear hb2); (try clear hk); (try clear hi); have hcz68_0 : w67.cell? ⟨gb457, 0, none⟩ = some (.int .i64 a0_0) := (kAD BK457.out 0).trans rfl; have hcz68_1 : w67.cell? ⟨gb457, 1, none⟩ = some (.int .i64 a0_1) := (kAD BK457.out 1).trans rfl; have hcz68_2 : w67.cell? ⟨gb457, 2, none⟩ = some (.int .i64 a0_2) := (kAD BK457.out 2).trans rfl; have hcz68_3 : w67.cell? ⟨gb457, 3, none⟩ = some (.int .i64 a0_3) := (kAD BK457.out 3).trans rfl; have hcz68_4 : w67.cell? ⟨gb457, 4, none⟩ = some (.int .i64 a0_4) := (kAD BK457.out 4).trans rfl; have hcz68_5 : w67.cell? ⟨gb457, 5, none⟩ = some (.slice A0_5 l0_5.length c0_5) := (kAD BK457.out 5).trans rfl; have hfz68_0 := kAE BK457.out 0; have hfz68_1 := kAE BK457.out 1; have hfz68_2 := kAE BK457.out 2; have hfz68_3 := kAE BK457.out 3; have hfz68_4 := kAE BK457.out 4; have hfz68_5 := kAE BK457.out 5) | (go_at_call 15; (with_reducible refine (seal_Sums.calls kj25 _ _ l2 a0_0 a0_1 a0_2 a0_3 t481 _ ?side1 ?side2 ?side3 A60.out).mono ?_); (case side1 => exact Glob.below hG (by repeat (first | (with_reducible first | exact HB.out | apply kAB | apply kAA | apply kAC | refine kAF ?_ GE457.out | refine kAF ?_ GE478.out) | exact HB.out))); (case side2 => repeat (first | exact (Kd.kCG HR2.out HB.out) | (with_reducible refine Kd.kBH ?_ _) | (with_reducible refine Kd.kBF ?_ _) | (with_reducible refine Kd.kBM ?_))); (case side3 => exact HC2.out); rintro e w69 ⟨v482, rfl, ho0, hb⟩; have n0_ := kzA (Kd.S_lower ho0 (kAJ (by repeat (first | (with_reducible first | exact HB.out | apply kAB | apply kAA | apply kAC | refine kAF ?_ GE457.out | refine kAF ?_ GE478.out) | exact HB.out)))); have n1_ := kzA (kAL (g := gb457) (o := .cells #[.int .i64 a0_0, .int .i64 a0_1, .int .i64 a0_2, .int .i64 a0_3, .int .i64 a0_4, .slice A0_5 l0_5.length c0_5] 26 (0, 0)) (by (with_reducible repeat (first | refine kAH ?_ _ | refine kAI ?_ | refine kAG ?_ _)); exact BK457.out) hb); have n2_ := kzA (kAL (g := gb478) (o := .cells #[.int .i64 a0_0, .int .i64 a0_1, .int .i64 a0_2, .int .i64 a0_3] 36 (0, 0)) (by (with_reducible repeat (first | refine kAH ?_ _ | refine kAI ?_ | refine kAG ?_ _)); exact BK478.out) hb); have n3_ := kzA (kAK (by repeat (first | (with_reducible first | exact HB.out | apply kAB | apply kAA | apply kAC | refine kAF ?_ GE457.out | refine kAF ?_ GE478.out) | exact HB.out)) hb); clear BK457; clear BK478; clear HB; have HO483 := n0_; have BK457 := n1_; have BK478 := n2_; have HB := n3_; clear n0_ n1_ n2_ n3_; (try clear hb); (try clear hb2); (try clear hk); (try clear hi); (try clear ho0); obtain ⟨Ao70, co70, eo70⟩ := Kd.S_slice HO483.out; subst eo70))
             go_ret
             exact ⟨by first | rfl | (simp [kAN, kAM] <;> rfl) | (simp [*, kAN, kAM] <;> rfl), by repeat (first | (with_reducible first | exact HB.out | apply kAB | apply kAA | apply kAC | refine kAF ?_ GE457.out | refine kAF ?_ GE478.out) | exact HB.out)⟩
            ·rw [if_neg c59] at H
             exact absurd H (by simp)
 ·replace c5 := Bool.eq_false_iff.mpr c5
  subst c5
  have H1 : (none) = some r := by rw [if_neg (show ¬ (false = true) by decide)] at H; exact H
  clear H
  have H := H1
  clear H1
  exact absurd H (by simp)
end Go.Proofs.YtoamamnbapilhaaDoor.X
