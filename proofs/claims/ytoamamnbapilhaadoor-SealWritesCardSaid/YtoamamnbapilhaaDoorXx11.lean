import Derived.Test.YtoamamnbapilhaaDoorXx0
import Derived.Test.YtoamamnbapilhaaDoorXx10
namespace Go.Proofs.YtoamamnbapilhaaDoor.X
open Go.RowKit Go.Proofs.YtoamamnbapilhaaDoorW.PrintWords Go.Proofs.YtoamamnbapilhaaDoorW.PrintLast Go.Proofs.YtoamamnbapilhaaDoorW.PrintMore
attribute [local go_sem] max2_int min2_int max_two min_two max_three min_three max_four min_four
set_option linter.unusedVariables false
set_option linter.unusedSimpArgs false
mutual
def footlockerref24_Right.j0 : Nat → Bool → Int → Int → Int → Int → Int → List (List Int) → Option (Bool)
 | 0, _, _, _, _, _, _, _ => none
 | k + 1, x33, x364000, x364001, x364002, x364003, x364004, x364005 => if x33 = true then (some false) else (footlockerref24_Right.l0 k 0 x364000 x364001 x364002 x364003 x364004 x364005)
def footlockerref24_Right.l0 : Nat → Int → Int → Int → Int → Int → Int → List (List Int) → Option (Bool)
 | 0, _, _, _, _, _, _, _ => none
 | k + 1, x3, x364000, x364001, x364002, x364003, x364004, x364005 => if x3 < (x364005.length : Int) then (if 0 ≤ x3 then ((footlockerref23_Blocks.f k x364000 x364001 x364002 x364003).bind fun t366 => (if ((rd_L3 x364005 x3).length : Int) = t366 then (footlockerref24_Right.l0 k (wrap64 (x3 + 1)) x364000 x364001 x364002 x364003 x364004 x364005) else (some false))) else (none)) else (some true)
end
def footlockerref24_Right.f (k : Nat) (a0_0 : Int) (a0_1 : Int) (a0_2 : Int) (a0_3 : Int) (a0_4 : Int) (l0_5 : List (List Int)) : Option (Bool) := (footlockerref23_Right.f a0_0 a0_1 a0_2 a0_3).bind fun t364 => (if t364 = true then (if a0_4 < 0 then (footlockerref24_Right.j0 k true a0_0 a0_1 a0_2 a0_3 a0_4 l0_5) else (if a0_4 ≥ a0_1 then (footlockerref24_Right.j0 k true a0_0 a0_1 a0_2 a0_3 a0_4 l0_5) else (footlockerref24_Right.j0 k ((l0_5.length : Int) != (wrap64 (a0_0 + a0_1))) a0_0 a0_1 a0_2 a0_3 a0_4 l0_5))) else (footlockerref24_Right.j0 k true a0_0 a0_1 a0_2 a0_3 a0_4 l0_5))
def footlockerref24_Right.T6 : Bool × List (List Nat × List Nat) := (true, [([], []), ([0], [0]), ([], []), ([1, 2], [1, 2]), ([3], [3]), ([4], [4]), ([], []), ([6], [6]), ([7], [7]), ([5, 8], [5, 8])])
def footlockerref24_Right.B6 : List Nat := [0, 1, 0, 7, 15, 31, 0, 64, 192, 511]
theorem footlockerref24_Right.tab6 : rtab .any (opsOf Tryd.f30 6) = footlockerref24_Right.T6 := by kernel_rfl
theorem footlockerref24_Right.bits6 : waitsOk footlockerref24_Right.T6.2 footlockerref24_Right.B6 = true := by kernel_rfl
set_option maxHeartbeats 8000000 in
set_option maxRecDepth 100000 in
theorem footlockerref24_Right.calls (k : Nat) (a0_0 : Int) (a0_1 : Int) (a0_2 : Int) (a0_3 : Int) (a0_4 : Int) (A0_5 : Option Addr) (c0_5 : Nat) (l0_5 : List (List Int)) (r : Bool) (w : World) (hr0_5 : Kd.C (Kd.slice 54 (Kd.int .u32)) w A0_5 l0_5.length l0_5) (hc0_5 : l0_5.length ≤ c0_5) (h : footlockerref24_Right.f k a0_0 a0_1 a0_2 a0_3 a0_4 l0_5 = some r) :
  Calls Tryd.prog 30 #[.agg #[.int .i64 a0_0, .int .i64 a0_1, .int .i64 a0_2, .int .i64 a0_3, .int .i64 a0_4, .slice A0_5 l0_5.length c0_5]] w fun e w' => e = .returned (.bool r) ∧ Below w.heap.size w w' := by
 have hu38 := Tryd.underlying38
 have hu36 := Tryd.underlying36
 have HR0_5 := kzA hr0_5
 have HC0_5 := kzA hc0_5
 clear hr0_5 hc0_5
 have HB := kzA (Below.refl w.heap.size w)
 have H : ((footlockerref23_Right.f a0_0 a0_1 a0_2 a0_3).bind fun t364 => (if t364 = true then (if a0_4 < 0 then (footlockerref24_Right.j0 k true a0_0 a0_1 a0_2 a0_3 a0_4 l0_5) else (if a0_4 ≥ a0_1 then (footlockerref24_Right.j0 k true a0_0 a0_1 a0_2 a0_3 a0_4 l0_5) else (footlockerref24_Right.j0 k ((l0_5.length : Int) != (wrap64 (a0_0 + a0_1))) a0_0 a0_1 a0_2 a0_3 a0_4 l0_5))) else (footlockerref24_Right.j0 k true a0_0 a0_1 a0_2 a0_3 a0_4 l0_5))) = some r := h
 clear h
 have HC2 := kzA H
 clear H
 go_enter Tryd.func30, Tryd.ntmps30
 go_upto_region 1 with (first | ((with_reducible refine kBA (N := 1) rfl ?_); (try (refine kCI (by rfl) ?_; dsimp only)); refine kBD ?hg (N := 1) ?hd (cs := #[.int .i64 a0_0, .int .i64 a0_1, .int .i64 a0_2, .int .i64 a0_3, .int .i64 a0_4, .slice A0_5 l0_5.length c0_5]) (t := 38) ?hr ?_; (case hd => rfl); (case hg => rfl); (case hr => first | (go_simp; done) | (go_simp; rfl)); intro gb363 hg w3 hbox hb; have n0_ := kzA (kAK (by repeat (first | (with_reducible first | exact HB.out | apply kAB | apply kAA | apply kAC) | exact HB.out)) hb); have n1_ := kzA (hbox); have n2_ := kzA ((by rw [hg]; exact (kAJ (by repeat (first | (with_reducible first | exact HB.out | apply kAB | apply kAA | apply kAC) | exact HB.out))) : w.heap.size ≤ gb363)); have n3_ := kzA ((by rw [hg]; exact (kAJ (by repeat (first | (with_reducible first | exact HB.out | apply kAB | apply kAA | apply kAC) | exact HB.out))) : w.heap.size ≤ gb363)); clear HB; have HB := n0_; have BK363 := n1_; have GW363 := n2_; have GE363 := n3_; clear n0_ n1_ n2_ n3_; clear hb hbox hg))
 (try simp only [Act.put, kzB, kzC, kzD])
 go_cut [33] (fun v33 wc => ∃ (kq : Nat) (x33_1 : Bool), v33 = .bool x33_1 ∧ Aside0 (footlockerref24_Right.j0 kq x33_1 a0_0 a0_1 a0_2 a0_3 a0_4 l0_5 = some r) ∧ Aside0 (kq ≤ k) ∧ Aside0 (wc.heap[gb363]? = some (.cells #[.int .i64 a0_0, .int .i64 a0_1, .int .i64 a0_2, .int .i64 a0_3, .int .i64 a0_4, (.slice A0_5 l0_5.length c0_5)] 38 (0, 0))) ∧ Aside0 (Below w.heap.size w wc))
 case first =>
  have H := HC2.out
  clear HC2
  replace H := Option.bind_eq_some_iff.mp H
  obtain ⟨t364, A40, H⟩ := H
  replace H : (if t364 = true then (if a0_4 < 0 then (footlockerref24_Right.j0 k true a0_0 a0_1 a0_2 a0_3 a0_4 l0_5) else (if a0_4 ≥ a0_1 then (footlockerref24_Right.j0 k true a0_0 a0_1 a0_2 a0_3 a0_4 l0_5) else (footlockerref24_Right.j0 k ((l0_5.length : Int) != (wrap64 (a0_0 + a0_1))) a0_0 a0_1 a0_2 a0_3 a0_4 l0_5))) else (footlockerref24_Right.j0 k true a0_0 a0_1 a0_2 a0_3 a0_4 l0_5)) = some r := H
  have A4 := kzA A40
  clear A40
  by_cases c5 : t364 = true
  ·subst c5
   have H1 : (if a0_4 < 0 then (footlockerref24_Right.j0 k true a0_0 a0_1 a0_2 a0_3 a0_4 l0_5) else (if a0_4 ≥ a0_1 then (footlockerref24_Right.j0 k true a0_0 a0_1 a0_2 a0_3 a0_4 l0_5) else (footlockerref24_Right.j0 k ((l0_5.length : Int) != (wrap64 (a0_0 + a0_1))) a0_0 a0_1 a0_2 a0_3 a0_4 l0_5))) = some r := by rw [if_pos rfl] at H; exact H
   clear H
   have H := H1
   clear H1
   by_cases c6 : a0_4 < 0
   ·rw [if_pos c6] at H
    have c6b0 : decide (a0_4 < 0) = true := decide_eq_true c6
    clear c6
    (first | rw [c6b0] | (simp only [kAX, kAY]; rw [c6b0]) | skip)
    have H' := kzA H
    clear H
    have hcz7_0 : w3.cell? ⟨gb363, 0, none⟩ = some (.int .i64 a0_0) := (kAD BK363.out 0).trans rfl
    have hcz7_1 : w3.cell? ⟨gb363, 1, none⟩ = some (.int .i64 a0_1) := (kAD BK363.out 1).trans rfl
    have hcz7_2 : w3.cell? ⟨gb363, 2, none⟩ = some (.int .i64 a0_2) := (kAD BK363.out 2).trans rfl
    have hcz7_3 : w3.cell? ⟨gb363, 3, none⟩ = some (.int .i64 a0_3) := (kAD BK363.out 3).trans rfl
    have hcz7_4 : w3.cell? ⟨gb363, 4, none⟩ = some (.int .i64 a0_4) := (kAD BK363.out 4).trans rfl
    have hcz7_5 : w3.cell? ⟨gb363, 5, none⟩ = some (.slice A0_5 l0_5.length c0_5) := (kAD BK363.out 5).trans rfl
    have hfz7_0 := kAE BK363.out 0
    have hfz7_1 := kAE BK363.out 1
    have hfz7_2 := kAE BK363.out 2
    have hfz7_3 := kAE BK363.out 3
    have hfz7_4 := kAE BK363.out 4
    have hfz7_5 := kAE BK363.out 5
    go_wp2_with (first | ((with_reducible refine kAQ (f := 13) rfl ?_); refine kBI (some 6) rfl rfl Tryd.func13 (by kernel_rfl) rfl #[.agg #[.int .i64 a0_0, .int .i64 a0_1, .int .i64 a0_2, .int .i64 a0_3]] rfl (by (try simp only [List.map_toArray, List.map_cons, List.map_nil]); first | done | rfl | (simp only [List.length_drop, List.length_take]; rfl)) ?_; (with_reducible refine (footlockerref23_Right.calls a0_0 a0_1 a0_2 a0_3 true _ A4.out).mono ?_); rintro e w8 ⟨rfl, hb⟩; refine ⟨_, rfl, ?_⟩; have n0_ := kzA (kAL (g := gb363) (o := .cells #[.int .i64 a0_0, .int .i64 a0_1, .int .i64 a0_2, .int .i64 a0_3, .int .i64 a0_4, .slice A0_5 l0_5.length c0_5] 38 (0, 0)) (by (with_reducible repeat (first | refine kAH ?_ _ | refine kAI ?_ | refine kAG ?_ _)); exact BK363.out) hb); have n1_ := kzA (kAK (by repeat (first | (with_reducible first | exact HB.out | apply kAB | apply kAA | apply kAC | refine kAF ?_ GE363.out) | exact HB.out)) hb); clear BK363; clear HB; have BK363 := n0_; have HB := n1_; clear n0_ n1_; (try clear hb); (try clear hb2); (try clear hk); (try clear hi); have hcz9_0 : w8.cell? ⟨gb363, 0, none⟩ = some (.int .i64 a0_0) := (kAD BK363.out 0).trans rfl; have hcz9_1 : w8.cell? ⟨gb363, 1, none⟩ = some (.int .i64 a0_1) := (kAD BK363.out 1).trans rfl; have hcz9_2 : w8.cell? ⟨gb363, 2, none⟩ = some (.int .i64 a0_2) := (kAD BK363.out 2).trans rfl; have hcz9_3 : w8.cell? ⟨gb363, 3, none⟩ = some (.int .i64 a0_3) := (kAD BK363.out 3).trans rfl; have hcz9_4 : w8.cell? ⟨gb363, 4, none⟩ = some (.int .i64 a0_4) := (kAD BK363.out 4).trans rfl; have hcz9_5 : w8.cell? ⟨gb363, 5, none⟩ = some (.slice A0_5 l0_5.length c0_5) := (kAD BK363.out 5).trans rfl; have hfz9_0 := kAE BK363.out 0; have hfz9_1 := kAE BK363.out 1; have hfz9_2 := kAE BK363.out 2; have hfz9_3 := kAE BK363.out 3; have hfz9_4 := kAE BK363.out 4; have hfz9_5 := kAE BK363.out 5))
    go_meet
    case rel => exact ⟨_, (true), (by first | rfl | (simp; done) | (simp [*]; done)), H', ⟨by first | omega | exact Nat.le_refl _⟩, ⟨by (with_reducible repeat (first | refine kAH ?_ _ | refine kAI ?_ | refine kAG ?_ _)); exact BK363.out⟩, ⟨by repeat (first | (with_reducible first | exact HB.out | apply kAB | apply kAA | apply kAC | refine kAF ?_ GE363.out) | exact HB.out)⟩⟩
   ·rw [if_neg c6] at H
    have c6b0 : decide (a0_4 < 0) = false := decide_eq_false c6
    clear c6
    (first | rw [c6b0] | (simp only [kAX, kAY]; rw [c6b0]) | skip)
    by_cases c10 : a0_4 ≥ a0_1
    ·rw [if_pos c10] at H
     have c10b0 : decide (a0_1 ≤ a0_4) = true := decide_eq_true c10
     clear c10
     have H' := kzA H
     clear H
     have hcz11_0 : w3.cell? ⟨gb363, 0, none⟩ = some (.int .i64 a0_0) := (kAD BK363.out 0).trans rfl
     have hcz11_1 : w3.cell? ⟨gb363, 1, none⟩ = some (.int .i64 a0_1) := (kAD BK363.out 1).trans rfl
     have hcz11_2 : w3.cell? ⟨gb363, 2, none⟩ = some (.int .i64 a0_2) := (kAD BK363.out 2).trans rfl
     have hcz11_3 : w3.cell? ⟨gb363, 3, none⟩ = some (.int .i64 a0_3) := (kAD BK363.out 3).trans rfl
     have hcz11_4 : w3.cell? ⟨gb363, 4, none⟩ = some (.int .i64 a0_4) := (kAD BK363.out 4).trans rfl
     have hcz11_5 : w3.cell? ⟨gb363, 5, none⟩ = some (.slice A0_5 l0_5.length c0_5) := (kAD BK363.out 5).trans rfl
     have hfz11_0 := kAE BK363.out 0
     have hfz11_1 := kAE BK363.out 1
     have hfz11_2 := kAE BK363.out 2
     have hfz11_3 := kAE BK363.out 3
     have hfz11_4 := kAE BK363.out 4
     have hfz11_5 := kAE BK363.out 5
     go_wp2_with (first | ((with_reducible refine kAQ (f := 13) rfl ?_); refine kBI (some 6) rfl rfl Tryd.func13 (by kernel_rfl) rfl #[.agg #[.int .i64 a0_0, .int .i64 a0_1, .int .i64 a0_2, .int .i64 a0_3]] rfl (by (try simp only [List.map_toArray, List.map_cons, List.map_nil]); first | done | rfl | (simp only [List.length_drop, List.length_take]; rfl)) ?_; (with_reducible refine (footlockerref23_Right.calls a0_0 a0_1 a0_2 a0_3 true _ A4.out).mono ?_); rintro e w12 ⟨rfl, hb⟩; refine ⟨_, rfl, ?_⟩; have n0_ := kzA (kAL (g := gb363) (o := .cells #[.int .i64 a0_0, .int .i64 a0_1, .int .i64 a0_2, .int .i64 a0_3, .int .i64 a0_4, .slice A0_5 l0_5.length c0_5] 38 (0, 0)) (by (with_reducible repeat (first | refine kAH ?_ _ | refine kAI ?_ | refine kAG ?_ _)); exact BK363.out) hb); have n1_ := kzA (kAK (by repeat (first | (with_reducible first | exact HB.out | apply kAB | apply kAA | apply kAC | refine kAF ?_ GE363.out) | exact HB.out)) hb); clear BK363; clear HB; have BK363 := n0_; have HB := n1_; clear n0_ n1_; (try clear hb); (try clear hb2); (try clear hk); (try clear hi); have hcz13_0 : w12.cell? ⟨gb363, 0, none⟩ = some (.int .i64 a0_0) := (kAD BK363.out 0).trans rfl; have hcz13_1 : w12.cell? ⟨gb363, 1, none⟩ = some (.int .i64 a0_1) := (kAD BK363.out 1).trans rfl; have hcz13_2 : w12.cell? ⟨gb363, 2, none⟩ = some (.int .i64 a0_2) := (kAD BK363.out 2).trans rfl; have hcz13_3 : w12.cell? ⟨gb363, 3, none⟩ = some (.int .i64 a0_3) := (kAD BK363.out 3).trans rfl; have hcz13_4 : w12.cell? ⟨gb363, 4, none⟩ = some (.int .i64 a0_4) := (kAD BK363.out 4).trans rfl; have hcz13_5 : w12.cell? ⟨gb363, 5, none⟩ = some (.slice A0_5 l0_5.length c0_5) := (kAD BK363.out 5).trans rfl; have hfz13_0 := kAE BK363.out 0; have hfz13_1 := kAE BK363.out 1; have hfz13_2 := kAE BK363.out 2; have hfz13_3 := kAE BK363.out 3; have hfz13_4 := kAE BK363.out 4; have hfz13_5 := kAE BK363.out 5))
     go_meet
     case rel => exact ⟨_, (true), (by first | rfl | (simp; done) | (simp [*]; done)), H', ⟨by first | omega | exact Nat.le_refl _⟩, ⟨by (with_reducible repeat (first | refine kAH ?_ _ | refine kAI ?_ | refine kAG ?_ _)); exact BK363.out⟩, ⟨by repeat (first | (with_reducible first | exact HB.out | apply kAB | apply kAA | apply kAC | refine kAF ?_ GE363.out) | exact HB.out)⟩⟩
    ·rw [if_neg c10] at H
     have c10b0 : decide (a0_1 ≤ a0_4) = false := decide_eq_false c10
     clear c10
     have H' := kzA H
     clear H
     have hcz14_0 : w3.cell? ⟨gb363, 0, none⟩ = some (.int .i64 a0_0) := (kAD BK363.out 0).trans rfl
     have hcz14_1 : w3.cell? ⟨gb363, 1, none⟩ = some (.int .i64 a0_1) := (kAD BK363.out 1).trans rfl
     have hcz14_2 : w3.cell? ⟨gb363, 2, none⟩ = some (.int .i64 a0_2) := (kAD BK363.out 2).trans rfl
     have hcz14_3 : w3.cell? ⟨gb363, 3, none⟩ = some (.int .i64 a0_3) := (kAD BK363.out 3).trans rfl
     have hcz14_4 : w3.cell? ⟨gb363, 4, none⟩ = some (.int .i64 a0_4) := (kAD BK363.out 4).trans rfl
     have hcz14_5 : w3.cell? ⟨gb363, 5, none⟩ = some (.slice A0_5 l0_5.length c0_5) := (kAD BK363.out 5).trans rfl
     have hfz14_0 := kAE BK363.out 0
     have hfz14_1 := kAE BK363.out 1
     have hfz14_2 := kAE BK363.out 2
     have hfz14_3 := kAE BK363.out 3
     have hfz14_4 := kAE BK363.out 4
     have hfz14_5 := kAE BK363.out 5
     go_wp2_with (first | ((with_reducible refine kAQ (f := 13) rfl ?_); refine kBI (some 6) rfl rfl Tryd.func13 (by kernel_rfl) rfl #[.agg #[.int .i64 a0_0, .int .i64 a0_1, .int .i64 a0_2, .int .i64 a0_3]] rfl (by (try simp only [List.map_toArray, List.map_cons, List.map_nil]); first | done | rfl | (simp only [List.length_drop, List.length_take]; rfl)) ?_; (with_reducible refine (footlockerref23_Right.calls a0_0 a0_1 a0_2 a0_3 true _ A4.out).mono ?_); rintro e w15 ⟨rfl, hb⟩; refine ⟨_, rfl, ?_⟩; have n0_ := kzA (kAL (g := gb363) (o := .cells #[.int .i64 a0_0, .int .i64 a0_1, .int .i64 a0_2, .int .i64 a0_3, .int .i64 a0_4, .slice A0_5 l0_5.length c0_5] 38 (0, 0)) (by (with_reducible repeat (first | refine kAH ?_ _ | refine kAI ?_ | refine kAG ?_ _)); exact BK363.out) hb); have n1_ := kzA (kAK (by repeat (first | (with_reducible first | exact HB.out | apply kAB | apply kAA | apply kAC | refine kAF ?_ GE363.out) | exact HB.out)) hb); clear BK363; clear HB; have BK363 := n0_; have HB := n1_; clear n0_ n1_; (try clear hb); (try clear hb2); (try clear hk); (try clear hi); have hcz16_0 : w15.cell? ⟨gb363, 0, none⟩ = some (.int .i64 a0_0) := (kAD BK363.out 0).trans rfl; have hcz16_1 : w15.cell? ⟨gb363, 1, none⟩ = some (.int .i64 a0_1) := (kAD BK363.out 1).trans rfl; have hcz16_2 : w15.cell? ⟨gb363, 2, none⟩ = some (.int .i64 a0_2) := (kAD BK363.out 2).trans rfl; have hcz16_3 : w15.cell? ⟨gb363, 3, none⟩ = some (.int .i64 a0_3) := (kAD BK363.out 3).trans rfl; have hcz16_4 : w15.cell? ⟨gb363, 4, none⟩ = some (.int .i64 a0_4) := (kAD BK363.out 4).trans rfl; have hcz16_5 : w15.cell? ⟨gb363, 5, none⟩ = some (.slice A0_5 l0_5.length c0_5) := (kAD BK363.out 5).trans rfl; have hfz16_0 := kAE BK363.out 0; have hfz16_1 := kAE BK363.out 1; have hfz16_2 := kAE BK363.out 2; have hfz16_3 := kAE BK363.out 3; have hfz16_4 := kAE BK363.out 4; have hfz16_5 := kAE BK363.out 5))
     go_meet
     case rel => exact ⟨_, (((l0_5.length : Int) != (wrap64 (a0_0 + a0_1)))), (by first | rfl | (simp; done) | (simp [*]; done)), H', ⟨by first | omega | exact Nat.le_refl _⟩, ⟨by (with_reducible repeat (first | refine kAH ?_ _ | refine kAI ?_ | refine kAG ?_ _)); exact BK363.out⟩, ⟨by repeat (first | (with_reducible first | exact HB.out | apply kAB | apply kAA | apply kAC | refine kAF ?_ GE363.out) | exact HB.out)⟩⟩
  ·replace c5 := Bool.eq_false_iff.mpr c5
   subst c5
   have H1 : (footlockerref24_Right.j0 k true a0_0 a0_1 a0_2 a0_3 a0_4 l0_5) = some r := by rw [if_neg (show ¬ (false = true) by decide)] at H; exact H
   clear H
   have H := H1
   clear H1
   have H' := kzA H
   clear H
   have hcz17_0 : w3.cell? ⟨gb363, 0, none⟩ = some (.int .i64 a0_0) := (kAD BK363.out 0).trans rfl
   have hcz17_1 : w3.cell? ⟨gb363, 1, none⟩ = some (.int .i64 a0_1) := (kAD BK363.out 1).trans rfl
   have hcz17_2 : w3.cell? ⟨gb363, 2, none⟩ = some (.int .i64 a0_2) := (kAD BK363.out 2).trans rfl
   have hcz17_3 : w3.cell? ⟨gb363, 3, none⟩ = some (.int .i64 a0_3) := (kAD BK363.out 3).trans rfl
   have hcz17_4 : w3.cell? ⟨gb363, 4, none⟩ = some (.int .i64 a0_4) := (kAD BK363.out 4).trans rfl
   have hcz17_5 : w3.cell? ⟨gb363, 5, none⟩ = some (.slice A0_5 l0_5.length c0_5) := (kAD BK363.out 5).trans rfl
   have hfz17_0 := kAE BK363.out 0
   have hfz17_1 := kAE BK363.out 1
   have hfz17_2 := kAE BK363.out 2
   have hfz17_3 := kAE BK363.out 3
   have hfz17_4 := kAE BK363.out 4
   have hfz17_5 := kAE BK363.out 5
   go_wp2_with (first | ((with_reducible refine kAQ (f := 13) rfl ?_); refine kBI (some 6) rfl rfl Tryd.func13 (by kernel_rfl) rfl #[.agg #[.int .i64 a0_0, .int .i64 a0_1, .int .i64 a0_2, .int .i64 a0_3]] rfl (by (try simp only [List.map_toArray, List.map_cons, List.map_nil]); first | done | rfl | (simp only [List.length_drop, List.length_take]; rfl)) ?_; (with_reducible refine (footlockerref23_Right.calls a0_0 a0_1 a0_2 a0_3 false _ A4.out).mono ?_); rintro e w18 ⟨rfl, hb⟩; refine ⟨_, rfl, ?_⟩; have n0_ := kzA (kAL (g := gb363) (o := .cells #[.int .i64 a0_0, .int .i64 a0_1, .int .i64 a0_2, .int .i64 a0_3, .int .i64 a0_4, .slice A0_5 l0_5.length c0_5] 38 (0, 0)) (by (with_reducible repeat (first | refine kAH ?_ _ | refine kAI ?_ | refine kAG ?_ _)); exact BK363.out) hb); have n1_ := kzA (kAK (by repeat (first | (with_reducible first | exact HB.out | apply kAB | apply kAA | apply kAC | refine kAF ?_ GE363.out) | exact HB.out)) hb); clear BK363; clear HB; have BK363 := n0_; have HB := n1_; clear n0_ n1_; (try clear hb); (try clear hb2); (try clear hk); (try clear hi)))
   go_meet
   case rel => exact ⟨_, (true), (by first | rfl | (simp; done) | (simp [*]; done)), H', ⟨by first | omega | exact Nat.le_refl _⟩, ⟨by (with_reducible repeat (first | refine kAH ?_ _ | refine kAI ?_ | refine kAG ?_ _)); exact BK363.out⟩, ⟨by repeat (first | (with_reducible first | exact HB.out | apply kAB | apply kAA | apply kAC | refine kAF ?_ GE363.out) | exact HB.out)⟩⟩
 case rest =>
  clear HC2
  try clear c1
  try clear p2
  try clear c3
  try clear c5
  try clear c6
  try clear c6b0
  try clear p6
  try clear c10
  try clear c10b0
  try clear c13
  try clear hcz11_0
  try clear hcz11_1
  try clear hcz11_2
  try clear hcz11_3
  try clear hcz11_4
  try clear hcz11_5
  try clear hcz13_0
  try clear hcz13_1
  try clear hcz13_2
  try clear hcz13_3
  try clear hcz13_4
  try clear hcz13_5
  try clear hcz14_0
  try clear hcz14_1
  try clear hcz14_2
  try clear hcz14_3
  try clear hcz14_4
  try clear hcz14_5
  try clear hcz16_0
  try clear hcz16_1
  try clear hcz16_2
  try clear hcz16_3
  try clear hcz16_4
  try clear hcz16_5
  try clear hcz17_0
  try clear hcz17_1
  try clear hcz17_2
  try clear hcz17_3
  try clear hcz17_4
  try clear hcz17_5
  try clear hcz7_0
  try clear hcz7_1
  try clear hcz7_2
  try clear hcz7_3
  try clear hcz7_4
  try clear hcz7_5
  try clear hcz9_0
  try clear hcz9_1
  try clear hcz9_2
  try clear hcz9_3
  try clear hcz9_4
  try clear hcz9_5
  try clear hfz11_0
  try clear hfz11_1
  try clear hfz11_2
  try clear hfz11_3
  try clear hfz11_4
  try clear hfz11_5
  try clear hfz13_0
  try clear hfz13_1
  try clear hfz13_2
  try clear hfz13_3
  try clear hfz13_4
  try clear hfz13_5
  try clear hfz14_0
  try clear hfz14_1
  try clear hfz14_2
  try clear hfz14_3
  try clear hfz14_4
  try clear hfz14_5
  try clear hfz16_0
  try clear hfz16_1
  try clear hfz16_2
  try clear hfz16_3
  try clear hfz16_4
  try clear hfz16_5
  try clear hfz17_0
  try clear hfz17_1
  try clear hfz17_2
  try clear hfz17_3
  try clear hfz17_4
  try clear hfz17_5
  try clear hfz7_0
  try clear hfz7_1
  try clear hfz7_2
  try clear hfz7_3
  try clear hfz7_4
  try clear hfz7_5
  try clear hfz9_0
  try clear hfz9_1
  try clear hfz9_2
  try clear hfz9_3
  try clear hfz9_4
  try clear hfz9_5
  obtain ⟨kq, x33_1, rfl, HA, HJ1, BK363, HB⟩ := hcut
  cases kq with
  | zero => exact absurd HA.out (by simp [footlockerref24_Right.j0])
  | succ kj1 =>
   have H := HA.out
   clear HA
   simp only [footlockerref24_Right.j0] at H
   by_cases c19 : x33_1 = true
   ·subst c19
    have H1 : (some false) = some r := by rw [if_pos rfl] at H; exact H
    clear H
    have H := H1
    clear H1
    obtain rfl := Option.some.inj H
    go_wp2
    go_ret
    exact ⟨by first | rfl | (simp [kAN, kAM] <;> rfl) | (simp [*, kAN, kAM] <;> rfl), by repeat (first | (with_reducible first | exact HB.out | apply kAB | apply kAA | apply kAC | refine kAF ?_ GE363.out) | exact HB.out)⟩
   ·replace c19 := Bool.eq_false_iff.mpr c19
    subst c19
    have H1 : (footlockerref24_Right.l0 kj1 0 a0_0 a0_1 a0_2 a0_3 a0_4 l0_5) = some r := by rw [if_neg (show ¬ (false = true) by decide)] at H; exact H
    clear H
    have H := H1
    clear H1
    have H' := kzA H
    clear H
    go_wp2
    go_loopg [3] kj1 (fun kq v3 w' => ∃ (x3_2 : Int), v3 = .int .i64 x3_2 ∧ Aside0 (footlockerref24_Right.l0 kq x3_2 a0_0 a0_1 a0_2 a0_3 a0_4 l0_5 = some r) ∧ Aside0 (kq ≤ kj1) ∧ Aside0 (w'.heap[gb363]? = some (.cells #[.int .i64 a0_0, .int .i64 a0_1, .int .i64 a0_2, .int .i64 a0_3, .int .i64 a0_4, (.slice A0_5 l0_5.length c0_5)] 38 (0, 0))) ∧ Aside0 (Below w.heap.size w w'))
    case atStart => exact ⟨(0), (by first | rfl | (simp; done) | (simp [*]; done)), H', ⟨Nat.le_refl _⟩, ⟨by (with_reducible repeat (first | refine kAH ?_ _ | refine kAI ?_ | refine kAG ?_ _)); exact BK363.out⟩, ⟨by repeat (first | (with_reducible first | exact HB.out | apply kAB | apply kAA | apply kAC | refine kAF ?_ GE363.out) | exact HB.out)⟩⟩
    case round =>
     clear H'
     try clear c1
     try clear p2
     try clear c3
     try clear c5
     try clear c6
     try clear c6b0
     try clear p6
     try clear c10
     try clear c10b0
     try clear c13
     try clear c19
     try clear hcz11_0
     try clear hcz11_1
     try clear hcz11_2
     try clear hcz11_3
     try clear hcz11_4
     try clear hcz11_5
     try clear hcz13_0
     try clear hcz13_1
     try clear hcz13_2
     try clear hcz13_3
     try clear hcz13_4
     try clear hcz13_5
     try clear hcz14_0
     try clear hcz14_1
     try clear hcz14_2
     try clear hcz14_3
     try clear hcz14_4
     try clear hcz14_5
     try clear hcz16_0
     try clear hcz16_1
     try clear hcz16_2
     try clear hcz16_3
     try clear hcz16_4
     try clear hcz16_5
     try clear hcz17_0
     try clear hcz17_1
     try clear hcz17_2
     try clear hcz17_3
     try clear hcz17_4
     try clear hcz17_5
     try clear hcz7_0
     try clear hcz7_1
     try clear hcz7_2
     try clear hcz7_3
     try clear hcz7_4
     try clear hcz7_5
     try clear hcz9_0
     try clear hcz9_1
     try clear hcz9_2
     try clear hcz9_3
     try clear hcz9_4
     try clear hcz9_5
     try clear hfz11_0
     try clear hfz11_1
     try clear hfz11_2
     try clear hfz11_3
     try clear hfz11_4
     try clear hfz11_5
     try clear hfz13_0
     try clear hfz13_1
     try clear hfz13_2
     try clear hfz13_3
     try clear hfz13_4
     try clear hfz13_5
     try clear hfz14_0
     try clear hfz14_1
     try clear hfz14_2
     try clear hfz14_3
     try clear hfz14_4
     try clear hfz14_5
     try clear hfz16_0
     try clear hfz16_1
     try clear hfz16_2
     try clear hfz16_3
     try clear hfz16_4
     try clear hfz16_5
     try clear hfz17_0
     try clear hfz17_1
     try clear hfz17_2
     try clear hfz17_3
     try clear hfz17_4
     try clear hfz17_5
     try clear hfz7_0
     try clear hfz7_1
     try clear hfz7_2
     try clear hfz7_3
     try clear hfz7_4
     try clear hfz7_5
     try clear hfz9_0
     try clear hfz9_1
     try clear hfz9_2
     try clear hfz9_3
     try clear hfz9_4
     try clear hfz9_5
     try clear p2
     try clear p6
     obtain ⟨x3_2, rfl, HA, HK2, BK363, HB⟩ := hrel
     cases gk with
     | zero => exact absurd HA.out (by simp [footlockerref24_Right.l0])
     | succ k2 =>
      have H := HA.out
      clear HA
      simp only [footlockerref24_Right.l0] at H
      by_cases c20 : x3_2 < (l0_5.length : Int)
      ·rw [if_pos c20] at H
       have c20b0 : decide (x3_2 < (l0_5.length : Int)) = true := decide_eq_true c20
       clear c20
       by_cases c21 : 0 ≤ x3_2
       ·rw [if_pos c21] at H
        have c21b0 : decide (0 ≤ x3_2) = true := decide_eq_true c21
        clear c21
        replace H := Option.bind_eq_some_iff.mp H
        obtain ⟨t366, A220, H⟩ := H
        replace H : (if ((rd_L3 l0_5 x3_2).length : Int) = t366 then (footlockerref24_Right.l0 k2 (wrap64 (x3_2 + 1)) a0_0 a0_1 a0_2 a0_3 a0_4 l0_5) else (some false)) = some r := H
        have A22 := kzA A220
        clear A220
        by_cases c23 : ((rd_L3 l0_5 x3_2).length : Int) = t366
        ·rw [if_pos c23] at H
         have c23b0 : (((rd_L3 l0_5 x3_2).length : Int) == t366) = true := beq_iff_eq.mpr c23
         have c23b1 : (((rd_L3 l0_5 x3_2).length : Int) != t366) = false := bne_eq_false_iff_eq.mpr c23
         clear c23
         have H' := kzA H
         clear H
         have hcz24_0 : wr.cell? ⟨gb363, 0, none⟩ = some (.int .i64 a0_0) := (kAD BK363.out 0).trans rfl
         have hcz24_1 : wr.cell? ⟨gb363, 1, none⟩ = some (.int .i64 a0_1) := (kAD BK363.out 1).trans rfl
         have hcz24_2 : wr.cell? ⟨gb363, 2, none⟩ = some (.int .i64 a0_2) := (kAD BK363.out 2).trans rfl
         have hcz24_3 : wr.cell? ⟨gb363, 3, none⟩ = some (.int .i64 a0_3) := (kAD BK363.out 3).trans rfl
         have hcz24_4 : wr.cell? ⟨gb363, 4, none⟩ = some (.int .i64 a0_4) := (kAD BK363.out 4).trans rfl
         have hcz24_5 : wr.cell? ⟨gb363, 5, none⟩ = some (.slice A0_5 l0_5.length c0_5) := (kAD BK363.out 5).trans rfl
         have hfz24_0 := kAE BK363.out 0
         have hfz24_1 := kAE BK363.out 1
         have hfz24_2 := kAE BK363.out 2
         have hfz24_3 := kAE BK363.out 3
         have hfz24_4 := kAE BK363.out 4
         have hfz24_5 := kAE BK363.out 5
         try go_wp2
         have n0_ := kzA (kAI BK363.out)
         have n1_ := kzA (kAC HB.out)
         clear BK363
         clear HB
         have BK363 := n0_
         have HB := n1_
         clear n0_ n1_
         have p365 : 0 ≤ (x3_2 : Int) := of_decide_eq_true (by first | (with_reducible assumption) | assumption)
         have q365 : x3_2 < (l0_5.length : Int) := of_decide_eq_true (by first | (with_reducible assumption) | assumption)
         obtain ⟨ad365, A365_0, c365_0, e365, hx365_0, hl365_0, hi365_0⟩ := at_L3 HR0_5.out x3_2 p365 q365
         have hw365_0 := hx365_0
         cases e365
         replace hx365_0 := (HB.out.cell (World.block_lt_of_cell? w _ hx365_0)).trans hx365_0
         have HR365_0 := kzA hi365_0
         have HC365_0 := kzA hl365_0
         clear hi365_0 hl365_0
         replace p365 := eq_true p365
         replace q365 := eq_true q365
         refine start_ (n := 10) (S := fun w' => w'.cell? ⟨gb363, 0, none⟩ = some (.int .i64 a0_0) ∧ w'.cell? ⟨gb363, 1, none⟩ = some (.int .i64 a0_1) ∧ w'.cell? ⟨gb363, 2, none⟩ = some (.int .i64 a0_2) ∧ w'.cell? ⟨gb363, 3, none⟩ = some (.int .i64 a0_3) ∧ w'.cell? ⟨gb363, 4, none⟩ = some (.int .i64 a0_4) ∧ w'.cell? ⟨gb363, 5, none⟩ = some (.slice (some ad365) l0_5.length c0_5) ∧ w'.cell? (ad365.add (x3_2).toNat) = some (.slice A365_0 (rd_L3 l0_5 x3_2).length c365_0)) (ds := []) #[false, false, false, false, false, false, false, false, false, false] (by kernel_rfl) rfl rfl ⟨(kAD BK363.out 0).trans rfl, (kAD BK363.out 1).trans rfl, (kAD BK363.out 2).trans rfl, (kAD BK363.out 3).trans rfl, (kAD BK363.out 4).trans rfl, (kAD BK363.out 5).trans rfl, ((HB.out.cell (World.block_lt_of_cell? w _ hw365_0)).trans hw365_0)⟩ (fun hHeld => ?_); refine with_tabW footlockerref24_Right.tab6 footlockerref24_Right.bits6 (fun HT_ HW_ => ?_)
         generalize wr.drew = w25 at BK363 HB HR365_0 hx365_0 hHeld ⊢
         refine kBN (i := 0) (N := some 41) (v := ?_) (a' := ?_) #[true, false, false, false, false, false, false, false, false, false] rfl rfl (kBG HT_.out (by kernel_rfl)) (fun _ _ _ h => h) (Or.inl ⟨by rfl, ?_⟩) ?_ ?_
         rotate_left
         ·intro w'
          go_simp
          with_reducible rfl
         rotate_left
         ·simp only [Act.put, kzB, kzC, kzD, kAX, kAY]
          rfl
         refine kBN (i := 2) (N := some 43) (v := ?_) (a' := ?_) #[true, false, true, false, false, false, false, false, false, false] rfl rfl (kBG HT_.out (by kernel_rfl)) (fun _ _ _ h => h) (Or.inl ⟨by rfl, ?_⟩) ?_ ?_
         rotate_left
         ·intro w'
          go_simp
          with_reducible rfl
         rotate_left
         ·simp only [Act.put, kzB, kzC, kzD, kAX, kAY]
          rfl
         refine kBN (i := 6) (N := some 47) (v := ?_) (a' := ?_) #[true, false, true, false, false, false, true, false, false, false] rfl rfl (kBG HT_.out (by kernel_rfl)) (fun _ _ _ h => h) (Or.inl ⟨by rfl, ?_⟩) ?_ ?_
         rotate_left
         ·intro w'
          go_simp
          with_reducible rfl
         rotate_left
         ·simp only [Act.put, kzB, kzC, kzD, kAX, kAY]
          rfl
         refine take_ (i := 1) (N := some 42) (v := ?_) (a' := ?_) #[true, true, true, false, false, false, true, false, false, false] rfl rfl (kBX HT_.out HW_.out (by kernel_rfl)) (fun _ _ _ h => h) (Or.inl ⟨by rfl, ?_⟩) hHeld ?_ ?_
         rotate_left
         ·rintro w' ⟨s0, s1, s2, s3, s4, s5, s6⟩
          go_simp
          with_reducible rfl
         rotate_left
         ·simp only [Act.put, kzB, kzC, kzD, kAX, kAY]
          rfl
         refine kBN (i := 3) (N := some 44) (v := ?_) (a' := ?_) #[true, true, true, true, false, false, true, false, false, false] rfl rfl (kBG HT_.out (by kernel_rfl)) (fun _ _ _ h => h) (Or.inl ⟨by rfl, ?_⟩) ?_ ?_
         rotate_left
         ·intro w'
          go_simp
          with_reducible rfl
         rotate_left
         ·simp only [Act.put, kzB, kzC, kzD, kAX, kAY]
          rfl
         refine take_ (i := 4) (N := some 45) (v := ?_) (a' := ?_) #[true, true, true, true, true, false, true, false, false, false] rfl rfl (kBX HT_.out HW_.out (by kernel_rfl)) (fun _ _ _ h => h) (Or.inl ⟨by rfl, ?_⟩) hHeld ?_ ?_
         rotate_left
         ·rintro w' ⟨s0, s1, s2, s3, s4, s5, s6⟩
          go_simp
          with_reducible rfl
         rotate_left
         ·simp only [Act.put, kzB, kzC, kzD, kAX, kAY]
          rfl
         refine kBN (i := 5) (N := some 46) (v := ?_) (a' := ?_) #[true, true, true, true, true, true, true, false, false, false] rfl rfl (kBG HT_.out (by kernel_rfl)) (fun _ _ _ h => h) (Or.inl ⟨by rfl, ?_⟩) ?_ ?_
         rotate_left
         ·intro w'
          go_simp
          with_reducible rfl
         rotate_left
         ·simp only [Act.put, kzB, kzC, kzD, kAX, kAY]
          rfl
         refine take_ (i := 7) (N := some 48) (v := ?_) (a' := ?_) #[true, true, true, true, true, true, true, true, false, false] rfl rfl (kBX HT_.out HW_.out (by kernel_rfl)) (fun _ _ _ h => h) (Or.inl ⟨by rfl, ?_⟩) hHeld ?_ ?_
         rotate_left
         ·rintro w' ⟨s0, s1, s2, s3, s4, s5, s6⟩
          go_simp
          with_reducible rfl
         rotate_left
         ·simp only [Act.put, kzB, kzC, kzD, kAX, kAY]
          rfl
         refine one_ (i := 8) (N := some 49) #[true, true, true, true, true, true, true, true, true, false] rfl rfl (one_of HT_.out (by kernel_rfl)) (by decide) (fun K hK => ?_)
         refine goes_ Tryd.func38 (by kernel_rfl) rfl #[.agg #[.int .i64 a0_0, .int .i64 a0_1, .int .i64 a0_2, .int .i64 a0_3]] (by rfl) rfl rfl (by (try simp only [List.map_toArray, List.map_cons, List.map_nil]); first | done | rfl | (simp only [List.length_drop, List.length_take]; rfl)) ?_
         with_reducible refine (footlockerref23_Blocks.calls k2 a0_0 a0_1 a0_2 a0_3 t366 _ A22.out).mono ?_
         rintro e w26 ⟨rfl, hb⟩
         refine ⟨_, rfl, ?_⟩
         have n0_ := kzA (kAL (g := gb363) (o := .cells #[.int .i64 a0_0, .int .i64 a0_1, .int .i64 a0_2, .int .i64 a0_3, .int .i64 a0_4, .slice (some ad365) l0_5.length c0_5] 38 (0, 0)) (by (with_reducible repeat (first | refine kAH ?_ _ | refine kAI ?_ | refine kAG ?_ _)); exact BK363.out) hb)
         have n1_ := kzA (kAK (by repeat (first | (with_reducible first | exact HB.out | apply kAB | apply kAA | apply kAC | refine kAF ?_ GE363.out) | exact HB.out)) hb)
         clear BK363
         clear HB
         have BK363 := n0_
         have HB := n1_
         clear n0_ n1_
         (try clear hb)
         (try clear hb2)
         (try clear hk)
         (try clear hi)
         refine hK.out _ _ ⟨(kAD BK363.out 0).trans rfl, (kAD BK363.out 1).trans rfl, (kAD BK363.out 2).trans rfl, (kAD BK363.out 3).trans rfl, (kAD BK363.out 4).trans rfl, (kAD BK363.out 5).trans rfl, ((HB.out.cell (World.block_lt_of_cell? w _ hw365_0)).trans hw365_0)⟩ (fun hHeld => ?_)
         clear hK K
         refine norm_ (a' := ?_) ?_ ?_
         rotate_left
         ·show Act.put _ (some 49) _ = _
          simp only [Act.put, kzB, kzC, kzD, kAX, kAY]
          rfl
         refine kBN (i := 9) (N := some 50) (v := ?_) (a' := ?_) #[true, true, true, true, true, true, true, true, true, true] rfl rfl (kBG HT_.out (by kernel_rfl)) (fun _ _ _ h => h) (Or.inl ⟨by rfl, ?_⟩) ?_ ?_
         rotate_left
         ·intro w'
          go_simp
          with_reducible rfl
         rotate_left
         ·simp only [Act.put, kzB, kzC, kzD, kAX, kAY]
          rfl
         refine done_ (done_of HT_.out (by kernel_rfl)) ?_
         try go_wp2
         go_roundg k2
         case measure => have := HJ1.out; have := HK2.out; omega
         case rel => exact ⟨(wrap64 (x3_2 + 1)), (by first | rfl | (simp; done) | (simp [*]; done)), H', ⟨by have := HJ1.out; have := HK2.out; omega⟩, ⟨by (with_reducible repeat (first | refine kAH ?_ _ | refine kAI ?_ | refine kAG ?_ _)); exact BK363.out⟩, ⟨by repeat (first | (with_reducible first | exact HB.out | apply kAB | apply kAA | apply kAC | refine kAF ?_ GE363.out) | exact HB.out)⟩⟩
        ·rw [if_neg c23] at H
         have c23b0 : (((rd_L3 l0_5 x3_2).length : Int) == t366) = false := beq_eq_false_iff_ne.mpr c23
         have c23b1 : (((rd_L3 l0_5 x3_2).length : Int) != t366) = true := bne_iff_ne.mpr c23
         obtain rfl := Option.some.inj H
         have hcz27_0 : wr.cell? ⟨gb363, 0, none⟩ = some (.int .i64 a0_0) := (kAD BK363.out 0).trans rfl
         have hcz27_1 : wr.cell? ⟨gb363, 1, none⟩ = some (.int .i64 a0_1) := (kAD BK363.out 1).trans rfl
         have hcz27_2 : wr.cell? ⟨gb363, 2, none⟩ = some (.int .i64 a0_2) := (kAD BK363.out 2).trans rfl
         have hcz27_3 : wr.cell? ⟨gb363, 3, none⟩ = some (.int .i64 a0_3) := (kAD BK363.out 3).trans rfl
         have hcz27_4 : wr.cell? ⟨gb363, 4, none⟩ = some (.int .i64 a0_4) := (kAD BK363.out 4).trans rfl
         have hcz27_5 : wr.cell? ⟨gb363, 5, none⟩ = some (.slice A0_5 l0_5.length c0_5) := (kAD BK363.out 5).trans rfl
         have hfz27_0 := kAE BK363.out 0
         have hfz27_1 := kAE BK363.out 1
         have hfz27_2 := kAE BK363.out 2
         have hfz27_3 := kAE BK363.out 3
         have hfz27_4 := kAE BK363.out 4
         have hfz27_5 := kAE BK363.out 5
         try go_wp2
         have n0_ := kzA (kAI BK363.out)
         have n1_ := kzA (kAC HB.out)
         clear BK363
         clear HB
         have BK363 := n0_
         have HB := n1_
         clear n0_ n1_
         have p365 : 0 ≤ (x3_2 : Int) := of_decide_eq_true (by first | (with_reducible assumption) | assumption)
         have q365 : x3_2 < (l0_5.length : Int) := of_decide_eq_true (by first | (with_reducible assumption) | assumption)
         obtain ⟨ad365, A365_0, c365_0, e365, hx365_0, hl365_0, hi365_0⟩ := at_L3 HR0_5.out x3_2 p365 q365
         have hw365_0 := hx365_0
         cases e365
         replace hx365_0 := (HB.out.cell (World.block_lt_of_cell? w _ hx365_0)).trans hx365_0
         have HR365_0 := kzA hi365_0
         have HC365_0 := kzA hl365_0
         clear hi365_0 hl365_0
         replace p365 := eq_true p365
         replace q365 := eq_true q365
         refine start_ (n := 10) (S := fun w' => w'.cell? ⟨gb363, 0, none⟩ = some (.int .i64 a0_0) ∧ w'.cell? ⟨gb363, 1, none⟩ = some (.int .i64 a0_1) ∧ w'.cell? ⟨gb363, 2, none⟩ = some (.int .i64 a0_2) ∧ w'.cell? ⟨gb363, 3, none⟩ = some (.int .i64 a0_3) ∧ w'.cell? ⟨gb363, 4, none⟩ = some (.int .i64 a0_4) ∧ w'.cell? ⟨gb363, 5, none⟩ = some (.slice (some ad365) l0_5.length c0_5) ∧ w'.cell? (ad365.add (x3_2).toNat) = some (.slice A365_0 (rd_L3 l0_5 x3_2).length c365_0)) (ds := []) #[false, false, false, false, false, false, false, false, false, false] (by kernel_rfl) rfl rfl ⟨(kAD BK363.out 0).trans rfl, (kAD BK363.out 1).trans rfl, (kAD BK363.out 2).trans rfl, (kAD BK363.out 3).trans rfl, (kAD BK363.out 4).trans rfl, (kAD BK363.out 5).trans rfl, ((HB.out.cell (World.block_lt_of_cell? w _ hw365_0)).trans hw365_0)⟩ (fun hHeld => ?_); refine with_tabW footlockerref24_Right.tab6 footlockerref24_Right.bits6 (fun HT_ HW_ => ?_)
         generalize wr.drew = w28 at BK363 HB HR365_0 hx365_0 hHeld ⊢
         refine kBN (i := 0) (N := some 41) (v := ?_) (a' := ?_) #[true, false, false, false, false, false, false, false, false, false] rfl rfl (kBG HT_.out (by kernel_rfl)) (fun _ _ _ h => h) (Or.inl ⟨by rfl, ?_⟩) ?_ ?_
         rotate_left
         ·intro w'
          go_simp
          with_reducible rfl
         rotate_left
         ·simp only [Act.put, kzB, kzC, kzD, kAX, kAY]
          rfl
         refine kBN (i := 2) (N := some 43) (v := ?_) (a' := ?_) #[true, false, true, false, false, false, false, false, false, false] rfl rfl (kBG HT_.out (by kernel_rfl)) (fun _ _ _ h => h) (Or.inl ⟨by rfl, ?_⟩) ?_ ?_
         rotate_left
         ·intro w'
          go_simp
          with_reducible rfl
         rotate_left
         ·simp only [Act.put, kzB, kzC, kzD, kAX, kAY]
          rfl
         refine kBN (i := 6) (N := some 47) (v := ?_) (a' := ?_) #[true, false, true, false, false, false, true, false, false, false] rfl rfl (kBG HT_.out (by kernel_rfl)) (fun _ _ _ h => h) (Or.inl ⟨by rfl, ?_⟩) ?_ ?_
         rotate_left
         ·intro w'
          go_simp
          with_reducible rfl
         rotate_left
         ·simp only [Act.put, kzB, kzC, kzD, kAX, kAY]
          rfl
         refine take_ (i := 1) (N := some 42) (v := ?_) (a' := ?_) #[true, true, true, false, false, false, true, false, false, false] rfl rfl (kBX HT_.out HW_.out (by kernel_rfl)) (fun _ _ _ h => h) (Or.inl ⟨by rfl, ?_⟩) hHeld ?_ ?_
         rotate_left
         ·rintro w' ⟨s0, s1, s2, s3, s4, s5, s6⟩
          go_simp
          with_reducible rfl
         rotate_left
         ·simp only [Act.put, kzB, kzC, kzD, kAX, kAY]
          rfl
         refine kBN (i := 3) (N := some 44) (v := ?_) (a' := ?_) #[true, true, true, true, false, false, true, false, false, false] rfl rfl (kBG HT_.out (by kernel_rfl)) (fun _ _ _ h => h) (Or.inl ⟨by rfl, ?_⟩) ?_ ?_
         rotate_left
         ·intro w'
          go_simp
          with_reducible rfl
         rotate_left
         ·simp only [Act.put, kzB, kzC, kzD, kAX, kAY]
          rfl
         refine take_ (i := 4) (N := some 45) (v := ?_) (a' := ?_) #[true, true, true, true, true, false, true, false, false, false] rfl rfl (kBX HT_.out HW_.out (by kernel_rfl)) (fun _ _ _ h => h) (Or.inl ⟨by rfl, ?_⟩) hHeld ?_ ?_
         rotate_left
         ·rintro w' ⟨s0, s1, s2, s3, s4, s5, s6⟩
          go_simp
          with_reducible rfl
         rotate_left
         ·simp only [Act.put, kzB, kzC, kzD, kAX, kAY]
          rfl
         refine kBN (i := 5) (N := some 46) (v := ?_) (a' := ?_) #[true, true, true, true, true, true, true, false, false, false] rfl rfl (kBG HT_.out (by kernel_rfl)) (fun _ _ _ h => h) (Or.inl ⟨by rfl, ?_⟩) ?_ ?_
         rotate_left
         ·intro w'
          go_simp
          with_reducible rfl
         rotate_left
         ·simp only [Act.put, kzB, kzC, kzD, kAX, kAY]
          rfl
         refine take_ (i := 7) (N := some 48) (v := ?_) (a' := ?_) #[true, true, true, true, true, true, true, true, false, false] rfl rfl (kBX HT_.out HW_.out (by kernel_rfl)) (fun _ _ _ h => h) (Or.inl ⟨by rfl, ?_⟩) hHeld ?_ ?_
         rotate_left
         ·rintro w' ⟨s0, s1, s2, s3, s4, s5, s6⟩
          go_simp
          with_reducible rfl
         rotate_left
         ·simp only [Act.put, kzB, kzC, kzD, kAX, kAY]
          rfl
         refine one_ (i := 8) (N := some 49) #[true, true, true, true, true, true, true, true, true, false] rfl rfl (one_of HT_.out (by kernel_rfl)) (by decide) (fun K hK => ?_)
         refine goes_ Tryd.func38 (by kernel_rfl) rfl #[.agg #[.int .i64 a0_0, .int .i64 a0_1, .int .i64 a0_2, .int .i64 a0_3]] (by rfl) rfl rfl (by (try simp only [List.map_toArray, List.map_cons, List.map_nil]); first | done | rfl | (simp only [List.length_drop, List.length_take]; rfl)) ?_
         with_reducible refine (footlockerref23_Blocks.calls k2 a0_0 a0_1 a0_2 a0_3 t366 _ A22.out).mono ?_
         rintro e w29 ⟨rfl, hb⟩
         refine ⟨_, rfl, ?_⟩
         have n0_ := kzA (kAL (g := gb363) (o := .cells #[.int .i64 a0_0, .int .i64 a0_1, .int .i64 a0_2, .int .i64 a0_3, .int .i64 a0_4, .slice (some ad365) l0_5.length c0_5] 38 (0, 0)) (by (with_reducible repeat (first | refine kAH ?_ _ | refine kAI ?_ | refine kAG ?_ _)); exact BK363.out) hb)
         have n1_ := kzA (kAK (by repeat (first | (with_reducible first | exact HB.out | apply kAB | apply kAA | apply kAC | refine kAF ?_ GE363.out) | exact HB.out)) hb)
         clear BK363
         clear HB
         have BK363 := n0_
         have HB := n1_
         clear n0_ n1_
         (try clear hb)
         (try clear hb2)
         (try clear hk)
         (try clear hi)
         refine hK.out _ _ ⟨(kAD BK363.out 0).trans rfl, (kAD BK363.out 1).trans rfl, (kAD BK363.out 2).trans rfl, (kAD BK363.out 3).trans rfl, (kAD BK363.out 4).trans rfl, (kAD BK363.out 5).trans rfl, ((HB.out.cell (World.block_lt_of_cell? w _ hw365_0)).trans hw365_0)⟩ (fun hHeld => ?_)
         clear hK K
         refine norm_ (a' := ?_) ?_ ?_
         rotate_left
         ·show Act.put _ (some 49) _ = _
          simp only [Act.put, kzB, kzC, kzD, kAX, kAY]
          rfl
         refine kBN (i := 9) (N := some 50) (v := ?_) (a' := ?_) #[true, true, true, true, true, true, true, true, true, true] rfl rfl (kBG HT_.out (by kernel_rfl)) (fun _ _ _ h => h) (Or.inl ⟨by rfl, ?_⟩) ?_ ?_
         rotate_left
         ·intro w'
          go_simp
          with_reducible rfl
         rotate_left
         ·simp only [Act.put, kzB, kzC, kzD, kAX, kAY]
          rfl
         refine done_ (done_of HT_.out (by kernel_rfl)) ?_
         try go_wp2
         go_ret
         exact ⟨by first | rfl | (simp [kAN, kAM] <;> rfl) | (simp [*, kAN, kAM] <;> rfl), by repeat (first | (with_reducible first | exact HB.out | apply kAB | apply kAA | apply kAC | refine kAF ?_ GE363.out) | exact HB.out)⟩
       ·rw [if_neg c21] at H
        exact absurd H (by simp)
      ·rw [if_neg c20] at H
       have c20b0 : decide (x3_2 < (l0_5.length : Int)) = false := decide_eq_false c20
       clear c20
       obtain rfl := Option.some.inj H
       have hcz30_0 : wr.cell? ⟨gb363, 0, none⟩ = some (.int .i64 a0_0) := (kAD BK363.out 0).trans rfl
       have hcz30_1 : wr.cell? ⟨gb363, 1, none⟩ = some (.int .i64 a0_1) := (kAD BK363.out 1).trans rfl
       have hcz30_2 : wr.cell? ⟨gb363, 2, none⟩ = some (.int .i64 a0_2) := (kAD BK363.out 2).trans rfl
       have hcz30_3 : wr.cell? ⟨gb363, 3, none⟩ = some (.int .i64 a0_3) := (kAD BK363.out 3).trans rfl
       have hcz30_4 : wr.cell? ⟨gb363, 4, none⟩ = some (.int .i64 a0_4) := (kAD BK363.out 4).trans rfl
       have hcz30_5 : wr.cell? ⟨gb363, 5, none⟩ = some (.slice A0_5 l0_5.length c0_5) := (kAD BK363.out 5).trans rfl
       have hfz30_0 := kAE BK363.out 0
       have hfz30_1 := kAE BK363.out 1
       have hfz30_2 := kAE BK363.out 2
       have hfz30_3 := kAE BK363.out 3
       have hfz30_4 := kAE BK363.out 4
       have hfz30_5 := kAE BK363.out 5
       go_wp2
       go_ret
       exact ⟨by first | rfl | (simp [kAN, kAM] <;> rfl) | (simp [*, kAN, kAM] <;> rfl), by repeat (first | (with_reducible first | exact HB.out | apply kAB | apply kAA | apply kAC | refine kAF ?_ GE363.out) | exact HB.out)⟩
def footlockerref01_Join.l0 : Nat → List (List Int) → List Int → Int → Option (List Int)
 | 0, _, _, _ => none
 | k + 1, x0, x3, x4 => if x4 < (x0.length : Int) then (if 0 ≤ x4 then (if x3.length + (rd_L8 x0 x4).length < 140737488355328 then (footlockerref01_Join.l0 k x0 (x3 ++ (rd_L8 x0 x4)) (wrap64 (x4 + 1))) else (none)) else (none)) else (some x3)
def footlockerref01_Join.f (k : Nat) (l0 : List (List Int)) : Option (List Int) := footlockerref01_Join.l0 k l0 (([] : List Int)) 0
set_option maxHeartbeats 8000000 in
set_option maxRecDepth 100000 in
theorem footlockerref01_Join.calls (k : Nat) (A0 : Option Addr) (c0 : Nat) (l0 : List (List Int)) (r : List Int) (w : World) (hr0 : Kd.C (Kd.slice 5 (Kd.int .u8)) w A0 l0.length l0) (hc0 : l0.length ≤ c0) (h : footlockerref01_Join.f k l0 = some r) :
  Calls Tryd.prog 31 #[.slice A0 l0.length c0] w fun e w' => ∃ v0_ : Value, e = .returned (v0_) ∧ Kd.R (Kd.int .u8) 5 w' w.heap.size (fun _ => True) v0_ r ∧ Below w.heap.size w w' := by
 have HR0 := kzA hr0
 have HC0 := kzA hc0
 clear hr0 hc0
 have HB := kzA (Below.refl w.heap.size w)
 have H : (footlockerref01_Join.l0 k l0 (([] : List Int)) 0) = some r := h
 clear h
 obtain ⟨y367, hy367⟩ : ∃ y_ : List Int, y_ = (([] : List Int)) := ⟨_, rfl⟩
 replace H : (footlockerref01_Join.l0 k l0 y367 0) = some r := by first | (rw [hy367]; with_reducible exact H) | (have H2_ := (Option.bind_some _ _).symm.trans H; rw [hy367]; with_reducible exact H2_) | (have H2_ := (Option.bind_some _ _).symm.trans H; with_reducible exact H2_) | with_reducible exact H | (rw [hy367]; exact H) | exact H
 have Ny367 := kzA hy367
 clear hy367
 have H' := kzA H
 clear H
 go_enter Tryd.func31, Tryd.ntmps31
 go_wp2_with (first | ((with_reducible refine kBA (N := 5) rfl ?_); refine Kd.R_lit (Kd.int .u8) _ 5 ?hg (N := 5) ?hd (xs := ([] : List Int)) (inner := []) (ok := fun _ => True) (okp := fun _ => True) ?hr ?hp (fun _ hk => hk) trivial (Below.refl _ _) (Nat.le_refl _) (by simp) ?_; (case hd => rfl); (case hg => rfl); (case hr => first | (go_simp; done) | (go_simp; rfl)); (case hp => exact (Reps.none _ _)); intro v368 w2 ho3 hb hg_ hnew_; clear hg_ hnew_; (first | rw [← Ny367.out] at ho3 | (simp only [Int.reduceToNat] at ho3; rw [← Ny367.out] at ho3)); have n0_ := kzA (Kd.kBO ho3 (kAJ (by repeat (first | (with_reducible first | exact HB.out | apply kAB | apply kAA | apply kAC) | exact HB.out)))); have n1_ := kzA (kAK (by repeat (first | (with_reducible first | exact HB.out | apply kAB | apply kAA | apply kAC) | exact HB.out)) hb); clear HB; have HO369 := n0_; have HB := n1_; clear n0_ n1_; clear hb ho3))
 go_loopg [3, 4] k (fun kq v3 v4 w' => ∃ (x3_1 : List Int) (x4_1 : Int), v4 = .int .i64 x4_1 ∧ Aside0 (footlockerref01_Join.l0 kq l0 x3_1 x4_1 = some r) ∧ Aside0 (kq ≤ k) ∧ Aside0 (Kd.R (Kd.int .u8) 5 w' w.heap.size (fun _ => True) v3 x3_1) ∧ Aside0 (Below w.heap.size w w'))
 case atStart => exact ⟨(y367), (0), (by first | rfl | (simp; done) | (simp [*]; done)), H', ⟨Nat.le_refl _⟩, ⟨by (with_reducible repeat (first | apply Kd.kAP | apply Kd.kAO | apply Kd.kAR)); exact HO369.out⟩, ⟨by repeat (first | (with_reducible first | exact HB.out | apply kAB | apply kAA | apply kAC) | exact HB.out)⟩⟩
 case round =>
  clear H'
  try clear p2
  try clear c3
  obtain ⟨x3_1, x4_1, rfl, HA, HK1, HO_3, HB⟩ := hrel
  cases gk with
  | zero => exact absurd HA.out (by simp [footlockerref01_Join.l0])
  | succ k1 =>
   have H := HA.out
   clear HA
   simp only [footlockerref01_Join.l0] at H
   by_cases c4 : x4_1 < (l0.length : Int)
   ·rw [if_pos c4] at H
    have c4b0 : decide (x4_1 < (l0.length : Int)) = true := decide_eq_true c4
    clear c4
    by_cases c5 : 0 ≤ x4_1
    ·rw [if_pos c5] at H
     have c5b0 : decide (0 ≤ x4_1) = true := decide_eq_true c5
     clear c5
     by_cases c6 : x3_1.length + (rd_L8 l0 x4_1).length < 140737488355328
     ·rw [if_pos c6] at H
      have LMc6 := kzA c6
      clear c6
      obtain ⟨y371, hy371⟩ : ∃ y_ : List Int, y_ = (x3_1 ++ (rd_L8 l0 x4_1)) := ⟨_, rfl⟩
      replace H : (footlockerref01_Join.l0 k1 l0 y371 (wrap64 (x4_1 + 1))) = some r := by first | (rw [hy371]; with_reducible exact H) | (have H2_ := (Option.bind_some _ _).symm.trans H; rw [hy371]; with_reducible exact H2_) | (have H2_ := (Option.bind_some _ _).symm.trans H; with_reducible exact H2_) | with_reducible exact H | (rw [hy371]; exact H) | exact H
      have Ny371 := kzA hy371
      clear hy371
      have H' := kzA H
      clear H
      have p370 : 0 ≤ (x4_1 : Int) := of_decide_eq_true (by first | (with_reducible assumption) | assumption)
      have q370 : x4_1 < (l0.length : Int) := of_decide_eq_true (by first | (with_reducible assumption) | assumption)
      obtain ⟨ad370, A370_0, c370_0, e370, hx370_0, hl370_0, hi370_0⟩ := at_L8 HR0.out x4_1 p370 q370
      cases e370
      replace hx370_0 := (HB.out.cell (World.block_lt_of_cell? w _ hx370_0)).trans hx370_0
      have HR370_0 := kzA hi370_0
      have HC370_0 := kzA hl370_0
      clear hi370_0 hl370_0
      replace p370 := eq_true p370
      replace q370 := eq_true q370
      go_wp2_with (first | ((with_reducible refine kCA (b := .append) (xs := #[.tmp 12, .tmp 16]) rfl ?_); at_builtin; refine Kd.R_append_rows (Kd.int .u8) (w0 := w) w.heap.size rfl (.tmp 12) (.tmp 16) 27 5 (.int .u8 0) 1 rfl Tryd.underlying27 info5 rfl (by decide) (by omega) u3 x3_1 (rd_L8 l0 x4_1) _ _ _ (fun _ => True) (fun _ => False) rfl rfl ?aO ?aR (fun _ _ h => h) (fun _ h => h.elim) ?aF ?aB ?aS ?aL ?_; (case aR => repeat (first | exact (Kd.kCG HR370_0.out HB.out) | (with_reducible refine Kd.kBH ?_ _) | (with_reducible refine Kd.kBF ?_ _) | (with_reducible refine Kd.kBM ?_))); (case aB => exact (by repeat (first | (with_reducible first | exact HB.out | apply kAB | apply kAA | apply kAC) | exact HB.out))); (case aF => exact (fun _ _ => trivial)); (case aO => exact (by (with_reducible repeat (first | apply Kd.kAP | apply Kd.kAO | apply Kd.kAR)); exact HO_3.out)); (case aS => exact (kAJ (by repeat (first | (with_reducible first | exact HB.out | apply kAB | apply kAA | apply kAC) | exact HB.out)))); (case aL => have := LMc6.out; omega); intro v372 w7 ho hb hg hat; rw [← Ny371.out] at ho; have n0_ := kzA (hb); have n1_ := kzA (ho); clear HB; clear HO_3; have HB := n0_; have HO373 := n1_; clear n0_ n1_; clear ho hb hg hat))
      go_roundg k1
      case measure => have := HK1.out; omega
      case rel => exact ⟨(y371), (wrap64 (x4_1 + 1)), (by first | rfl | (simp; done) | (simp [*]; done)), H', ⟨by have := HK1.out; omega⟩, ⟨by (with_reducible repeat (first | apply Kd.kAP | apply Kd.kAO | apply Kd.kAR)); exact HO373.out⟩, ⟨by repeat (first | (with_reducible first | exact HB.out | apply kAB | apply kAA | apply kAC) | exact HB.out)⟩⟩
     ·rw [if_neg c6] at H
      exact absurd H (by simp)
    ·rw [if_neg c5] at H
     exact absurd H (by simp)
   ·rw [if_neg c4] at H
    have c4b0 : decide (x4_1 < (l0.length : Int)) = false := decide_eq_false c4
    clear c4
    obtain rfl := Option.some.inj H
    go_wp2
    go_ret
    exact ⟨_, by first | rfl | (simp [kAN, kAM] <;> rfl) | (simp [*, kAN, kAM] <;> rfl), by (with_reducible repeat (first | apply Kd.kAP | apply Kd.kAO | apply Kd.kAR)); exact HO_3.out, by repeat (first | (with_reducible first | exact HB.out | apply kAB | apply kAA | apply kAC) | exact HB.out)⟩
end Go.Proofs.YtoamamnbapilhaaDoor.X
