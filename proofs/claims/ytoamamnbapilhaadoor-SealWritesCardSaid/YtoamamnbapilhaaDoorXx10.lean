import Derived.Test.YtoamamnbapilhaaDoorXx0
namespace Go.Proofs.YtoamamnbapilhaaDoor.X
open Go.RowKit Go.Proofs.YtoamamnbapilhaaDoorW.PrintWords Go.Proofs.YtoamamnbapilhaaDoorW.PrintLast Go.Proofs.YtoamamnbapilhaaDoorW.PrintMore
attribute [local go_sem] max2_int min2_int max_two min_two max_three min_three max_four min_four
set_option linter.unusedVariables false
set_option linter.unusedSimpArgs false
def footlockerref23_Right.f (a0_0 : Int) (a0_1 : Int) (a0_2 : Int) (a0_3 : Int) : Option (Bool) := if a0_0 ≥ 1 then (if a0_0 ≤ 255 then (if a0_1 ≥ 0 then (if a0_1 ≤ (wrap64 (255 - a0_0)) then (if a0_2 ≥ 5 then (if a0_2 ≤ 16777216 then (if a0_3 ≥ 1 then (some (decide (a0_3 ≤ 16777216))) else (some false)) else (some false)) else (some false)) else (some false)) else (some false)) else (some false)) else (some false)
set_option maxHeartbeats 8000000 in
set_option maxRecDepth 100000 in
theorem footlockerref23_Right.calls (a0_0 : Int) (a0_1 : Int) (a0_2 : Int) (a0_3 : Int) (r : Bool) (w : World) (h : footlockerref23_Right.f a0_0 a0_1 a0_2 a0_3 = some r) :
  Calls Tryd.prog 13 #[.agg #[.int .i64 a0_0, .int .i64 a0_1, .int .i64 a0_2, .int .i64 a0_3]] w fun e w' => e = .returned (.bool r) ∧ Below w.heap.size w w' := by
 have hu36 := Tryd.underlying36
 have HB := kzA (Below.refl w.heap.size w)
 have H : (if a0_0 ≥ 1 then (if a0_0 ≤ 255 then (if a0_1 ≥ 0 then (if a0_1 ≤ (wrap64 (255 - a0_0)) then (if a0_2 ≥ 5 then (if a0_2 ≤ 16777216 then (if a0_3 ≥ 1 then (some (decide (a0_3 ≤ 16777216))) else (some false)) else (some false)) else (some false)) else (some false)) else (some false)) else (some false)) else (some false)) = some r := h
 clear h
 by_cases c2 : a0_0 ≥ 1
 ·rw [if_pos c2] at H
  have c2b0 : decide (1 ≤ a0_0) = true := decide_eq_true c2
  clear c2
  by_cases c3 : a0_0 ≤ 255
  ·rw [if_pos c3] at H
   have c3b0 : decide (a0_0 ≤ 255) = true := decide_eq_true c3
   clear c3
   by_cases c4 : a0_1 ≥ 0
   ·rw [if_pos c4] at H
    have c4b0 : decide (0 ≤ a0_1) = true := decide_eq_true c4
    clear c4
    by_cases c5 : a0_1 ≤ (wrap64 (255 - a0_0))
    ·rw [if_pos c5] at H
     have c5b0 : decide (a0_1 ≤ (wrap64 (255 - a0_0))) = true := decide_eq_true c5
     clear c5
     by_cases c6 : a0_2 ≥ 5
     ·rw [if_pos c6] at H
      have c6b0 : decide (5 ≤ a0_2) = true := decide_eq_true c6
      clear c6
      by_cases c7 : a0_2 ≤ 16777216
      ·rw [if_pos c7] at H
       have c7b0 : decide (a0_2 ≤ 16777216) = true := decide_eq_true c7
       clear c7
       by_cases c8 : a0_3 ≥ 1
       ·rw [if_pos c8] at H
        have c8b0 : decide (1 ≤ a0_3) = true := decide_eq_true c8
        clear c8
        obtain rfl := Option.some.inj H
        go_enter Tryd.func13, Tryd.ntmps13
        go_wp2_with (first | ((with_reducible refine kBA (N := 1) rfl ?_); refine kBD ?hg (N := 1) ?hd (cs := #[.int .i64 a0_0, .int .i64 a0_1, .int .i64 a0_2, .int .i64 a0_3]) (t := 36) ?hr ?_; (case hd => rfl); (case hg => rfl); (case hr => first | (go_simp; done) | (go_simp; rfl)); intro gb358 hg w9 hbox hb; have n0_ := kzA (kAK (by repeat (first | (with_reducible first | exact HB.out | apply kAB | apply kAA | apply kAC) | exact HB.out)) hb); have n1_ := kzA (hbox); have n2_ := kzA ((by rw [hg]; exact (kAJ (by repeat (first | (with_reducible first | exact HB.out | apply kAB | apply kAA | apply kAC) | exact HB.out))) : w.heap.size ≤ gb358)); have n3_ := kzA ((by rw [hg]; exact (kAJ (by repeat (first | (with_reducible first | exact HB.out | apply kAB | apply kAA | apply kAC) | exact HB.out))) : w.heap.size ≤ gb358)); clear HB; have HB := n0_; have BK358 := n1_; have GW358 := n2_; have GE358 := n3_; clear n0_ n1_ n2_ n3_; clear hb hbox hg; have hcz10_0 : w9.cell? ⟨gb358, 0, none⟩ = some (.int .i64 a0_0) := (kAD BK358.out 0).trans rfl; have hcz10_1 : w9.cell? ⟨gb358, 1, none⟩ = some (.int .i64 a0_1) := (kAD BK358.out 1).trans rfl; have hcz10_2 : w9.cell? ⟨gb358, 2, none⟩ = some (.int .i64 a0_2) := (kAD BK358.out 2).trans rfl; have hcz10_3 : w9.cell? ⟨gb358, 3, none⟩ = some (.int .i64 a0_3) := (kAD BK358.out 3).trans rfl; have hfz10_0 := kAE BK358.out 0; have hfz10_1 := kAE BK358.out 1; have hfz10_2 := kAE BK358.out 2; have hfz10_3 := kAE BK358.out 3))
        go_ret
        exact ⟨by first | rfl | (simp [kAN, kAM] <;> rfl) | (simp [*, kAN, kAM] <;> rfl), by repeat (first | (with_reducible first | exact HB.out | apply kAB | apply kAA | apply kAC | refine kAF ?_ GE358.out) | exact HB.out)⟩
       ·rw [if_neg c8] at H
        have c8b0 : decide (1 ≤ a0_3) = false := decide_eq_false c8
        clear c8
        obtain rfl := Option.some.inj H
        go_enter Tryd.func13, Tryd.ntmps13
        go_wp2_with (first | ((with_reducible refine kBA (N := 1) rfl ?_); refine kBD ?hg (N := 1) ?hd (cs := #[.int .i64 a0_0, .int .i64 a0_1, .int .i64 a0_2, .int .i64 a0_3]) (t := 36) ?hr ?_; (case hd => rfl); (case hg => rfl); (case hr => first | (go_simp; done) | (go_simp; rfl)); intro gb358 hg w11 hbox hb; have n0_ := kzA (kAK (by repeat (first | (with_reducible first | exact HB.out | apply kAB | apply kAA | apply kAC) | exact HB.out)) hb); have n1_ := kzA (hbox); have n2_ := kzA ((by rw [hg]; exact (kAJ (by repeat (first | (with_reducible first | exact HB.out | apply kAB | apply kAA | apply kAC) | exact HB.out))) : w.heap.size ≤ gb358)); have n3_ := kzA ((by rw [hg]; exact (kAJ (by repeat (first | (with_reducible first | exact HB.out | apply kAB | apply kAA | apply kAC) | exact HB.out))) : w.heap.size ≤ gb358)); clear HB; have HB := n0_; have BK358 := n1_; have GW358 := n2_; have GE358 := n3_; clear n0_ n1_ n2_ n3_; clear hb hbox hg; have hcz12_0 : w11.cell? ⟨gb358, 0, none⟩ = some (.int .i64 a0_0) := (kAD BK358.out 0).trans rfl; have hcz12_1 : w11.cell? ⟨gb358, 1, none⟩ = some (.int .i64 a0_1) := (kAD BK358.out 1).trans rfl; have hcz12_2 : w11.cell? ⟨gb358, 2, none⟩ = some (.int .i64 a0_2) := (kAD BK358.out 2).trans rfl; have hcz12_3 : w11.cell? ⟨gb358, 3, none⟩ = some (.int .i64 a0_3) := (kAD BK358.out 3).trans rfl; have hfz12_0 := kAE BK358.out 0; have hfz12_1 := kAE BK358.out 1; have hfz12_2 := kAE BK358.out 2; have hfz12_3 := kAE BK358.out 3))
        go_ret
        exact ⟨by first | rfl | (simp [kAN, kAM] <;> rfl) | (simp [*, kAN, kAM] <;> rfl), by repeat (first | (with_reducible first | exact HB.out | apply kAB | apply kAA | apply kAC | refine kAF ?_ GE358.out) | exact HB.out)⟩
      ·rw [if_neg c7] at H
       have c7b0 : decide (a0_2 ≤ 16777216) = false := decide_eq_false c7
       clear c7
       obtain rfl := Option.some.inj H
       go_enter Tryd.func13, Tryd.ntmps13
       go_wp2_with (first | ((with_reducible refine kBA (N := 1) rfl ?_); refine kBD ?hg (N := 1) ?hd (cs := #[.int .i64 a0_0, .int .i64 a0_1, .int .i64 a0_2, .int .i64 a0_3]) (t := 36) ?hr ?_; (case hd => rfl); (case hg => rfl); (case hr => first | (go_simp; done) | (go_simp; rfl)); intro gb358 hg w13 hbox hb; have n0_ := kzA (kAK (by repeat (first | (with_reducible first | exact HB.out | apply kAB | apply kAA | apply kAC) | exact HB.out)) hb); have n1_ := kzA (hbox); have n2_ := kzA ((by rw [hg]; exact (kAJ (by repeat (first | (with_reducible first | exact HB.out | apply kAB | apply kAA | apply kAC) | exact HB.out))) : w.heap.size ≤ gb358)); have n3_ := kzA ((by rw [hg]; exact (kAJ (by repeat (first | (with_reducible first | exact HB.out | apply kAB | apply kAA | apply kAC) | exact HB.out))) : w.heap.size ≤ gb358)); clear HB; have HB := n0_; have BK358 := n1_; have GW358 := n2_; have GE358 := n3_; clear n0_ n1_ n2_ n3_; clear hb hbox hg; have hcz14_0 : w13.cell? ⟨gb358, 0, none⟩ = some (.int .i64 a0_0) := (kAD BK358.out 0).trans rfl; have hcz14_1 : w13.cell? ⟨gb358, 1, none⟩ = some (.int .i64 a0_1) := (kAD BK358.out 1).trans rfl; have hcz14_2 : w13.cell? ⟨gb358, 2, none⟩ = some (.int .i64 a0_2) := (kAD BK358.out 2).trans rfl; have hcz14_3 : w13.cell? ⟨gb358, 3, none⟩ = some (.int .i64 a0_3) := (kAD BK358.out 3).trans rfl; have hfz14_0 := kAE BK358.out 0; have hfz14_1 := kAE BK358.out 1; have hfz14_2 := kAE BK358.out 2; have hfz14_3 := kAE BK358.out 3))
       go_ret
       exact ⟨by first | rfl | (simp [kAN, kAM] <;> rfl) | (simp [*, kAN, kAM] <;> rfl), by repeat (first | (with_reducible first | exact HB.out | apply kAB | apply kAA | apply kAC | refine kAF ?_ GE358.out) | exact HB.out)⟩
     ·rw [if_neg c6] at H
      have c6b0 : decide (5 ≤ a0_2) = false := decide_eq_false c6
      clear c6
      obtain rfl := Option.some.inj H
      go_enter Tryd.func13, Tryd.ntmps13
      go_wp2_with (first | ((with_reducible refine kBA (N := 1) rfl ?_); refine kBD ?hg (N := 1) ?hd (cs := #[.int .i64 a0_0, .int .i64 a0_1, .int .i64 a0_2, .int .i64 a0_3]) (t := 36) ?hr ?_; (case hd => rfl); (case hg => rfl); (case hr => first | (go_simp; done) | (go_simp; rfl)); intro gb358 hg w15 hbox hb; have n0_ := kzA (kAK (by repeat (first | (with_reducible first | exact HB.out | apply kAB | apply kAA | apply kAC) | exact HB.out)) hb); have n1_ := kzA (hbox); have n2_ := kzA ((by rw [hg]; exact (kAJ (by repeat (first | (with_reducible first | exact HB.out | apply kAB | apply kAA | apply kAC) | exact HB.out))) : w.heap.size ≤ gb358)); have n3_ := kzA ((by rw [hg]; exact (kAJ (by repeat (first | (with_reducible first | exact HB.out | apply kAB | apply kAA | apply kAC) | exact HB.out))) : w.heap.size ≤ gb358)); clear HB; have HB := n0_; have BK358 := n1_; have GW358 := n2_; have GE358 := n3_; clear n0_ n1_ n2_ n3_; clear hb hbox hg; have hcz16_0 : w15.cell? ⟨gb358, 0, none⟩ = some (.int .i64 a0_0) := (kAD BK358.out 0).trans rfl; have hcz16_1 : w15.cell? ⟨gb358, 1, none⟩ = some (.int .i64 a0_1) := (kAD BK358.out 1).trans rfl; have hcz16_2 : w15.cell? ⟨gb358, 2, none⟩ = some (.int .i64 a0_2) := (kAD BK358.out 2).trans rfl; have hcz16_3 : w15.cell? ⟨gb358, 3, none⟩ = some (.int .i64 a0_3) := (kAD BK358.out 3).trans rfl; have hfz16_0 := kAE BK358.out 0; have hfz16_1 := kAE BK358.out 1; have hfz16_2 := kAE BK358.out 2; have hfz16_3 := kAE BK358.out 3))
      go_ret
      exact ⟨by first | rfl | (simp [kAN, kAM] <;> rfl) | (simp [*, kAN, kAM] <;> rfl), by repeat (first | (with_reducible first | exact HB.out | apply kAB | apply kAA | apply kAC | refine kAF ?_ GE358.out) | exact HB.out)⟩
    ·rw [if_neg c5] at H
     have c5b0 : decide (a0_1 ≤ (wrap64 (255 - a0_0))) = false := decide_eq_false c5
     clear c5
     obtain rfl := Option.some.inj H
     go_enter Tryd.func13, Tryd.ntmps13
     go_wp2_with (first | ((with_reducible refine kBA (N := 1) rfl ?_); refine kBD ?hg (N := 1) ?hd (cs := #[.int .i64 a0_0, .int .i64 a0_1, .int .i64 a0_2, .int .i64 a0_3]) (t := 36) ?hr ?_; (case hd => rfl); (case hg => rfl); (case hr => first | (go_simp; done) | (go_simp; rfl)); intro gb358 hg w17 hbox hb; have n0_ := kzA (kAK (by repeat (first | (with_reducible first | exact HB.out | apply kAB | apply kAA | apply kAC) | exact HB.out)) hb); have n1_ := kzA (hbox); have n2_ := kzA ((by rw [hg]; exact (kAJ (by repeat (first | (with_reducible first | exact HB.out | apply kAB | apply kAA | apply kAC) | exact HB.out))) : w.heap.size ≤ gb358)); have n3_ := kzA ((by rw [hg]; exact (kAJ (by repeat (first | (with_reducible first | exact HB.out | apply kAB | apply kAA | apply kAC) | exact HB.out))) : w.heap.size ≤ gb358)); clear HB; have HB := n0_; have BK358 := n1_; have GW358 := n2_; have GE358 := n3_; clear n0_ n1_ n2_ n3_; clear hb hbox hg; have hcz18_0 : w17.cell? ⟨gb358, 0, none⟩ = some (.int .i64 a0_0) := (kAD BK358.out 0).trans rfl; have hcz18_1 : w17.cell? ⟨gb358, 1, none⟩ = some (.int .i64 a0_1) := (kAD BK358.out 1).trans rfl; have hcz18_2 : w17.cell? ⟨gb358, 2, none⟩ = some (.int .i64 a0_2) := (kAD BK358.out 2).trans rfl; have hcz18_3 : w17.cell? ⟨gb358, 3, none⟩ = some (.int .i64 a0_3) := (kAD BK358.out 3).trans rfl; have hfz18_0 := kAE BK358.out 0; have hfz18_1 := kAE BK358.out 1; have hfz18_2 := kAE BK358.out 2; have hfz18_3 := kAE BK358.out 3))
     go_ret
     exact ⟨by first | rfl | (simp [kAN, kAM] <;> rfl) | (simp [*, kAN, kAM] <;> rfl), by repeat (first | (with_reducible first | exact HB.out | apply kAB | apply kAA | apply kAC | refine kAF ?_ GE358.out) | exact HB.out)⟩
   ·rw [if_neg c4] at H
    have c4b0 : decide (0 ≤ a0_1) = false := decide_eq_false c4
    clear c4
    obtain rfl := Option.some.inj H
    go_enter Tryd.func13, Tryd.ntmps13
    go_wp2_with (first | ((with_reducible refine kBA (N := 1) rfl ?_); refine kBD ?hg (N := 1) ?hd (cs := #[.int .i64 a0_0, .int .i64 a0_1, .int .i64 a0_2, .int .i64 a0_3]) (t := 36) ?hr ?_; (case hd => rfl); (case hg => rfl); (case hr => first | (go_simp; done) | (go_simp; rfl)); intro gb358 hg w19 hbox hb; have n0_ := kzA (kAK (by repeat (first | (with_reducible first | exact HB.out | apply kAB | apply kAA | apply kAC) | exact HB.out)) hb); have n1_ := kzA (hbox); have n2_ := kzA ((by rw [hg]; exact (kAJ (by repeat (first | (with_reducible first | exact HB.out | apply kAB | apply kAA | apply kAC) | exact HB.out))) : w.heap.size ≤ gb358)); have n3_ := kzA ((by rw [hg]; exact (kAJ (by repeat (first | (with_reducible first | exact HB.out | apply kAB | apply kAA | apply kAC) | exact HB.out))) : w.heap.size ≤ gb358)); clear HB; have HB := n0_; have BK358 := n1_; have GW358 := n2_; have GE358 := n3_; clear n0_ n1_ n2_ n3_; clear hb hbox hg; have hcz20_0 : w19.cell? ⟨gb358, 0, none⟩ = some (.int .i64 a0_0) := (kAD BK358.out 0).trans rfl; have hcz20_1 : w19.cell? ⟨gb358, 1, none⟩ = some (.int .i64 a0_1) := (kAD BK358.out 1).trans rfl; have hcz20_2 : w19.cell? ⟨gb358, 2, none⟩ = some (.int .i64 a0_2) := (kAD BK358.out 2).trans rfl; have hcz20_3 : w19.cell? ⟨gb358, 3, none⟩ = some (.int .i64 a0_3) := (kAD BK358.out 3).trans rfl; have hfz20_0 := kAE BK358.out 0; have hfz20_1 := kAE BK358.out 1; have hfz20_2 := kAE BK358.out 2; have hfz20_3 := kAE BK358.out 3))
    go_ret
    exact ⟨by first | rfl | (simp [kAN, kAM] <;> rfl) | (simp [*, kAN, kAM] <;> rfl), by repeat (first | (with_reducible first | exact HB.out | apply kAB | apply kAA | apply kAC | refine kAF ?_ GE358.out) | exact HB.out)⟩
  ·rw [if_neg c3] at H
   have c3b0 : decide (a0_0 ≤ 255) = false := decide_eq_false c3
   clear c3
   obtain rfl := Option.some.inj H
   go_enter Tryd.func13, Tryd.ntmps13
   go_wp2_with (first | ((with_reducible refine kBA (N := 1) rfl ?_); refine kBD ?hg (N := 1) ?hd (cs := #[.int .i64 a0_0, .int .i64 a0_1, .int .i64 a0_2, .int .i64 a0_3]) (t := 36) ?hr ?_; (case hd => rfl); (case hg => rfl); (case hr => first | (go_simp; done) | (go_simp; rfl)); intro gb358 hg w21 hbox hb; have n0_ := kzA (kAK (by repeat (first | (with_reducible first | exact HB.out | apply kAB | apply kAA | apply kAC) | exact HB.out)) hb); have n1_ := kzA (hbox); have n2_ := kzA ((by rw [hg]; exact (kAJ (by repeat (first | (with_reducible first | exact HB.out | apply kAB | apply kAA | apply kAC) | exact HB.out))) : w.heap.size ≤ gb358)); have n3_ := kzA ((by rw [hg]; exact (kAJ (by repeat (first | (with_reducible first | exact HB.out | apply kAB | apply kAA | apply kAC) | exact HB.out))) : w.heap.size ≤ gb358)); clear HB; have HB := n0_; have BK358 := n1_; have GW358 := n2_; have GE358 := n3_; clear n0_ n1_ n2_ n3_; clear hb hbox hg; have hcz22_0 : w21.cell? ⟨gb358, 0, none⟩ = some (.int .i64 a0_0) := (kAD BK358.out 0).trans rfl; have hcz22_1 : w21.cell? ⟨gb358, 1, none⟩ = some (.int .i64 a0_1) := (kAD BK358.out 1).trans rfl; have hcz22_2 : w21.cell? ⟨gb358, 2, none⟩ = some (.int .i64 a0_2) := (kAD BK358.out 2).trans rfl; have hcz22_3 : w21.cell? ⟨gb358, 3, none⟩ = some (.int .i64 a0_3) := (kAD BK358.out 3).trans rfl; have hfz22_0 := kAE BK358.out 0; have hfz22_1 := kAE BK358.out 1; have hfz22_2 := kAE BK358.out 2; have hfz22_3 := kAE BK358.out 3))
   go_ret
   exact ⟨by first | rfl | (simp [kAN, kAM] <;> rfl) | (simp [*, kAN, kAM] <;> rfl), by repeat (first | (with_reducible first | exact HB.out | apply kAB | apply kAA | apply kAC | refine kAF ?_ GE358.out) | exact HB.out)⟩
 ·rw [if_neg c2] at H
  have c2b0 : decide (1 ≤ a0_0) = false := decide_eq_false c2
  clear c2
  obtain rfl := Option.some.inj H
  go_enter Tryd.func13, Tryd.ntmps13
  go_wp2_with (first | ((with_reducible refine kBA (N := 1) rfl ?_); refine kBD ?hg (N := 1) ?hd (cs := #[.int .i64 a0_0, .int .i64 a0_1, .int .i64 a0_2, .int .i64 a0_3]) (t := 36) ?hr ?_; (case hd => rfl); (case hg => rfl); (case hr => first | (go_simp; done) | (go_simp; rfl)); intro gb358 hg w23 hbox hb; have n0_ := kzA (kAK (by repeat (first | (with_reducible first | exact HB.out | apply kAB | apply kAA | apply kAC) | exact HB.out)) hb); have n1_ := kzA (hbox); have n2_ := kzA ((by rw [hg]; exact (kAJ (by repeat (first | (with_reducible first | exact HB.out | apply kAB | apply kAA | apply kAC) | exact HB.out))) : w.heap.size ≤ gb358)); have n3_ := kzA ((by rw [hg]; exact (kAJ (by repeat (first | (with_reducible first | exact HB.out | apply kAB | apply kAA | apply kAC) | exact HB.out))) : w.heap.size ≤ gb358)); clear HB; have HB := n0_; have BK358 := n1_; have GW358 := n2_; have GE358 := n3_; clear n0_ n1_ n2_ n3_; clear hb hbox hg; have hcz24_0 : w23.cell? ⟨gb358, 0, none⟩ = some (.int .i64 a0_0) := (kAD BK358.out 0).trans rfl; have hcz24_1 : w23.cell? ⟨gb358, 1, none⟩ = some (.int .i64 a0_1) := (kAD BK358.out 1).trans rfl; have hcz24_2 : w23.cell? ⟨gb358, 2, none⟩ = some (.int .i64 a0_2) := (kAD BK358.out 2).trans rfl; have hcz24_3 : w23.cell? ⟨gb358, 3, none⟩ = some (.int .i64 a0_3) := (kAD BK358.out 3).trans rfl; have hfz24_0 := kAE BK358.out 0; have hfz24_1 := kAE BK358.out 1; have hfz24_2 := kAE BK358.out 2; have hfz24_3 := kAE BK358.out 3))
  go_ret
  exact ⟨by first | rfl | (simp [kAN, kAM] <;> rfl) | (simp [*, kAN, kAM] <;> rfl), by repeat (first | (with_reducible first | exact HB.out | apply kAB | apply kAA | apply kAC | refine kAF ?_ GE358.out) | exact HB.out)⟩
def footlockerlaw24_small.l0 : Nat → List (List Int) → Int → Int → Int → Int → Int → Int → Int → List (List Int) → Option (Bool)
 | 0, _, _, _, _, _, _, _, _, _ => none
 | k + 1, x6, x7, x8, x360000, x360001, x360002, x360003, x360004, x360005 => if x8 < x7 then (if 0 ≤ x8 then (if x8 < (x6.length : Int) then (if ((rd_L3 x6 x8).length : Int) > 60 then (some false) else (footlockerlaw24_small.l0 k x6 x7 (wrap64 (x8 + 1)) x360000 x360001 x360002 x360003 x360004 x360005)) else (none)) else (none)) else (if (x360005.length : Int) ≤ 20 then ((footlockerref23_Right.f x360000 x360001 x360002 x360003).bind fun t361 => (if t361 = true then (if x360002 ≤ 1000 then (some (decide ((wrap64 (x360000 + x360001)) ≤ 20))) else (some false)) else (some true))) else (some false))
def footlockerlaw24_small.f (k : Nat) (a0_0 : Int) (a0_1 : Int) (a0_2 : Int) (a0_3 : Int) (a0_4 : Int) (l0_5 : List (List Int)) : Option (Bool) := footlockerlaw24_small.l0 k l0_5 (l0_5.length : Int) 0 a0_0 a0_1 a0_2 a0_3 a0_4 l0_5
set_option maxHeartbeats 8000000 in
set_option maxRecDepth 100000 in
theorem footlockerlaw24_small.calls (k : Nat) (a0_0 : Int) (a0_1 : Int) (a0_2 : Int) (a0_3 : Int) (a0_4 : Int) (A0_5 : Option Addr) (c0_5 : Nat) (l0_5 : List (List Int)) (r : Bool) (w : World) (hr0_5 : Kd.C (Kd.slice 54 (Kd.int .u32)) w A0_5 l0_5.length l0_5) (hc0_5 : l0_5.length ≤ c0_5) (h : footlockerlaw24_small.f k a0_0 a0_1 a0_2 a0_3 a0_4 l0_5 = some r) :
  Calls Tryd.prog 8 #[.agg #[.int .i64 a0_0, .int .i64 a0_1, .int .i64 a0_2, .int .i64 a0_3, .int .i64 a0_4, .slice A0_5 l0_5.length c0_5]] w fun e w' => e = .returned (.bool r) ∧ Below w.heap.size w w' := by
 have hu26 := Tryd.underlying26
 have hu23 := Tryd.underlying23
 have HR0_5 := kzA hr0_5
 have HC0_5 := kzA hc0_5
 clear hr0_5 hc0_5
 have HB := kzA (Below.refl w.heap.size w)
 have H : (footlockerlaw24_small.l0 k l0_5 (l0_5.length : Int) 0 a0_0 a0_1 a0_2 a0_3 a0_4 l0_5) = some r := h
 clear h
 have H' := kzA H
 clear H
 go_enter Tryd.func8, Tryd.ntmps8
 go_wp2_with (first | ((with_reducible refine kBA (N := 1) rfl ?_); refine kBD ?hg (N := 1) ?hd (cs := #[.int .i64 a0_0, .int .i64 a0_1, .int .i64 a0_2, .int .i64 a0_3, .int .i64 a0_4, .slice A0_5 l0_5.length c0_5]) (t := 26) ?hr ?_; (case hd => rfl); (case hg => rfl); (case hr => first | (go_simp; done) | (go_simp; rfl)); intro gb359 hg w2 hbox hb; have n0_ := kzA (kAK (by repeat (first | (with_reducible first | exact HB.out | apply kAB | apply kAA | apply kAC) | exact HB.out)) hb); have n1_ := kzA (hbox); have n2_ := kzA ((by rw [hg]; exact (kAJ (by repeat (first | (with_reducible first | exact HB.out | apply kAB | apply kAA | apply kAC) | exact HB.out))) : w.heap.size ≤ gb359)); have n3_ := kzA ((by rw [hg]; exact (kAJ (by repeat (first | (with_reducible first | exact HB.out | apply kAB | apply kAA | apply kAC) | exact HB.out))) : w.heap.size ≤ gb359)); clear HB; have HB := n0_; have BK359 := n1_; have GW359 := n2_; have GE359 := n3_; clear n0_ n1_ n2_ n3_; clear hb hbox hg; have hcz3_0 : w2.cell? ⟨gb359, 0, none⟩ = some (.int .i64 a0_0) := (kAD BK359.out 0).trans rfl; have hcz3_1 : w2.cell? ⟨gb359, 1, none⟩ = some (.int .i64 a0_1) := (kAD BK359.out 1).trans rfl; have hcz3_2 : w2.cell? ⟨gb359, 2, none⟩ = some (.int .i64 a0_2) := (kAD BK359.out 2).trans rfl; have hcz3_3 : w2.cell? ⟨gb359, 3, none⟩ = some (.int .i64 a0_3) := (kAD BK359.out 3).trans rfl; have hcz3_4 : w2.cell? ⟨gb359, 4, none⟩ = some (.int .i64 a0_4) := (kAD BK359.out 4).trans rfl; have hcz3_5 : w2.cell? ⟨gb359, 5, none⟩ = some (.slice A0_5 l0_5.length c0_5) := (kAD BK359.out 5).trans rfl; have hfz3_0 := kAE BK359.out 0; have hfz3_1 := kAE BK359.out 1; have hfz3_2 := kAE BK359.out 2; have hfz3_3 := kAE BK359.out 3; have hfz3_4 := kAE BK359.out 4; have hfz3_5 := kAE BK359.out 5))
 go_loopg [8] k (fun kq v8 w' => ∃ (x8_1 : Int), v8 = .int .i64 x8_1 ∧ Aside0 (footlockerlaw24_small.l0 kq l0_5 (l0_5.length : Int) x8_1 a0_0 a0_1 a0_2 a0_3 a0_4 l0_5 = some r) ∧ Aside0 (kq ≤ k) ∧ Aside0 (w'.heap[gb359]? = some (.cells #[.int .i64 a0_0, .int .i64 a0_1, .int .i64 a0_2, .int .i64 a0_3, .int .i64 a0_4, (.slice A0_5 l0_5.length c0_5)] 26 (0, 0))) ∧ Aside0 (Below w.heap.size w w'))
 case atStart => exact ⟨(0), (by first | rfl | (simp; done) | (simp [*]; done)), H', ⟨Nat.le_refl _⟩, ⟨by (with_reducible repeat (first | refine kAH ?_ _ | refine kAI ?_ | refine kAG ?_ _)); exact BK359.out⟩, ⟨by repeat (first | (with_reducible first | exact HB.out | apply kAB | apply kAA | apply kAC | refine kAF ?_ GE359.out) | exact HB.out)⟩⟩
 case round =>
  clear H'
  try clear p2
  try clear hcz3_0
  try clear hcz3_1
  try clear hcz3_2
  try clear hcz3_3
  try clear hcz3_4
  try clear hcz3_5
  try clear hfz3_0
  try clear hfz3_1
  try clear hfz3_2
  try clear hfz3_3
  try clear hfz3_4
  try clear hfz3_5
  obtain ⟨x8_1, rfl, HA, HK1, BK359, HB⟩ := hrel
  cases gk with
  | zero => exact absurd HA.out (by simp [footlockerlaw24_small.l0])
  | succ k1 =>
   have H := HA.out
   clear HA
   simp only [footlockerlaw24_small.l0] at H
   by_cases c4 : x8_1 < (l0_5.length : Int)
   ·rw [if_pos c4] at H
    have c4b0 : decide (x8_1 < (l0_5.length : Int)) = true := decide_eq_true c4
    clear c4
    by_cases c5 : 0 ≤ x8_1
    ·rw [if_pos c5] at H
     have c5b0 : decide (0 ≤ x8_1) = true := decide_eq_true c5
     clear c5
     by_cases c6 : x8_1 < (l0_5.length : Int)
     ·rw [if_pos c6] at H
      have c6b0 : decide (x8_1 < (l0_5.length : Int)) = true := decide_eq_true c6
      clear c6
      by_cases c7 : ((rd_L3 l0_5 x8_1).length : Int) > 60
      ·rw [if_pos c7] at H
       have c7b0 : decide (60 < ((rd_L3 l0_5 x8_1).length : Int)) = true := decide_eq_true c7
       have c7b1 : decide (60 < (rd_L3 l0_5 x8_1).length) = true := decide_eq_true (by omega)
       clear c7
       obtain rfl := Option.some.inj H
       have p360 : 0 ≤ (x8_1 : Int) := of_decide_eq_true (by first | (with_reducible assumption) | assumption)
       have q360 : x8_1 < (l0_5.length : Int) := of_decide_eq_true (by first | (with_reducible assumption) | assumption)
       obtain ⟨ad360, A360_0, c360_0, e360, hx360_0, hl360_0, hi360_0⟩ := at_L3 HR0_5.out x8_1 p360 q360
       cases e360
       replace hx360_0 := (HB.out.cell (World.block_lt_of_cell? w _ hx360_0)).trans hx360_0
       have HR360_0 := kzA hi360_0
       have HC360_0 := kzA hl360_0
       clear hi360_0 hl360_0
       replace p360 := eq_true p360
       replace q360 := eq_true q360
       go_wp2
       go_ret
       exact ⟨by first | rfl | (simp [kAN, kAM] <;> rfl) | (simp [*, kAN, kAM] <;> rfl), by repeat (first | (with_reducible first | exact HB.out | apply kAB | apply kAA | apply kAC | refine kAF ?_ GE359.out) | exact HB.out)⟩
      ·rw [if_neg c7] at H
       have c7b0 : decide (60 < ((rd_L3 l0_5 x8_1).length : Int)) = false := decide_eq_false c7
       have c7b1 : decide (60 < (rd_L3 l0_5 x8_1).length) = false := decide_eq_false (by omega)
       clear c7
       have H' := kzA H
       clear H
       have p360 : 0 ≤ (x8_1 : Int) := of_decide_eq_true (by first | (with_reducible assumption) | assumption)
       have q360 : x8_1 < (l0_5.length : Int) := of_decide_eq_true (by first | (with_reducible assumption) | assumption)
       obtain ⟨ad360, A360_0, c360_0, e360, hx360_0, hl360_0, hi360_0⟩ := at_L3 HR0_5.out x8_1 p360 q360
       cases e360
       replace hx360_0 := (HB.out.cell (World.block_lt_of_cell? w _ hx360_0)).trans hx360_0
       have HR360_0 := kzA hi360_0
       have HC360_0 := kzA hl360_0
       clear hi360_0 hl360_0
       replace p360 := eq_true p360
       replace q360 := eq_true q360
       go_wp2
       go_roundg k1
       case measure => have := HK1.out; omega
       case rel => exact ⟨(wrap64 (x8_1 + 1)), (by first | rfl | (simp; done) | (simp [*]; done)), H', ⟨by have := HK1.out; omega⟩, ⟨by (with_reducible repeat (first | refine kAH ?_ _ | refine kAI ?_ | refine kAG ?_ _)); exact BK359.out⟩, ⟨by repeat (first | (with_reducible first | exact HB.out | apply kAB | apply kAA | apply kAC | refine kAF ?_ GE359.out) | exact HB.out)⟩⟩
     ·rw [if_neg c6] at H
      exact absurd H (by simp)
    ·rw [if_neg c5] at H
     exact absurd H (by simp)
   ·rw [if_neg c4] at H
    have c4b0 : decide (x8_1 < (l0_5.length : Int)) = false := decide_eq_false c4
    clear c4
    by_cases c8 : (l0_5.length : Int) ≤ 20
    ·rw [if_pos c8] at H
     have c8b0 : decide ((l0_5.length : Int) ≤ 20) = true := decide_eq_true c8
     have c8b1 : decide (l0_5.length ≤ 20) = true := decide_eq_true (by omega)
     clear c8
     replace H := Option.bind_eq_some_iff.mp H
     obtain ⟨t361, A90, H⟩ := H
     replace H : (if t361 = true then (if a0_2 ≤ 1000 then (some (decide ((wrap64 (a0_0 + a0_1)) ≤ 20))) else (some false)) else (some true)) = some r := H
     have A9 := kzA A90
     clear A90
     by_cases c10 : t361 = true
     ·subst c10
      have H1 : (if a0_2 ≤ 1000 then (some (decide ((wrap64 (a0_0 + a0_1)) ≤ 20))) else (some false)) = some r := by rw [if_pos rfl] at H; exact H
      clear H
      have H := H1
      clear H1
      by_cases c11 : a0_2 ≤ 1000
      ·rw [if_pos c11] at H
       have c11b0 : decide (a0_2 ≤ 1000) = true := decide_eq_true c11
       clear c11
       obtain rfl := Option.some.inj H
       have hcz12_0 : wr.cell? ⟨gb359, 0, none⟩ = some (.int .i64 a0_0) := (kAD BK359.out 0).trans rfl
       have hcz12_1 : wr.cell? ⟨gb359, 1, none⟩ = some (.int .i64 a0_1) := (kAD BK359.out 1).trans rfl
       have hcz12_2 : wr.cell? ⟨gb359, 2, none⟩ = some (.int .i64 a0_2) := (kAD BK359.out 2).trans rfl
       have hcz12_3 : wr.cell? ⟨gb359, 3, none⟩ = some (.int .i64 a0_3) := (kAD BK359.out 3).trans rfl
       have hcz12_4 : wr.cell? ⟨gb359, 4, none⟩ = some (.int .i64 a0_4) := (kAD BK359.out 4).trans rfl
       have hcz12_5 : wr.cell? ⟨gb359, 5, none⟩ = some (.slice A0_5 l0_5.length c0_5) := (kAD BK359.out 5).trans rfl
       have hfz12_0 := kAE BK359.out 0
       have hfz12_1 := kAE BK359.out 1
       have hfz12_2 := kAE BK359.out 2
       have hfz12_3 := kAE BK359.out 3
       have hfz12_4 := kAE BK359.out 4
       have hfz12_5 := kAE BK359.out 5
       go_wp2_with (first | (go_at_call 13; (with_reducible refine (footlockerref23_Right.calls a0_0 a0_1 a0_2 a0_3 true _ A9.out).mono ?_); rintro e w13 ⟨rfl, hb⟩; have n0_ := kzA (kAL (g := gb359) (o := .cells #[.int .i64 a0_0, .int .i64 a0_1, .int .i64 a0_2, .int .i64 a0_3, .int .i64 a0_4, .slice A0_5 l0_5.length c0_5] 26 (0, 0)) (by (with_reducible repeat (first | refine kAH ?_ _ | refine kAI ?_ | refine kAG ?_ _)); exact BK359.out) hb); have n1_ := kzA (kAK (by repeat (first | (with_reducible first | exact HB.out | apply kAB | apply kAA | apply kAC | refine kAF ?_ GE359.out) | exact HB.out)) hb); clear BK359; clear HB; have BK359 := n0_; have HB := n1_; clear n0_ n1_; (try clear hb); (try clear hb2); (try clear hk); (try clear hi); have hcz14_0 : w13.cell? ⟨gb359, 0, none⟩ = some (.int .i64 a0_0) := (kAD BK359.out 0).trans rfl; have hcz14_1 : w13.cell? ⟨gb359, 1, none⟩ = some (.int .i64 a0_1) := (kAD BK359.out 1).trans rfl; have hcz14_2 : w13.cell? ⟨gb359, 2, none⟩ = some (.int .i64 a0_2) := (kAD BK359.out 2).trans rfl; have hcz14_3 : w13.cell? ⟨gb359, 3, none⟩ = some (.int .i64 a0_3) := (kAD BK359.out 3).trans rfl; have hcz14_4 : w13.cell? ⟨gb359, 4, none⟩ = some (.int .i64 a0_4) := (kAD BK359.out 4).trans rfl; have hcz14_5 : w13.cell? ⟨gb359, 5, none⟩ = some (.slice A0_5 l0_5.length c0_5) := (kAD BK359.out 5).trans rfl; have hfz14_0 := kAE BK359.out 0; have hfz14_1 := kAE BK359.out 1; have hfz14_2 := kAE BK359.out 2; have hfz14_3 := kAE BK359.out 3; have hfz14_4 := kAE BK359.out 4; have hfz14_5 := kAE BK359.out 5))
       go_ret
       exact ⟨by first | rfl | (simp [kAN, kAM] <;> rfl) | (simp [*, kAN, kAM] <;> rfl), by repeat (first | (with_reducible first | exact HB.out | apply kAB | apply kAA | apply kAC | refine kAF ?_ GE359.out) | exact HB.out)⟩
      ·rw [if_neg c11] at H
       have c11b0 : decide (a0_2 ≤ 1000) = false := decide_eq_false c11
       clear c11
       obtain rfl := Option.some.inj H
       have hcz15_0 : wr.cell? ⟨gb359, 0, none⟩ = some (.int .i64 a0_0) := (kAD BK359.out 0).trans rfl
       have hcz15_1 : wr.cell? ⟨gb359, 1, none⟩ = some (.int .i64 a0_1) := (kAD BK359.out 1).trans rfl
       have hcz15_2 : wr.cell? ⟨gb359, 2, none⟩ = some (.int .i64 a0_2) := (kAD BK359.out 2).trans rfl
       have hcz15_3 : wr.cell? ⟨gb359, 3, none⟩ = some (.int .i64 a0_3) := (kAD BK359.out 3).trans rfl
       have hcz15_4 : wr.cell? ⟨gb359, 4, none⟩ = some (.int .i64 a0_4) := (kAD BK359.out 4).trans rfl
       have hcz15_5 : wr.cell? ⟨gb359, 5, none⟩ = some (.slice A0_5 l0_5.length c0_5) := (kAD BK359.out 5).trans rfl
       have hfz15_0 := kAE BK359.out 0
       have hfz15_1 := kAE BK359.out 1
       have hfz15_2 := kAE BK359.out 2
       have hfz15_3 := kAE BK359.out 3
       have hfz15_4 := kAE BK359.out 4
       have hfz15_5 := kAE BK359.out 5
       go_wp2_with (first | (go_at_call 13; (with_reducible refine (footlockerref23_Right.calls a0_0 a0_1 a0_2 a0_3 true _ A9.out).mono ?_); rintro e w16 ⟨rfl, hb⟩; have n0_ := kzA (kAL (g := gb359) (o := .cells #[.int .i64 a0_0, .int .i64 a0_1, .int .i64 a0_2, .int .i64 a0_3, .int .i64 a0_4, .slice A0_5 l0_5.length c0_5] 26 (0, 0)) (by (with_reducible repeat (first | refine kAH ?_ _ | refine kAI ?_ | refine kAG ?_ _)); exact BK359.out) hb); have n1_ := kzA (kAK (by repeat (first | (with_reducible first | exact HB.out | apply kAB | apply kAA | apply kAC | refine kAF ?_ GE359.out) | exact HB.out)) hb); clear BK359; clear HB; have BK359 := n0_; have HB := n1_; clear n0_ n1_; (try clear hb); (try clear hb2); (try clear hk); (try clear hi); have hcz17_0 : w16.cell? ⟨gb359, 0, none⟩ = some (.int .i64 a0_0) := (kAD BK359.out 0).trans rfl; have hcz17_1 : w16.cell? ⟨gb359, 1, none⟩ = some (.int .i64 a0_1) := (kAD BK359.out 1).trans rfl; have hcz17_2 : w16.cell? ⟨gb359, 2, none⟩ = some (.int .i64 a0_2) := (kAD BK359.out 2).trans rfl; have hcz17_3 : w16.cell? ⟨gb359, 3, none⟩ = some (.int .i64 a0_3) := (kAD BK359.out 3).trans rfl; have hcz17_4 : w16.cell? ⟨gb359, 4, none⟩ = some (.int .i64 a0_4) := (kAD BK359.out 4).trans rfl; have hcz17_5 : w16.cell? ⟨gb359, 5, none⟩ = some (.slice A0_5 l0_5.length c0_5) := (kAD BK359.out 5).trans rfl; have hfz17_0 := kAE BK359.out 0; have hfz17_1 := kAE BK359.out 1; have hfz17_2 := kAE BK359.out 2; have hfz17_3 := kAE BK359.out 3; have hfz17_4 := kAE BK359.out 4; have hfz17_5 := kAE BK359.out 5))
       go_ret
       exact ⟨by first | rfl | (simp [kAN, kAM] <;> rfl) | (simp [*, kAN, kAM] <;> rfl), by repeat (first | (with_reducible first | exact HB.out | apply kAB | apply kAA | apply kAC | refine kAF ?_ GE359.out) | exact HB.out)⟩
     ·replace c10 := Bool.eq_false_iff.mpr c10
      subst c10
      have H1 : (some true) = some r := by rw [if_neg (show ¬ (false = true) by decide)] at H; exact H
      clear H
      have H := H1
      clear H1
      obtain rfl := Option.some.inj H
      have hcz18_0 : wr.cell? ⟨gb359, 0, none⟩ = some (.int .i64 a0_0) := (kAD BK359.out 0).trans rfl
      have hcz18_1 : wr.cell? ⟨gb359, 1, none⟩ = some (.int .i64 a0_1) := (kAD BK359.out 1).trans rfl
      have hcz18_2 : wr.cell? ⟨gb359, 2, none⟩ = some (.int .i64 a0_2) := (kAD BK359.out 2).trans rfl
      have hcz18_3 : wr.cell? ⟨gb359, 3, none⟩ = some (.int .i64 a0_3) := (kAD BK359.out 3).trans rfl
      have hcz18_4 : wr.cell? ⟨gb359, 4, none⟩ = some (.int .i64 a0_4) := (kAD BK359.out 4).trans rfl
      have hcz18_5 : wr.cell? ⟨gb359, 5, none⟩ = some (.slice A0_5 l0_5.length c0_5) := (kAD BK359.out 5).trans rfl
      have hfz18_0 := kAE BK359.out 0
      have hfz18_1 := kAE BK359.out 1
      have hfz18_2 := kAE BK359.out 2
      have hfz18_3 := kAE BK359.out 3
      have hfz18_4 := kAE BK359.out 4
      have hfz18_5 := kAE BK359.out 5
      go_wp2_with (first | (go_at_call 13; (with_reducible refine (footlockerref23_Right.calls a0_0 a0_1 a0_2 a0_3 false _ A9.out).mono ?_); rintro e w19 ⟨rfl, hb⟩; have n0_ := kzA (kAL (g := gb359) (o := .cells #[.int .i64 a0_0, .int .i64 a0_1, .int .i64 a0_2, .int .i64 a0_3, .int .i64 a0_4, .slice A0_5 l0_5.length c0_5] 26 (0, 0)) (by (with_reducible repeat (first | refine kAH ?_ _ | refine kAI ?_ | refine kAG ?_ _)); exact BK359.out) hb); have n1_ := kzA (kAK (by repeat (first | (with_reducible first | exact HB.out | apply kAB | apply kAA | apply kAC | refine kAF ?_ GE359.out) | exact HB.out)) hb); clear BK359; clear HB; have BK359 := n0_; have HB := n1_; clear n0_ n1_; (try clear hb); (try clear hb2); (try clear hk); (try clear hi)))
      go_ret
      exact ⟨by first | rfl | (simp [kAN, kAM] <;> rfl) | (simp [*, kAN, kAM] <;> rfl), by repeat (first | (with_reducible first | exact HB.out | apply kAB | apply kAA | apply kAC | refine kAF ?_ GE359.out) | exact HB.out)⟩
    ·rw [if_neg c8] at H
     have c8b0 : decide ((l0_5.length : Int) ≤ 20) = false := decide_eq_false c8
     have c8b1 : decide (l0_5.length ≤ 20) = false := decide_eq_false (by omega)
     clear c8
     obtain rfl := Option.some.inj H
     have hcz20_0 : wr.cell? ⟨gb359, 0, none⟩ = some (.int .i64 a0_0) := (kAD BK359.out 0).trans rfl
     have hcz20_1 : wr.cell? ⟨gb359, 1, none⟩ = some (.int .i64 a0_1) := (kAD BK359.out 1).trans rfl
     have hcz20_2 : wr.cell? ⟨gb359, 2, none⟩ = some (.int .i64 a0_2) := (kAD BK359.out 2).trans rfl
     have hcz20_3 : wr.cell? ⟨gb359, 3, none⟩ = some (.int .i64 a0_3) := (kAD BK359.out 3).trans rfl
     have hcz20_4 : wr.cell? ⟨gb359, 4, none⟩ = some (.int .i64 a0_4) := (kAD BK359.out 4).trans rfl
     have hcz20_5 : wr.cell? ⟨gb359, 5, none⟩ = some (.slice A0_5 l0_5.length c0_5) := (kAD BK359.out 5).trans rfl
     have hfz20_0 := kAE BK359.out 0
     have hfz20_1 := kAE BK359.out 1
     have hfz20_2 := kAE BK359.out 2
     have hfz20_3 := kAE BK359.out 3
     have hfz20_4 := kAE BK359.out 4
     have hfz20_5 := kAE BK359.out 5
     go_wp2
     go_ret
     exact ⟨by first | rfl | (simp [kAN, kAM] <;> rfl) | (simp [*, kAN, kAM] <;> rfl), by repeat (first | (with_reducible first | exact HB.out | apply kAB | apply kAA | apply kAC | refine kAF ?_ GE359.out) | exact HB.out)⟩
def footlockerref23_Blocks.l0 : Nat → Int → Int → Int → Int → Int → Int → Option (Int)
 | 0, _, _, _, _, _, _ => none
 | k + 1, x3, x4, x363000, x363001, x363002, x363003 => if x4 < (wrap64 (8 + x363002)) then (footlockerref23_Blocks.l0 k (wrap64 (x3 + 1)) (wrap64 (x4 + x363003)) x363000 x363001 x363002 x363003) else (some x3)
def footlockerref23_Blocks.f (k : Nat) (a0_0 : Int) (a0_1 : Int) (a0_2 : Int) (a0_3 : Int) : Option (Int) := footlockerref23_Blocks.l0 k 0 0 a0_0 a0_1 a0_2 a0_3
set_option maxHeartbeats 8000000 in
set_option maxRecDepth 100000 in
theorem footlockerref23_Blocks.calls (k : Nat) (a0_0 : Int) (a0_1 : Int) (a0_2 : Int) (a0_3 : Int) (r : Int) (w : World) (h : footlockerref23_Blocks.f k a0_0 a0_1 a0_2 a0_3 = some r) :
  Calls Tryd.prog 38 #[.agg #[.int .i64 a0_0, .int .i64 a0_1, .int .i64 a0_2, .int .i64 a0_3]] w fun e w' => e = .returned (.int .i64 r) ∧ Below w.heap.size w w' := by
 have hu36 := Tryd.underlying36
 have HB := kzA (Below.refl w.heap.size w)
 have H : (footlockerref23_Blocks.l0 k 0 0 a0_0 a0_1 a0_2 a0_3) = some r := h
 clear h
 have H' := kzA H
 clear H
 go_enter Tryd.func38, Tryd.ntmps38
 go_wp2_with (first | ((with_reducible refine kBA (N := 1) rfl ?_); refine kBD ?hg (N := 1) ?hd (cs := #[.int .i64 a0_0, .int .i64 a0_1, .int .i64 a0_2, .int .i64 a0_3]) (t := 36) ?hr ?_; (case hd => rfl); (case hg => rfl); (case hr => first | (go_simp; done) | (go_simp; rfl)); intro gb362 hg w2 hbox hb; have n0_ := kzA (kAK (by repeat (first | (with_reducible first | exact HB.out | apply kAB | apply kAA | apply kAC) | exact HB.out)) hb); have n1_ := kzA (hbox); have n2_ := kzA ((by rw [hg]; exact (kAJ (by repeat (first | (with_reducible first | exact HB.out | apply kAB | apply kAA | apply kAC) | exact HB.out))) : w.heap.size ≤ gb362)); have n3_ := kzA ((by rw [hg]; exact (kAJ (by repeat (first | (with_reducible first | exact HB.out | apply kAB | apply kAA | apply kAC) | exact HB.out))) : w.heap.size ≤ gb362)); clear HB; have HB := n0_; have BK362 := n1_; have GW362 := n2_; have GE362 := n3_; clear n0_ n1_ n2_ n3_; clear hb hbox hg))
 go_loopg [3, 4] k (fun kq v3 v4 w' => ∃ (x3_1 : Int) (x4_1 : Int), v3 = .int .i64 x3_1 ∧ v4 = .int .i64 x4_1 ∧ Aside0 (footlockerref23_Blocks.l0 kq x3_1 x4_1 a0_0 a0_1 a0_2 a0_3 = some r) ∧ Aside0 (kq ≤ k) ∧ Aside0 (w'.heap[gb362]? = some (.cells #[.int .i64 a0_0, .int .i64 a0_1, .int .i64 a0_2, .int .i64 a0_3] 36 (0, 0))) ∧ Aside0 (Below w.heap.size w w'))
 case atStart => exact ⟨(0), (0), (by first | rfl | (simp; done) | (simp [*]; done)), (by first | rfl | (simp; done) | (simp [*]; done)), H', ⟨Nat.le_refl _⟩, ⟨by (with_reducible repeat (first | refine kAH ?_ _ | refine kAI ?_ | refine kAG ?_ _)); exact BK362.out⟩, ⟨by repeat (first | (with_reducible first | exact HB.out | apply kAB | apply kAA | apply kAC | refine kAF ?_ GE362.out) | exact HB.out)⟩⟩
 case round =>
  clear H'
  try clear p2
  obtain ⟨x3_1, x4_1, rfl, rfl, HA, HK1, BK362, HB⟩ := hrel
  cases gk with
  | zero => exact absurd HA.out (by simp [footlockerref23_Blocks.l0])
  | succ k1 =>
   have H := HA.out
   clear HA
   simp only [footlockerref23_Blocks.l0] at H
   by_cases c3 : x4_1 < (wrap64 (8 + a0_2))
   ·rw [if_pos c3] at H
    have c3b0 : decide (x4_1 < (wrap64 (8 + a0_2))) = true := decide_eq_true c3
    clear c3
    have H' := kzA H
    clear H
    have hcz4_0 : wr.cell? ⟨gb362, 0, none⟩ = some (.int .i64 a0_0) := (kAD BK362.out 0).trans rfl
    have hcz4_1 : wr.cell? ⟨gb362, 1, none⟩ = some (.int .i64 a0_1) := (kAD BK362.out 1).trans rfl
    have hcz4_2 : wr.cell? ⟨gb362, 2, none⟩ = some (.int .i64 a0_2) := (kAD BK362.out 2).trans rfl
    have hcz4_3 : wr.cell? ⟨gb362, 3, none⟩ = some (.int .i64 a0_3) := (kAD BK362.out 3).trans rfl
    have hfz4_0 := kAE BK362.out 0
    have hfz4_1 := kAE BK362.out 1
    have hfz4_2 := kAE BK362.out 2
    have hfz4_3 := kAE BK362.out 3
    go_wp2
    go_roundg k1
    case measure => have := HK1.out; omega
    case rel => exact ⟨(wrap64 (x3_1 + 1)), (wrap64 (x4_1 + a0_3)), (by first | rfl | (simp; done) | (simp [*]; done)), (by first | rfl | (simp; done) | (simp [*]; done)), H', ⟨by have := HK1.out; omega⟩, ⟨by (with_reducible repeat (first | refine kAH ?_ _ | refine kAI ?_ | refine kAG ?_ _)); exact BK362.out⟩, ⟨by repeat (first | (with_reducible first | exact HB.out | apply kAB | apply kAA | apply kAC | refine kAF ?_ GE362.out) | exact HB.out)⟩⟩
   ·rw [if_neg c3] at H
    have c3b0 : decide (x4_1 < (wrap64 (8 + a0_2))) = false := decide_eq_false c3
    clear c3
    obtain rfl := Option.some.inj H
    have hcz5_0 : wr.cell? ⟨gb362, 0, none⟩ = some (.int .i64 a0_0) := (kAD BK362.out 0).trans rfl
    have hcz5_1 : wr.cell? ⟨gb362, 1, none⟩ = some (.int .i64 a0_1) := (kAD BK362.out 1).trans rfl
    have hcz5_2 : wr.cell? ⟨gb362, 2, none⟩ = some (.int .i64 a0_2) := (kAD BK362.out 2).trans rfl
    have hcz5_3 : wr.cell? ⟨gb362, 3, none⟩ = some (.int .i64 a0_3) := (kAD BK362.out 3).trans rfl
    have hfz5_0 := kAE BK362.out 0
    have hfz5_1 := kAE BK362.out 1
    have hfz5_2 := kAE BK362.out 2
    have hfz5_3 := kAE BK362.out 3
    go_wp2
    go_ret
    exact ⟨by first | rfl | (simp [kAN, kAM] <;> rfl) | (simp [*, kAN, kAM] <;> rfl), by repeat (first | (with_reducible first | exact HB.out | apply kAB | apply kAA | apply kAC | refine kAF ?_ GE362.out) | exact HB.out)⟩
end Go.Proofs.YtoamamnbapilhaaDoor.X
