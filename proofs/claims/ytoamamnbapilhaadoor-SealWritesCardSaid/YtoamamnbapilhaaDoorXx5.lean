import Derived.Test.YtoamamnbapilhaaDoorXx0
import Derived.Test.YtoamamnbapilhaaDoorXx2
import Derived.Test.YtoamamnbapilhaaDoorXx3
namespace Go.Proofs.YtoamamnbapilhaaDoor.X
open Go.RowKit Go.Proofs.YtoamamnbapilhaaDoorW.PrintWords Go.Proofs.YtoamamnbapilhaaDoorW.PrintLast Go.Proofs.YtoamamnbapilhaaDoorW.PrintMore
attribute [local go_sem] max2_int min2_int max_two min_two max_three min_three max_four min_four
set_option linter.unusedVariables false
set_option linter.unusedSimpArgs false
def footlockerlaw24_as.f (a0_0 : Int) (a0_1 : Int) (a0_2 : Int) (a0_3 : Int) (a0_4 : Int) (l0_5 : List (List Int)) : Option (Int × Int × Int × Int × Int × (List (List Int))) := some (a0_0, a0_1, a0_2, a0_3, a0_4, l0_5)
set_option maxHeartbeats 8000000 in
set_option maxRecDepth 100000 in
theorem footlockerlaw24_as.calls (a0_0 : Int) (a0_1 : Int) (a0_2 : Int) (a0_3 : Int) (a0_4 : Int) (P0_5_ : Nat → Prop) (A0_5 : Option Addr) (c0_5 : Nat) (l0_5 : List (List Int)) (r1 : Int) (r2 : Int) (r3 : Int) (r4 : Int) (r5 : Int) (r6 : List (List Int)) (w : World) (hs0_5 : Kd.V (Kd.slice 54 (Kd.int .u32)) 56 w w.heap.size (fun k_ => P0_5_ k_) (.slice A0_5 l0_5.length c0_5) l0_5) (h : footlockerlaw24_as.f a0_0 a0_1 a0_2 a0_3 a0_4 l0_5 = some (r1, r2, r3, r4, r5, r6)) :
  Calls Tryd.prog 11 #[.agg #[.int .i64 a0_0, .int .i64 a0_1, .int .i64 a0_2, .int .i64 a0_3, .int .i64 a0_4, .slice A0_5 l0_5.length c0_5]] w fun e w' => ∃ v5_ : Value, e = .returned (.agg #[.int .i64 r1, .int .i64 r2, .int .i64 r3, .int .i64 r4, .int .i64 r5, v5_]) ∧ Kd.V (Kd.slice 54 (Kd.int .u32)) 56 w' w.heap.size (fun k_ => (P0_5_ k_ ∨ w.heap.size ≤ k_)) v5_ r6 ∧ Below w.heap.size w w' := by
 have hu26 := Tryd.underlying26
 have hu38 := Tryd.underlying38
 have hu23 := Tryd.underlying23
 have HO0_5 := kzA (show Kd.V (Kd.slice 54 (Kd.int .u32)) 56 w w.heap.size (fun k_ => (P0_5_ k_ ∨ w.heap.size ≤ k_)) (.slice A0_5 l0_5.length c0_5) l0_5 from Kd.kBV hs0_5 (fun k_ hk => .inl hk))
 have HB := kzA (Below.refl w.heap.size w)
 have H : (some (a0_0, a0_1, a0_2, a0_3, a0_4, l0_5)) = some (r1, r2, r3, r4, r5, r6) := h
 clear h
 simp only [Option.some.injEq, Prod.mk.injEq] at H
 obtain ⟨rfl, rfl, rfl, rfl, rfl, rfl⟩ := H
 go_enter Tryd.func11, Tryd.ntmps11
 go_wp2_with (first | ((with_reducible refine kBA (N := 1) rfl ?_); refine kBD ?hg (N := 1) ?hd (cs := #[.int .i64 a0_0, .int .i64 a0_1, .int .i64 a0_2, .int .i64 a0_3, .int .i64 a0_4, .slice A0_5 l0_5.length c0_5]) (t := 26) ?hr ?_; (case hd => rfl); (case hg => rfl); (case hr => first | (go_simp; done) | (go_simp; rfl)); intro gb176 hg w2 hbox hb; have n0_ := kzA (Kd.kCD (Kd.V_elderB (by (with_reducible repeat (first | apply Kd.kAT | apply Kd.kAS | apply Kd.kAZ)); exact HO0_5.out) gb176 (Nat.le_of_eq hg.symm)) hb); have n1_ := kzA (kAK (by repeat (first | (with_reducible first | exact HB.out | apply kAB | apply kAA | apply kAC) | exact HB.out)) hb); have n2_ := kzA (hbox); have n3_ := kzA ((by rw [hg]; exact (kAJ (by repeat (first | (with_reducible first | exact HB.out | apply kAB | apply kAA | apply kAC) | exact HB.out))) : w.heap.size ≤ gb176)); have n4_ := kzA ((by rw [hg]; exact (kAJ (by repeat (first | (with_reducible first | exact HB.out | apply kAB | apply kAA | apply kAC) | exact HB.out))) : w.heap.size ≤ gb176)); clear HO0_5; clear HB; have HO0_5 := n0_; have HB := n1_; have BK176 := n2_; have GW176 := n3_; have GE176 := n4_; clear n0_ n1_ n2_ n3_ n4_; clear hb hbox hg) | ((with_reducible refine kBA (N := 2) rfl ?_); refine kBD ?hg (N := 2) ?hd (cs := #[.int .i64 0, .int .i64 0, .int .i64 0, .int .i64 0, .int .i64 0, .slice none 0 0]) (t := 38) ?hr ?_; (case hd => rfl); (case hg => rfl); (case hr => first | (go_simp; done) | (go_simp; rfl)); intro gb177 hg w3 hbox hb; have n0_ := kzA (Kd.kCD (Kd.V_elderB (by (with_reducible repeat (first | apply Kd.kAT | apply Kd.kAS | apply Kd.kAZ)); exact HO0_5.out) gb177 (Nat.le_of_eq hg.symm)) hb); have n1_ := kzA (kAL (g := gb176) (o := .cells #[.int .i64 a0_0, .int .i64 a0_1, .int .i64 a0_2, .int .i64 a0_3, .int .i64 a0_4, .slice A0_5 l0_5.length c0_5] 26 (0, 0)) (by (with_reducible repeat (first | refine kAH ?_ _ | refine kAI ?_ | refine kAG ?_ _)); exact BK176.out) hb); have n2_ := kzA (kAK (by repeat (first | (with_reducible first | exact HB.out | apply kAB | apply kAA | apply kAC | refine kAF ?_ GE176.out) | exact HB.out)) hb); have n3_ := kzA (hbox); have n4_ := kzA ((by rw [hg]; exact (kAJ (by repeat (first | (with_reducible first | exact HB.out | apply kAB | apply kAA | apply kAC | refine kAF ?_ GE176.out) | exact HB.out))) : w.heap.size ≤ gb177)); have n5_ := kzA ((by rw [hg]; exact (kAJ (by repeat (first | (with_reducible first | exact HB.out | apply kAB | apply kAA | apply kAC | refine kAF ?_ GE176.out) | exact HB.out))) : w.heap.size ≤ gb177)); have n6_ := kzA ((by rw [hg]; exact Nat.ne_of_lt (kCH (g := gb176) (o := .cells #[.int .i64 a0_0, .int .i64 a0_1, .int .i64 a0_2, .int .i64 a0_3, .int .i64 a0_4, .slice A0_5 l0_5.length c0_5] 26 (0, 0)) (by (with_reducible repeat (first | refine kAH ?_ _ | refine kAI ?_ | refine kAG ?_ _)); exact BK176.out)) : gb176 ≠ gb177)); have n7_ := kzA ((by rw [hg]; exact Nat.ne_of_gt (kCH (g := gb176) (o := .cells #[.int .i64 a0_0, .int .i64 a0_1, .int .i64 a0_2, .int .i64 a0_3, .int .i64 a0_4, .slice A0_5 l0_5.length c0_5] 26 (0, 0)) (by (with_reducible repeat (first | refine kAH ?_ _ | refine kAI ?_ | refine kAG ?_ _)); exact BK176.out)) : gb177 ≠ gb176)); clear HO0_5; clear BK176; clear HB; have HO0_5 := n0_; have BK176 := n1_; have HB := n2_; have BK177 := n3_; have GW177 := n4_; have GE177 := n5_; have NB176_177 := n6_; have NB177_176 := n7_; clear n0_ n1_ n2_ n3_ n4_ n5_ n6_ n7_; clear hb hbox hg; have hnb4 := NB176_177.out; have hnc4 := NB177_176.out; have hcz5_0 : w3.cell? ⟨gb176, 0, none⟩ = some (.int .i64 a0_0) := (kAD BK176.out 0).trans rfl; have hcz5_1 : w3.cell? ⟨gb176, 1, none⟩ = some (.int .i64 a0_1) := (kAD BK176.out 1).trans rfl; have hcz5_2 : w3.cell? ⟨gb176, 2, none⟩ = some (.int .i64 a0_2) := (kAD BK176.out 2).trans rfl; have hcz5_3 : w3.cell? ⟨gb176, 3, none⟩ = some (.int .i64 a0_3) := (kAD BK176.out 3).trans rfl; have hcz5_4 : w3.cell? ⟨gb176, 4, none⟩ = some (.int .i64 a0_4) := (kAD BK176.out 4).trans rfl; have hcz5_5 : w3.cell? ⟨gb176, 5, none⟩ = some (.slice A0_5 l0_5.length c0_5) := (kAD BK176.out 5).trans rfl; have hfz5_0 := kAE BK176.out 0; have hfz5_1 := kAE BK176.out 1; have hfz5_2 := kAE BK176.out 2; have hfz5_3 := kAE BK176.out 3; have hfz5_4 := kAE BK176.out 4; have hfz5_5 := kAE BK176.out 5; have hcz6_0 : w3.cell? ⟨gb177, 0, none⟩ = some (.int .i64 0) := (kAD BK177.out 0).trans rfl; have hcz6_1 : w3.cell? ⟨gb177, 1, none⟩ = some (.int .i64 0) := (kAD BK177.out 1).trans rfl; have hcz6_2 : w3.cell? ⟨gb177, 2, none⟩ = some (.int .i64 0) := (kAD BK177.out 2).trans rfl; have hcz6_3 : w3.cell? ⟨gb177, 3, none⟩ = some (.int .i64 0) := (kAD BK177.out 3).trans rfl; have hcz6_4 : w3.cell? ⟨gb177, 4, none⟩ = some (.int .i64 0) := (kAD BK177.out 4).trans rfl; have hcz6_5 : w3.cell? ⟨gb177, 5, none⟩ = some (.slice none 0 0) := (kAD BK177.out 5).trans rfl; have hfz6_0 := kAE BK177.out 0; have hfz6_1 := kAE BK177.out 1; have hfz6_2 := kAE BK177.out 2; have hfz6_3 := kAE BK177.out 3; have hfz6_4 := kAE BK177.out 4; have hfz6_5 := kAE BK177.out 5))
 refine bodyPost_ret (results_cell_row rfl _ _ gb177 38 #[.int .i64 a0_0, .int .i64 a0_1, .int .i64 a0_2, .int .i64 a0_3, .int .i64 a0_4, .slice A0_5 l0_5.length c0_5] (0, 0) _ rfl (by (with_reducible repeat (first | refine kAH ?_ _ | refine kAI ?_ | refine kAG ?_ _)); refine kAU (cs := #[.int .i64 a0_0, .int .i64 a0_1, .int .i64 a0_2, .int .i64 a0_3, .int .i64 a0_4, .slice none 0 0]) ?_ 5 _ rfl; (with_reducible repeat (first | refine kAH ?_ _ | refine kAI ?_ | refine kAG ?_ _)); refine kAU (cs := #[.int .i64 a0_0, .int .i64 a0_1, .int .i64 a0_2, .int .i64 a0_3, .int .i64 0, .slice none 0 0]) ?_ 4 _ rfl; (with_reducible repeat (first | refine kAH ?_ _ | refine kAI ?_ | refine kAG ?_ _)); refine kAU (cs := #[.int .i64 a0_0, .int .i64 a0_1, .int .i64 a0_2, .int .i64 0, .int .i64 0, .slice none 0 0]) ?_ 3 _ rfl; (with_reducible repeat (first | refine kAH ?_ _ | refine kAI ?_ | refine kAG ?_ _)); refine kAU (cs := #[.int .i64 a0_0, .int .i64 a0_1, .int .i64 0, .int .i64 0, .int .i64 0, .slice none 0 0]) ?_ 2 _ rfl; (with_reducible repeat (first | refine kAH ?_ _ | refine kAI ?_ | refine kAG ?_ _)); refine kAU (cs := #[.int .i64 a0_0, .int .i64 0, .int .i64 0, .int .i64 0, .int .i64 0, .slice none 0 0]) ?_ 1 _ rfl; (with_reducible repeat (first | refine kAH ?_ _ | refine kAI ?_ | refine kAG ?_ _)); refine kAU (cs := #[.int .i64 0, .int .i64 0, .int .i64 0, .int .i64 0, .int .i64 0, .slice none 0 0]) ?_ 0 _ rfl; (with_reducible repeat (first | refine kAH ?_ _ | refine kAI ?_ | refine kAG ?_ _)); exact BK177.out) Tryd.underlying38 rfl (by kernel_rfl)) rfl ?_
 exact ⟨_, by first | rfl | (simp [kAN, kAM] <;> rfl) | (simp [*, kAN, kAM] <;> rfl), by (with_reducible repeat (first | apply Kd.kAT | apply Kd.kAS | apply Kd.kAZ)); exact Kd.kBV (Kd.V_far (p := ⟨gb177, 5, none⟩) (Kd.V_far (p := ⟨gb177, 4, none⟩) (Kd.V_far (p := ⟨gb177, 3, none⟩) (Kd.V_far (p := ⟨gb177, 2, none⟩) (Kd.V_far (p := ⟨gb177, 1, none⟩) (Kd.V_far (p := ⟨gb177, 0, none⟩) (Kd.kBV HO0_5.out (fun k_ hk => (⟨hk, hk.2⟩ : _ ∧ k_ ≠ gb177))) (fun _ hk => hk.2) (.int .i64 a0_0)) (fun _ hk => hk.2) (.int .i64 a0_1)) (fun _ hk => hk.2) (.int .i64 a0_2)) (fun _ hk => hk.2) (.int .i64 a0_3)) (fun _ hk => hk.2) (.int .i64 a0_4)) (fun _ hk => hk.2) (.slice A0_5 l0_5.length c0_5)) (fun _ hk => hk.1.1.1), by repeat (first | (with_reducible first | exact HB.out | apply kAB | apply kAA | apply kAC | refine kAF ?_ GE176.out | refine kAF ?_ GE177.out) | exact HB.out)⟩
def footlockerref01_Same.l0 : Nat → List Int → List Int → Int → Option (Bool)
 | 0, _, _, _ => none
 | k + 1, x0, x1, x5 => if x5 < (x0.length : Int) then (if 0 ≤ x5 then (if x5 < (x1.length : Int) then (if (rd x0 x5) = (rd x1 x5) then (footlockerref01_Same.l0 k x0 x1 (wrap64 (x5 + 1))) else (some false)) else (none)) else (none)) else (some true)
def footlockerref01_Same.f (k : Nat) (l0 : List Int) (l1 : List Int) : Option (Bool) := if (l0.length : Int) = (l1.length : Int) then (footlockerref01_Same.l0 k l0 l1 0) else (some false)
theorem footlockerref01_Same.mono_l : ∀ k, (∀ y0 y1 y2, LeO (footlockerref01_Same.l0 k y0 y1 y2) (footlockerref01_Same.l0 (k + 1) y0 y1 y2))
 | 0 => fun _ _ _ r h => by simp [footlockerref01_Same.l0] at h
 | k + 1 => by
  have ih0 := footlockerref01_Same.mono_l k
  ·intro y0 y1 y2
   unfold footlockerref01_Same.l0
   repeat' first
   | (with_reducible exact ih0 _ _ _)
   | (with_reducible exact LeO.refl _)
   | (with_reducible exact LeO.none _)
   | (with_reducible refine LeO.ite ?_ ?_)
   | (with_reducible refine LeO.bind ?_ (fun _ => ?_))
   | exact ih0 _ _ _
   | exact LeO.none _
   | refine LeO.ite ?_ ?_
   | refine LeO.bind ?_ (fun _ => ?_)
theorem footlockerref01_Same.mono : ∀ a0 a1 k, LeO (footlockerref01_Same.f k a0 a1) (footlockerref01_Same.f (k + 1) a0 a1) := by
 intro a0 a1 k
 have ih0 := footlockerref01_Same.mono_l k
 unfold footlockerref01_Same.f
 repeat' first
   | (with_reducible exact ih0 _ _ _)
   | (with_reducible exact LeO.refl _)
   | (with_reducible exact LeO.none _)
   | (with_reducible refine LeO.ite ?_ ?_)
   | (with_reducible refine LeO.bind ?_ (fun _ => ?_))
   | exact ih0 _ _ _
   | exact LeO.none _
   | refine LeO.ite ?_ ?_
   | refine LeO.bind ?_ (fun _ => ?_)
set_option maxHeartbeats 8000000 in
set_option maxRecDepth 100000 in
theorem footlockerref01_Same.calls (k : Nat) (A0 : Option Addr) (c0 : Nat) (l0 : List Int) (A1 : Option Addr) (c1 : Nat) (l1 : List Int) (r : Bool) (w : World) (hr0 : Kd.C (Kd.int .u8) w A0 l0.length l0) (hc0 : l0.length ≤ c0) (hr1 : Kd.C (Kd.int .u8) w A1 l1.length l1) (hc1 : l1.length ≤ c1) (h : footlockerref01_Same.f k l0 l1 = some r) :
  Calls Tryd.prog 12 #[.slice A0 l0.length c0, .slice A1 l1.length c1] w fun e w' => e = .returned (.bool r) ∧ Drawn0 w w' := by
 have HR0 := kzA hr0
 have HC0 := kzA hc0
 clear hr0 hc0
 have HR1 := kzA hr1
 have HC1 := kzA hc1
 clear hr1 hc1
 have H : (if (l0.length : Int) = (l1.length : Int) then (footlockerref01_Same.l0 k l0 l1 0) else (some false)) = some r := h
 clear h
 by_cases c3 : (l0.length : Int) = (l1.length : Int)
 ·rw [if_pos c3] at H
  have c3b0 : ((l0.length : Int) == (l1.length : Int)) = true := beq_iff_eq.mpr c3
  have c3b1 : ((l0.length : Int) != (l1.length : Int)) = false := bne_eq_false_iff_eq.mpr c3
  have c3b2 : (l0.length == l1.length) = true := by first | simpa using c3 | (simp at c3 ⊢; omega)
  clear c3
  have H' := kzA H
  clear H
  go_enter Tryd.func12, Tryd.ntmps12
  go_wp2
  repeat (go_quiet (fail); try go_wp2)
  go_loopg [5] k (fun kq v5 w' => ∃ (x5_1 : Int), v5 = .int .i64 x5_1 ∧ Aside0 (footlockerref01_Same.l0 kq l0 l1 x5_1 = some r) ∧ Aside0 (kq ≤ k) ∧ Drawn0 w w')
  case atStart => exact ⟨(0), (by first | rfl | (simp; done) | (simp [*]; done)), H', ⟨Nat.le_refl _⟩, by repeat (first | exact Drawn0.refl _ | apply Drawn0.step)⟩
  case round =>
   clear H'
   try clear c1
   try clear p2
   try clear c3
   try clear c3b0
   try clear c3b1
   try clear c3b2
   obtain ⟨x5_1, rfl, HA, HK1, ⟨m1, rfl⟩⟩ := hrel
   cases gk with
   | zero => exact absurd HA.out (by simp [footlockerref01_Same.l0])
   | succ k1 =>
    have H := HA.out
    clear HA
    simp only [footlockerref01_Same.l0] at H
    by_cases c4 : x5_1 < (l0.length : Int)
    ·rw [if_pos c4] at H
     have c4b0 : decide (x5_1 < (l0.length : Int)) = true := decide_eq_true c4
     clear c4
     by_cases c5 : 0 ≤ x5_1
     ·rw [if_pos c5] at H
      have c5b0 : decide (0 ≤ x5_1) = true := decide_eq_true c5
      clear c5
      by_cases c6 : x5_1 < (l1.length : Int)
      ·rw [if_pos c6] at H
       have c6b0 : decide (x5_1 < (l1.length : Int)) = true := decide_eq_true c6
       clear c6
       by_cases c7 : (rd l0 x5_1) = (rd l1 x5_1)
       ·rw [if_pos c7] at H
        have c7b0 : ((rd l0 x5_1) == (rd l1 x5_1)) = true := beq_iff_eq.mpr c7
        have c7b1 : ((rd l0 x5_1) != (rd l1 x5_1)) = false := bne_eq_false_iff_eq.mpr c7
        clear c7
        have H' := kzA H
        clear H
        have p178 : 0 ≤ (x5_1 : Int) := of_decide_eq_true (by first | (with_reducible assumption) | assumption)
        have q178 : x5_1 < (l0.length : Int) := of_decide_eq_true (by first | (with_reducible assumption) | assumption)
        obtain ⟨ad178, e178, hx178_0⟩ := Kd.at_int HR0.out x5_1 p178 q178
        cases e178
        replace p178 := eq_true p178
        replace q178 := eq_true q178
        have p179 : 0 ≤ (x5_1 : Int) := of_decide_eq_true (by first | (with_reducible assumption) | assumption)
        have q179 : x5_1 < (l1.length : Int) := of_decide_eq_true (by first | (with_reducible assumption) | assumption)
        obtain ⟨ad179, e179, hx179_0⟩ := Kd.at_int HR1.out x5_1 p179 q179
        cases e179
        replace p179 := eq_true p179
        replace q179 := eq_true q179
        go_wp2
        repeat (go_quiet (fail); try go_wp2)
        go_roundg k1
        case measure => have := HK1.out; omega
        case rel => exact ⟨(wrap64 (x5_1 + 1)), (by first | rfl | (simp; done) | (simp [*]; done)), H', ⟨by have := HK1.out; omega⟩, by repeat (first | exact Drawn0.refl _ | apply Drawn0.step)⟩
       ·rw [if_neg c7] at H
        have c7b0 : ((rd l0 x5_1) == (rd l1 x5_1)) = false := beq_eq_false_iff_ne.mpr c7
        have c7b1 : ((rd l0 x5_1) != (rd l1 x5_1)) = true := bne_iff_ne.mpr c7
        obtain rfl := Option.some.inj H
        have p178 : 0 ≤ (x5_1 : Int) := of_decide_eq_true (by first | (with_reducible assumption) | assumption)
        have q178 : x5_1 < (l0.length : Int) := of_decide_eq_true (by first | (with_reducible assumption) | assumption)
        obtain ⟨ad178, e178, hx178_0⟩ := Kd.at_int HR0.out x5_1 p178 q178
        cases e178
        replace p178 := eq_true p178
        replace q178 := eq_true q178
        have p179 : 0 ≤ (x5_1 : Int) := of_decide_eq_true (by first | (with_reducible assumption) | assumption)
        have q179 : x5_1 < (l1.length : Int) := of_decide_eq_true (by first | (with_reducible assumption) | assumption)
        obtain ⟨ad179, e179, hx179_0⟩ := Kd.at_int HR1.out x5_1 p179 q179
        cases e179
        replace p179 := eq_true p179
        replace q179 := eq_true q179
        go_wp2
        repeat (go_quiet (fail); try go_wp2)
        go_ret
        exact ⟨by first | rfl | (simp; done) | (simp [*]; done), by repeat (first | exact Drawn0.refl _ | apply Drawn0.step)⟩
      ·rw [if_neg c6] at H
       exact absurd H (by simp)
     ·rw [if_neg c5] at H
      exact absurd H (by simp)
    ·rw [if_neg c4] at H
     have c4b0 : decide (x5_1 < (l0.length : Int)) = false := decide_eq_false c4
     clear c4
     obtain rfl := Option.some.inj H
     go_wp2
     repeat (go_quiet (fail); try go_wp2)
     go_ret
     exact ⟨by first | rfl | (simp; done) | (simp [*]; done), by repeat (first | exact Drawn0.refl _ | apply Drawn0.step)⟩
 ·rw [if_neg c3] at H
  have c3b0 : ((l0.length : Int) == (l1.length : Int)) = false := beq_eq_false_iff_ne.mpr c3
  have c3b1 : ((l0.length : Int) != (l1.length : Int)) = true := bne_iff_ne.mpr c3
  have c3b2 : (l0.length == l1.length) = false := by first | simpa using c3 | (simp at c3 ⊢; omega)
  obtain rfl := Option.some.inj H
  go_enter Tryd.func12, Tryd.ntmps12
  go_wp2
  repeat (go_quiet (fail); try go_wp2)
  go_ret
  exact ⟨by first | rfl | (simp; done) | (simp [*]; done), by repeat (first | exact Drawn0.refl _ | apply Drawn0.step)⟩
def seal_Head.f (a0_0 : Int) (a0_1 : Int) (a0_2 : Int) (a0_3 : Int) : Option (Int) := (stripe_Right.f a0_0 a0_1 a0_2 a0_3).bind fun t181 => (if t181 = true then ((stripe_Blocks.f a0_0 a0_1 a0_2 a0_3).bind fun t182 => (some (wrap64 ((wrap64 (20 + (wrap64 ((wrap64 (4 * (wrap64 (a0_0 + a0_1)))) * t182)))) + 4)))) else (some 0))
def seal_Head.T3 : Bool × List (List Nat × List Nat) := (true, [([], []), ([0], [0]), ([], []), ([2], [2]), ([1, 3], [1, 3]), ([4], [4]), ([], []), ([6], [6]), ([5, 7], [5, 7]), ([8], [8]), ([9], [9]), ([10, 7, 0, 1, 2, 3, 4, 5, 6, 7, 8, 9, 10], [10])])
def seal_Head.B3 : List Nat := [0, 1, 0, 4, 15, 31, 0, 64, 255, 511, 1023, 2047]
theorem seal_Head.tab3 : rtab .any (opsOf Tryd.f14 3) = seal_Head.T3 := by kernel_rfl
theorem seal_Head.bits3 : waitsOk seal_Head.T3.2 seal_Head.B3 = true := by kernel_rfl
set_option maxHeartbeats 8000000 in
set_option maxRecDepth 100000 in
theorem seal_Head.calls (a0_0 : Int) (a0_1 : Int) (a0_2 : Int) (a0_3 : Int) (r : Int) (w : World) (h : seal_Head.f a0_0 a0_1 a0_2 a0_3 = some r) :
  Calls Tryd.prog 14 #[.agg #[.int .i64 a0_0, .int .i64 a0_1, .int .i64 a0_2, .int .i64 a0_3]] w fun e w' => e = .returned (.int .i64 r) ∧ Below w.heap.size w w' := by
 have hu23 := Tryd.underlying23
 have HB := kzA (Below.refl w.heap.size w)
 have H : ((stripe_Right.f a0_0 a0_1 a0_2 a0_3).bind fun t181 => (if t181 = true then ((stripe_Blocks.f a0_0 a0_1 a0_2 a0_3).bind fun t182 => (some (wrap64 ((wrap64 (20 + (wrap64 ((wrap64 (4 * (wrap64 (a0_0 + a0_1)))) * t182)))) + 4)))) else (some 0))) = some r := h
 clear h
 replace H := Option.bind_eq_some_iff.mp H
 obtain ⟨t181, A20, H⟩ := H
 replace H : (if t181 = true then ((stripe_Blocks.f a0_0 a0_1 a0_2 a0_3).bind fun t182 => (some (wrap64 ((wrap64 (20 + (wrap64 ((wrap64 (4 * (wrap64 (a0_0 + a0_1)))) * t182)))) + 4)))) else (some 0)) = some r := H
 have A2 := kzA A20
 clear A20
 by_cases c3 : t181 = true
 ·subst c3
  have H1 : ((stripe_Blocks.f a0_0 a0_1 a0_2 a0_3).bind fun t182 => (some (wrap64 ((wrap64 (20 + (wrap64 ((wrap64 (4 * (wrap64 (a0_0 + a0_1)))) * t182)))) + 4)))) = some r := by rw [if_pos rfl] at H; exact H
  clear H
  have H := H1
  clear H1
  replace H := Option.bind_eq_some_iff.mp H
  obtain ⟨t182, A40, H⟩ := H
  replace H : (some (wrap64 ((wrap64 (20 + (wrap64 ((wrap64 (4 * (wrap64 (a0_0 + a0_1)))) * t182)))) + 4))) = some r := H
  have A4 := kzA A40
  clear A40
  obtain rfl := Option.some.inj H
  go_enter Tryd.func14, Tryd.ntmps14
  try go_wp2_with (first | ((with_reducible refine kBA (N := 1) rfl ?_); refine kBD ?hg (N := 1) ?hd (cs := #[.int .i64 a0_0, .int .i64 a0_1, .int .i64 a0_2, .int .i64 a0_3]) (t := 23) ?hr ?_; (case hd => rfl); (case hg => rfl); (case hr => first | (go_simp; done) | (go_simp; rfl)); intro gb180 hg w5 hbox hb; have n0_ := kzA (kAK (by repeat (first | (with_reducible first | exact HB.out | apply kAB | apply kAA | apply kAC) | exact HB.out)) hb); have n1_ := kzA (hbox); have n2_ := kzA ((by rw [hg]; exact (kAJ (by repeat (first | (with_reducible first | exact HB.out | apply kAB | apply kAA | apply kAC) | exact HB.out))) : w.heap.size ≤ gb180)); have n3_ := kzA ((by rw [hg]; exact (kAJ (by repeat (first | (with_reducible first | exact HB.out | apply kAB | apply kAA | apply kAC) | exact HB.out))) : w.heap.size ≤ gb180)); clear HB; have HB := n0_; have BK180 := n1_; have GW180 := n2_; have GE180 := n3_; clear n0_ n1_ n2_ n3_; clear hb hbox hg; have hcz6_0 : w5.cell? ⟨gb180, 0, none⟩ = some (.int .i64 a0_0) := (kAD BK180.out 0).trans rfl; have hcz6_1 : w5.cell? ⟨gb180, 1, none⟩ = some (.int .i64 a0_1) := (kAD BK180.out 1).trans rfl; have hcz6_2 : w5.cell? ⟨gb180, 2, none⟩ = some (.int .i64 a0_2) := (kAD BK180.out 2).trans rfl; have hcz6_3 : w5.cell? ⟨gb180, 3, none⟩ = some (.int .i64 a0_3) := (kAD BK180.out 3).trans rfl; have hfz6_0 := kAE BK180.out 0; have hfz6_1 := kAE BK180.out 1; have hfz6_2 := kAE BK180.out 2; have hfz6_3 := kAE BK180.out 3) | ((with_reducible refine kAQ (f := 35) rfl ?_); refine kBI (some 4) rfl rfl Tryd.func35 (by kernel_rfl) rfl #[.agg #[.int .i64 a0_0, .int .i64 a0_1, .int .i64 a0_2, .int .i64 a0_3]] rfl (by (try simp only [List.map_toArray, List.map_cons, List.map_nil]); first | done | rfl | (simp only [List.length_drop, List.length_take]; rfl)) ?_; (with_reducible refine (stripe_Right.calls a0_0 a0_1 a0_2 a0_3 true _ A2.out).mono ?_); rintro e w7 ⟨rfl, hb⟩; refine ⟨_, rfl, ?_⟩; have n0_ := kzA (kAL (g := gb180) (o := .cells #[.int .i64 a0_0, .int .i64 a0_1, .int .i64 a0_2, .int .i64 a0_3] 23 (0, 0)) (by (with_reducible repeat (first | refine kAH ?_ _ | refine kAI ?_ | refine kAG ?_ _)); exact BK180.out) hb); have n1_ := kzA (kAK (by repeat (first | (with_reducible first | exact HB.out | apply kAB | apply kAA | apply kAC | refine kAF ?_ GE180.out) | exact HB.out)) hb); clear BK180; clear HB; have BK180 := n0_; have HB := n1_; clear n0_ n1_; (try clear hb); (try clear hb2); (try clear hk); (try clear hi)))
  have n0_ := kzA (kAI BK180.out)
  have n1_ := kzA (kAC HB.out)
  clear BK180
  clear HB
  have BK180 := n0_
  have HB := n1_
  clear n0_ n1_
  refine start_ (n := 12) (S := fun w' => w'.cell? ⟨gb180, 0, none⟩ = some (.int .i64 a0_0) ∧ w'.cell? ⟨gb180, 1, none⟩ = some (.int .i64 a0_1) ∧ w'.cell? ⟨gb180, 2, none⟩ = some (.int .i64 a0_2) ∧ w'.cell? ⟨gb180, 3, none⟩ = some (.int .i64 a0_3)) (ds := []) #[false, false, false, false, false, false, false, false, false, false, false, false] (by kernel_rfl) rfl rfl ⟨(kAD BK180.out 0).trans rfl, (kAD BK180.out 1).trans rfl, (kAD BK180.out 2).trans rfl, (kAD BK180.out 3).trans rfl⟩ (fun hHeld => ?_); refine with_tabW seal_Head.tab3 seal_Head.bits3 (fun HT_ HW_ => ?_)
  generalize w7.drew = w8 at BK180 HB hHeld ⊢
  refine kBN (i := 0) (N := some 6) (v := ?_) (a' := ?_) #[true, false, false, false, false, false, false, false, false, false, false, false] rfl rfl (kBG HT_.out (by kernel_rfl)) (fun _ _ _ h => h) (Or.inl ⟨by rfl, ?_⟩) ?_ ?_
  rotate_left
  ·intro w'
   go_simp
   with_reducible rfl
  rotate_left
  ·simp only [Act.put, kzB, kzC, kzD, kAX, kAY]
   rfl
  refine kBN (i := 2) (N := some 8) (v := ?_) (a' := ?_) #[true, false, true, false, false, false, false, false, false, false, false, false] rfl rfl (kBG HT_.out (by kernel_rfl)) (fun _ _ _ h => h) (Or.inl ⟨by rfl, ?_⟩) ?_ ?_
  rotate_left
  ·intro w'
   go_simp
   with_reducible rfl
  rotate_left
  ·simp only [Act.put, kzB, kzC, kzD, kAX, kAY]
   rfl
  refine take_ (i := 1) (N := some 7) (v := ?_) (a' := ?_) #[true, true, true, false, false, false, false, false, false, false, false, false] rfl rfl (kBX HT_.out HW_.out (by kernel_rfl)) (fun _ _ _ h => h) (Or.inl ⟨by rfl, ?_⟩) hHeld ?_ ?_
  rotate_left
  ·rintro w' ⟨s0, s1, s2, s3⟩
   go_simp
   with_reducible rfl
  rotate_left
  ·simp only [Act.put, kzB, kzC, kzD, kAX, kAY]
   rfl
  refine take_ (i := 3) (N := some 9) (v := ?_) (a' := ?_) #[true, true, true, true, false, false, false, false, false, false, false, false] rfl rfl (kBX HT_.out HW_.out (by kernel_rfl)) (fun _ _ _ h => h) (Or.inl ⟨by rfl, ?_⟩) hHeld ?_ ?_
  rotate_left
  ·rintro w' ⟨s0, s1, s2, s3⟩
   go_simp
   with_reducible rfl
  rotate_left
  ·simp only [Act.put, kzB, kzC, kzD, kAX, kAY]
   rfl
  refine kBN (i := 4) (N := some 10) (v := ?_) (a' := ?_) #[true, true, true, true, true, false, false, false, false, false, false, false] rfl rfl (kBG HT_.out (by kernel_rfl)) (fun _ _ _ h => h) (Or.inl ⟨by rfl, ?_⟩) ?_ ?_
  rotate_left
  ·intro w'
   go_simp
   with_reducible rfl
  rotate_left
  ·simp only [Act.put, kzB, kzC, kzD, kAX, kAY]
   rfl
  refine kBN (i := 5) (N := some 11) (v := ?_) (a' := ?_) #[true, true, true, true, true, true, false, false, false, false, false, false] rfl rfl (kBG HT_.out (by kernel_rfl)) (fun _ _ _ h => h) (Or.inl ⟨by rfl, ?_⟩) ?_ ?_
  rotate_left
  ·intro w'
   go_simp
   with_reducible rfl
  rotate_left
  ·simp only [Act.put, kzB, kzC, kzD, kAX, kAY]
   rfl
  refine take_ (i := 6) (N := some 12) (v := ?_) (a' := ?_) #[true, true, true, true, true, true, true, false, false, false, false, false] rfl rfl (kBX HT_.out HW_.out (by kernel_rfl)) (fun _ _ _ h => h) (Or.inl ⟨by rfl, ?_⟩) hHeld ?_ ?_
  rotate_left
  ·rintro w' ⟨s0, s1, s2, s3⟩
   go_simp
   with_reducible rfl
  rotate_left
  ·simp only [Act.put, kzB, kzC, kzD, kAX, kAY]
   rfl
  refine one_ (i := 7) (N := some 13) #[true, true, true, true, true, true, true, true, false, false, false, false] rfl rfl (one_of HT_.out (by kernel_rfl)) (by decide) (fun K hK => ?_)
  refine goes_ Tryd.func36 (by kernel_rfl) rfl #[.agg #[.int .i64 a0_0, .int .i64 a0_1, .int .i64 a0_2, .int .i64 a0_3]] (by rfl) rfl rfl (by (try simp only [List.map_toArray, List.map_cons, List.map_nil]); first | done | rfl | (simp only [List.length_drop, List.length_take]; rfl)) ?_
  with_reducible refine (stripe_Blocks.calls a0_0 a0_1 a0_2 a0_3 t182 _ A4.out).mono ?_
  rintro e w9 ⟨rfl, hb⟩
  refine ⟨_, rfl, ?_⟩
  have n0_ := kzA (kAL (g := gb180) (o := .cells #[.int .i64 a0_0, .int .i64 a0_1, .int .i64 a0_2, .int .i64 a0_3] 23 (0, 0)) (by (with_reducible repeat (first | refine kAH ?_ _ | refine kAI ?_ | refine kAG ?_ _)); exact BK180.out) hb)
  have n1_ := kzA (kAK (by repeat (first | (with_reducible first | exact HB.out | apply kAB | apply kAA | apply kAC | refine kAF ?_ GE180.out) | exact HB.out)) hb)
  clear BK180
  clear HB
  have BK180 := n0_
  have HB := n1_
  clear n0_ n1_
  (try clear hb)
  (try clear hb2)
  (try clear hk)
  (try clear hi)
  refine hK.out _ _ ⟨(kAD BK180.out 0).trans rfl, (kAD BK180.out 1).trans rfl, (kAD BK180.out 2).trans rfl, (kAD BK180.out 3).trans rfl⟩ (fun hHeld => ?_)
  clear hK K
  refine norm_ (a' := ?_) ?_ ?_
  rotate_left
  ·show Act.put _ (some 13) _ = _
   simp only [Act.put, kzB, kzC, kzD, kAX, kAY]
   rfl
  refine kBN (i := 8) (N := some 14) (v := ?_) (a' := ?_) #[true, true, true, true, true, true, true, true, true, false, false, false] rfl rfl (kBG HT_.out (by kernel_rfl)) (fun _ _ _ h => h) (Or.inl ⟨by rfl, ?_⟩) ?_ ?_
  rotate_left
  ·intro w'
   go_simp
   with_reducible rfl
  rotate_left
  ·simp only [Act.put, kzB, kzC, kzD, kAX, kAY]
   rfl
  refine kBN (i := 9) (N := some 15) (v := ?_) (a' := ?_) #[true, true, true, true, true, true, true, true, true, true, false, false] rfl rfl (kBG HT_.out (by kernel_rfl)) (fun _ _ _ h => h) (Or.inl ⟨by rfl, ?_⟩) ?_ ?_
  rotate_left
  ·intro w'
   go_simp
   with_reducible rfl
  rotate_left
  ·simp only [Act.put, kzB, kzC, kzD, kAX, kAY]
   rfl
  refine kBN (i := 10) (N := some 16) (v := ?_) (a' := ?_) #[true, true, true, true, true, true, true, true, true, true, true, false] rfl rfl (kBG HT_.out (by kernel_rfl)) (fun _ _ _ h => h) (Or.inl ⟨by rfl, ?_⟩) ?_ ?_
  rotate_left
  ·intro w'
   go_simp
   with_reducible rfl
  rotate_left
  ·simp only [Act.put, kzB, kzC, kzD, kAX, kAY]
   rfl
  refine kBN (i := 11) (N := some 2) (v := ?_) (a' := ?_) #[true, true, true, true, true, true, true, true, true, true, true, true] rfl rfl (kBG HT_.out (by kernel_rfl)) (fun _ _ _ h => h) (Or.inl ⟨by rfl, ?_⟩) ?_ ?_
  rotate_left
  ·intro w'
   go_simp
   with_reducible rfl
  rotate_left
  ·simp only [Act.put, kzB, kzC, kzD, kAX, kAY]
   rfl
  refine done_ (done_of HT_.out (by kernel_rfl)) ?_
  try go_wp2
  go_ret
  exact ⟨by first | rfl | (simp [kAN, kAM] <;> rfl) | (simp [*, kAN, kAM] <;> rfl), by repeat (first | (with_reducible first | exact HB.out | apply kAB | apply kAA | apply kAC | refine kAF ?_ GE180.out) | exact HB.out)⟩
 ·replace c3 := Bool.eq_false_iff.mpr c3
  subst c3
  have H1 : (some 0) = some r := by rw [if_neg (show ¬ (false = true) by decide)] at H; exact H
  clear H
  have H := H1
  clear H1
  obtain rfl := Option.some.inj H
  go_enter Tryd.func14, Tryd.ntmps14
  go_wp2_with (first | ((with_reducible refine kBA (N := 1) rfl ?_); refine kBD ?hg (N := 1) ?hd (cs := #[.int .i64 a0_0, .int .i64 a0_1, .int .i64 a0_2, .int .i64 a0_3]) (t := 23) ?hr ?_; (case hd => rfl); (case hg => rfl); (case hr => first | (go_simp; done) | (go_simp; rfl)); intro gb180 hg w10 hbox hb; have n0_ := kzA (kAK (by repeat (first | (with_reducible first | exact HB.out | apply kAB | apply kAA | apply kAC) | exact HB.out)) hb); have n1_ := kzA (hbox); have n2_ := kzA ((by rw [hg]; exact (kAJ (by repeat (first | (with_reducible first | exact HB.out | apply kAB | apply kAA | apply kAC) | exact HB.out))) : w.heap.size ≤ gb180)); have n3_ := kzA ((by rw [hg]; exact (kAJ (by repeat (first | (with_reducible first | exact HB.out | apply kAB | apply kAA | apply kAC) | exact HB.out))) : w.heap.size ≤ gb180)); clear HB; have HB := n0_; have BK180 := n1_; have GW180 := n2_; have GE180 := n3_; clear n0_ n1_ n2_ n3_; clear hb hbox hg; have hcz11_0 : w10.cell? ⟨gb180, 0, none⟩ = some (.int .i64 a0_0) := (kAD BK180.out 0).trans rfl; have hcz11_1 : w10.cell? ⟨gb180, 1, none⟩ = some (.int .i64 a0_1) := (kAD BK180.out 1).trans rfl; have hcz11_2 : w10.cell? ⟨gb180, 2, none⟩ = some (.int .i64 a0_2) := (kAD BK180.out 2).trans rfl; have hcz11_3 : w10.cell? ⟨gb180, 3, none⟩ = some (.int .i64 a0_3) := (kAD BK180.out 3).trans rfl; have hfz11_0 := kAE BK180.out 0; have hfz11_1 := kAE BK180.out 1; have hfz11_2 := kAE BK180.out 2; have hfz11_3 := kAE BK180.out 3) | ((with_reducible refine kAQ (f := 35) rfl ?_); refine kBI (some 4) rfl rfl Tryd.func35 (by kernel_rfl) rfl #[.agg #[.int .i64 a0_0, .int .i64 a0_1, .int .i64 a0_2, .int .i64 a0_3]] rfl (by (try simp only [List.map_toArray, List.map_cons, List.map_nil]); first | done | rfl | (simp only [List.length_drop, List.length_take]; rfl)) ?_; (with_reducible refine (stripe_Right.calls a0_0 a0_1 a0_2 a0_3 false _ A2.out).mono ?_); rintro e w12 ⟨rfl, hb⟩; refine ⟨_, rfl, ?_⟩; have n0_ := kzA (kAL (g := gb180) (o := .cells #[.int .i64 a0_0, .int .i64 a0_1, .int .i64 a0_2, .int .i64 a0_3] 23 (0, 0)) (by (with_reducible repeat (first | refine kAH ?_ _ | refine kAI ?_ | refine kAG ?_ _)); exact BK180.out) hb); have n1_ := kzA (kAK (by repeat (first | (with_reducible first | exact HB.out | apply kAB | apply kAA | apply kAC | refine kAF ?_ GE180.out) | exact HB.out)) hb); clear BK180; clear HB; have BK180 := n0_; have HB := n1_; clear n0_ n1_; (try clear hb); (try clear hb2); (try clear hk); (try clear hi)))
  go_ret
  exact ⟨by first | rfl | (simp [kAN, kAM] <;> rfl) | (simp [*, kAN, kAM] <;> rfl), by repeat (first | (with_reducible first | exact HB.out | apply kAB | apply kAA | apply kAC | refine kAF ?_ GE180.out) | exact HB.out)⟩
def cnt (L n : Nat) : Nat := (L + n - 1) / n
theorem cnt_lt {L n x : Nat} (hn : 0 < n) : x < cnt L n ↔ x * n < L := by
 unfold cnt
 rw [Nat.lt_div_iff_mul_lt hn]
 omega
def KpB (Bs Bn : Nat) (W W' : World) : Prop := W'.heap[Bs]? = W.heap[Bs]? ∧ W'.heap[Bn]? = W.heap[Bn]?
theorem KpB.t {Bs Bn : Nat} {A B C : World} (h : KpB Bs Bn A B) (k : KpB Bs Bn B C) : KpB Bs Bn A C := ⟨k.1.trans h.1, k.2.trans h.2⟩
theorem KpB.b {Bs Bn : Nat} {w : World} (h1 : Bs < w.heap.size) (h2 : Bn < w.heap.size) (W : World) (l : Nat) (o o' : Obj) (hl : w.heap.size ≤ l) (h : W.heap[l]? = some o) (_ : o.isCells = false) (_ : o.isWalk = false) : KpB Bs Bn W (W.putObj l o') :=
 ⟨World.putObj_heap_other (by omega), World.putObj_heap_other (by omega)⟩
section
open Go.Shelf
attribute [local go_sem] Oper.semAt_some
def piece (A : Option Addr) (L n x : Nat) : Value := .slice (A.map (·.add (x * n))) (min n (L - x * n)) (min n (L - x * n))
set_option maxHeartbeats 2000000 in
set_option maxRecDepth 100000 in
theorem chunk1_in (l Bs Bn : Nat) (A : Option Addr) (L c n : Nat) (hn : 0 < n) (hLc : L ≤ c) (hL : L ≤ 100000000000) (hn2 : n ≤ 100000000000) (J Jx : List Nat → World → Prop) (hJd : ∀ pre W m, J pre W → J pre (W.drewN m))
  (hY : ∀ pre x W, J pre W → pre.length < cnt L n → YieldAt Fence.wide 1 Tryd.prog l #[piece A L n x] W fun e W' =>
   (e = .returned (.bool true) ∧ J (pre ++ [x]) W' ∧ KpB Bs Bn W W') ∨ (e = .returned (.bool false) ∧ Jx (pre ++ [x]) W'))
  (W : World) (hs : W.heap[Bs]? = some (.cells #[.slice A L c] 27 (0, 0))) (hb : W.heap[Bn]? = some (.cells #[.int .i64 (n : Int)] 3 (0, 0))) (h0 : J [] W) :
  CallsIn Fence.wide 2 Tryd.prog 60 #[.func (.yield l) #[] #[], .pointer (some ⟨Bs, 0, none⟩), .pointer (some ⟨Bn, 0, none⟩)] W fun e W' => (∃ v, e = .returned v) ∧
   ((∃ ys, ys = List.range (cnt L n) ∧ J ys W') ∨ (∃ pre : List Nat, True ∧ Jx pre W')) := by
 have HS := kzA hs
 have HB := kzA hb
 have HJD := kzA hJd
 clear hs hb hJd
 refine callsIn_of_wp Tryd.func60 rfl trivial ?_ rfl
 simp only [Tryd.ntmps60, List.size_toArray, List.length_cons, List.length_nil, Nat.reduceAdd, Nat.reduceSub, Array.replicate_succ, Array.replicate_zero, List.push_toArray, List.append_toArray, List.nil_append, List.cons_append]
 gi_wp2
 gi_loopw [4] (fun i wr => ∃ k : Nat, k ≤ cnt L n ∧ i = .int .i64 ((k * n : Nat) : Int) ∧ Aside0 (J (List.range k) wr ∧ KpB Bs Bn W wr)) (fun i _ => (cnt L n) * n - (intOf i).toNat)
 case atStart => exact ⟨0, Nat.zero_le _, by simp, ⟨h0, rfl, rfl⟩⟩
 case round =>
  obtain ⟨k, hk, rfl, H⟩ := hrel
  have bs := H.out.2.1.trans HS.out
  have bn := H.out.2.2.trans HB.out
  have q1 : wr.cell? ⟨Bs, 0, none⟩ = some (.slice A L c) := (kAD bs 0).trans rfl
  have q2 : wr.cell? ⟨Bn, 0, none⟩ = some (.int .i64 (n : Int)) := (kAD bn 0).trans rfl
  have HBS := kzA bs
  have HBN := kzA bn
  clear bs bn
  by_cases hlt : k < cnt L n
  ·have hkn : k * n < L := (cnt_lt hn).1 hlt
   obtain ⟨m, hm⟩ : ∃ m, m = k * n := ⟨_, rfl⟩
   obtain ⟨E, hE⟩ : ∃ E, E = min n (L - m) := ⟨_, rfl⟩
   obtain ⟨pv, hpv⟩ : ∃ pv, pv = piece A L n k := ⟨_, rfl⟩
   rw [← hm] at hkn
   have hE0 : 0 < E := by omega
   have hE1 : m + E ≤ L := by omega
   have eE : (if L - m < n then ((L - m : Nat) : Int) else (n : Int)) = (E : Int) := by
    rw [hE]; split <;> omega
   have d1 : decide ((m : Int) < (L : Int)) = true := by simp; omega
   have d2 : decide (m < L) = true := by simp; omega
   obtain ⟨j0, hj0, _, hsz, _⟩ := info_parts info5
   have hcut1 := cut_from (P := Tryd.prog) 27 5 .i64 Tryd.underlying27 hj0 1 hsz A L c (m : Int) (by omega) (by omega)
   rw [Int.toNat_natCast] at hcut1
   generalize (if c = m then A else A.map (·.add (m * 1))) = A1 at hcut1
   have hcut2 : ∀ W : World, (Instr.slice 27 (.slice A L c) (some (.int .i64 (m : Int))) (some (.int .i64 ((m : Int) + (E : Int)))) (some (.int .i64 ((m : Int) + (E : Int))))).run Tryd.prog W = .ok pv W := by
    intro W
    have hel : Tryd.prog.elem 27 = 5 := by simp [Program.elem, Tryd.underlying27]
    have hu : Tryd.prog.underlying 27 = some (.slice (Tryd.prog.elem 27)) := by rw [hel]; exact Tryd.underlying27
    rw [run_slice_lhm W 27 A L c hu .i64 .i64 .i64 (m : Int) ((m : Int) + (E : Int)) ((m : Int) + (E : Int)) (by omega) (by omega) (by omega) (by omega), hel]
    have e1 : ((m : Int) + (E : Int)).toNat = m + E := by omega
    have e2 : ¬ m + E = m := by omega
    simp [sizeOf, typeInfo, hj0, hsz, sliced, Result.andThen, e1, e2, hpv, piece, ← hm, ← hE]
    omega
   have HM := kzA hm
   have HE := kzA eE
   have HP := kzA hpv
   clear hj0 hsz hm hE eE hpv
   rw [← HM.out]
   gi_wp2
   refine wpIn_wide.2 ?_
   go_quiet (fail)
   rw [HE.out]
   obtain ⟨fn, tmps, assign, body, hy, hR⟩ := hY (List.range k) k (wr.drewN nq) (HJD.out _ _ nq H.out.1) (by simpa using hlt)
   rw [← HP.out] at hy
   gi_wp2
   refine hR.mono ?_
   rintro e W3 (⟨rfl, hJ3, hk3⟩ | ⟨rfl, hJx3⟩)
   ·have t2 : W3.cell? ⟨Bn, 0, none⟩ = some (.int .i64 (n : Int)) := (kAD (hk3.2.trans HBN.out) 0).trans rfl
    have HJ3 := kzA hJ3
    have HK3 := kzA (KpB.t H.out.2 hk3)
    have hmn : Aside0 ((m : Int) + (n : Int) = (((k + 1) * n : Nat) : Int)) := ⟨by rw [Nat.add_mul, Nat.one_mul, ← HM.out]; omega⟩
    have hle : Aside0 ((k + 1) * n ≤ cnt L n * n) := ⟨Nat.mul_le_mul_right _ hlt⟩
    have HM2 : Aside0 (m + n = (k + 1) * n) := ⟨by rw [Nat.add_mul, Nat.one_mul, ← HM.out]⟩
    clear hJ3 hk3
    gi_wp2
    go_roundw
    case rel => exact ⟨k + 1, by omega, by rw [hmn.out], ⟨by rw [List.range_succ]; exact HJ3.out, HK3.out⟩⟩
    case measure => simp [intOf]; have := hle.out; have := HM2.out; omega
   ·gi_wp2
    refine bodyPost_ret (results_none rfl _ _ _) rfl ?_
    exact ⟨⟨_, rfl⟩, .inr ⟨_, trivial, hJx3⟩⟩
  ·have hkn : ¬ k * n < L := fun h => hlt ((cnt_lt hn).2 h)
   have hke : Aside0 (k = cnt L n) := ⟨by omega⟩
   generalize hm : k * n = m at *
   have d1 : decide ((m : Int) < (L : Int)) = false := by simp; omega
   have d2 : decide (m < L) = false := by simp; omega
   clear hkn hm
   gi_wp2
   go_end0
   exact ⟨⟨_, rfl⟩, .inl ⟨_, rfl, by rw [← hke.out]; exact H.out.1⟩⟩
set_option maxHeartbeats 1000000 in
theorem chunk_calls (A : Option Addr) (L c n : Nat) (hn : 0 < n) (hn2 : n ≤ 100000000000) (w : World) :
  Calls Tryd.prog 54 #[.slice A L c, .int .i64 (n : Int)] w fun e w' => e = .returned (.func (.func 60) #[] #[.pointer (some ⟨w.heap.size, 0, none⟩), .pointer (some ⟨w.heap.size + 1, 0, none⟩)]) ∧ w' = (w.alloc (.cells #[.slice A L c] 27)).alloc (.cells #[.int .i64 (n : Int)] 3) := by
 have d1 : decide ((n : Int) < 1) = false := by simp; omega
 have d2 : decide (n < 1) = false := by simp; omega
 go_enter Tryd.func54, Tryd.ntmps54
 go_wp2
 go_ret
 exact ⟨rfl, rfl⟩
theorem chunk_stops (Bs Bn : Nat) (A : Option Addr) (L c n : Nat) (hn : 0 < n) (hLc : L ≤ c) (hL : L ≤ 100000000000) (hn2 : n ≤ 100000000000) (w : World)
  (hs : w.heap[Bs]? = some (.cells #[.slice A L c] 27 (0, 0))) (hb : w.heap[Bn]? = some (.cells #[.int .i64 (n : Int)] 3 (0, 0))) :
  SeqStopsK Fence.wide 2 Tryd.prog 60 #[.pointer (some ⟨Bs, 0, none⟩), .pointer (some ⟨Bn, 0, none⟩)] (fun x : Nat => #[piece A L n x]) (KpB Bs Bn) (fun ys => ys = List.range (cnt L n)) (fun _ => True) (cnt L n) w := fun l J Jx W hW hJ _ hY h0 =>
 chunk1_in l Bs Bn A L c n hn hLc hL hn2 J Jx (fun pre W1 m h => hJ pre W1 (W1.drewN m) none h ⟨rfl, rfl, rfl, Nat.le_refl _, fun _ _ _ => rfl⟩ (fun r e => by cases e)) hY W (kAL hs hW) (kAL hb hW) h0
def crcOf (l : List Int) : Int := Go.bits .xor .u32 IntKind.u32.max (l.foldl crcStep (Go.bits .xor .u32 IntKind.u32.max 0))
theorem crc_Sum_same (A0 : Option Addr) (c0 : Nat) (l0 : List Int) (w : World) (hG : Glob w) (hr0 : Kd.C (Kd.int .u8) w A0 l0.length l0) (hc0 : l0.length ≤ c0) :
  Calls Tryd.prog 29 #[.slice A0 l0.length c0] w fun e w' => e = .returned (.int .u32 (crcOf l0)) ∧ w' = w := by
 have HR := kzA hr0
 clear hr0
 go_enter Tryd.func29, Tryd.ntmps29
 go_wp2_with (go_at_call 51; refine (crc_Update_same 0 A0 c0 l0 (crcOf l0) _ hG HR.out hc0 rfl).mono ?_; rintro e w1 ⟨rfl, rfl⟩)
 go_ret
 exact ⟨rfl, rfl⟩
theorem oper_in_round {P : Program} {o : Oper} {a : Act} {w : World} {K : Act → World → Prop} {Q : Exit → Act → World → Prop} (l n : Nat) (hd : ∀ c, o.op ≠ .defer c) (h : o.wp P a w K Q) : o.wpIn (Fence.wide.inRound l) n P a w K Q := by
 refine ⟨fun _ _ => trivial, ?_⟩
 have h' : o.upon P a K Q ((execOp a.eval o).run P w) := h
 rw [show (Fence.wide.inRound l).round = some l from rfl, Oper.semAt_some l a.eval o hd]
 generalize (execOp a.eval o).run P w = r at h'
 cases r with
 | ok x w' =>
  cases x with
  | enter f args => exact ⟨(fun h => by cases h), CallsIn.inRound l (callsIn_wide.2 h')⟩
  | row row args => exact ⟨(fun h => by cases h), fun c cs _ => let ⟨v, w2, hr, hs⟩ := h' c cs; ⟨v, w2, hr, stepsIn_wide.2 hs⟩⟩
  | round _ _ _ _ _ => exact absurd h' (by simp [Oper.upon])
  | _ => first | exact h' | exact absurd h' (by simp [Oper.upon])
 | halt x w' =>
  cases x with
  | panic v => exact h'
  | _ => exact absurd h' (by simp [Oper.upon])
def pieceOf (l : List Int) (n k : Nat) : List Int := (l.drop (k * n)).take n
theorem pieceOf_length (l : List Int) (n k : Nat) : (pieceOf l n k).length = min n (l.length - k * n) := by simp [pieceOf, List.length_take, List.length_drop]
theorem piece_C {w : World} {A : Option Addr} {l : List Int} (h : Kd.C (Kd.int .u8) w A l.length l) (n x : Nat) : Kd.C (Kd.int .u8) w (A.map (·.add (x * n))) (pieceOf l n x).length (pieceOf l n x) := by
 by_cases hx : x * n < l.length
 ·have := Kd.C_mid (lo := x * n) (hi := x * n + min n (l.length - x * n)) (c := l.length) h (by omega) (by omega) (Nat.le_refl _)
  rw [if_neg (by omega), List.drop_take, show x * n + min n (l.length - x * n) - x * n = min n (l.length - x * n) from by omega, show (Kd.int .u8).sz = 1 from rfl, Nat.mul_one] at this
  have e : (l.drop (x * n)).take (min n (l.length - x * n)) = pieceOf l n x := by
   unfold pieceOf
   rw [← List.length_drop, ← List.take_eq_take_min]
  rwa [e] at this
 ·have e : pieceOf l n x = [] := by
   have := pieceOf_length l n x
   exact List.eq_nil_of_length_eq_zero (by omega)
  rw [e]
  exact ⟨rfl, by simp, fun h => by simp at h⟩
theorem append_in_round {P : Program} {ops : Array Oper} {o : Oper} {a : Act} {Q : Exit → Act → World → Prop} {Kc : Act → World → Prop} {E : Prop} {α : Type} (d : Kd α) {w0 W : World} (base l n : Nat) (hg : o.guard = none) (s x : Operand) (t e : TypeId) (z : Value) (bytes : Nat)
  (ho : o.op = .call { callee := .builtin .append, args := #[s, x], argTypes := #[t, t] })
  (ht : P.underlying t = some (.slice e)) (hinfo : (P.info? e).map (fun i => (i.zero, i.size, i.bytes)) = some (some z, d.sz, bytes)) (hz : z.cells.size = d.sz) (hs0 : 0 < d.sz) (hb0 : 0 < bytes)
  (v : Value) (xs : List α) (p : α) (cs : List Value) (ok okp : Nat → Prop) (hs : a.eval s = v) (hx : a.eval x = .slice (some ⟨W.heap.size, 0, none⟩) 1 1) (hp : d.M W base okp p cs) (hokp : ∀ k, okp k → ok k ∧ some k ≠ v.ownBlock) (hfresh : ∀ k, W.heap.size ≤ k → ok k)
  (HO : d.R e W base ok v xs) (HB : Below base w0 W) (hbase : base ≤ W.heap.size) (hl : (xs.length + 1) * bytes ≤ 140737488355328)
  (h : ∀ v1 w1, d.R e w1 base ok v1 (xs ++ [p]) → Below base w0 w1 → W.grownBy w1 v.ownBlock → (v1.ownBlock = v.ownBlock ∨ ∃ b, v1.ownBlock = some b ∧ W.heap.size ≤ b) → Kc (a.put o.dst v1) w1) :
  if Region.wanted o (yielded ops a.tmps) = true then Oper.wpIn (Fence.wide.inRound l) n P o a (W.alloc (.cells cs.toArray e)) Kc Q else E := by
 have hw : Region.wanted o (yielded ops a.tmps) = true := by simp [Region.wanted, hg]
 have := Kd.R_append_step (Q := Q) d base hw s x t e z bytes ho ht hinfo hz hs0 hb0 v xs p cs ok okp hs hx hp hokp hfresh HO HB hbase hl h
 rw [if_pos hw] at this ⊢
 exact oper_in_round l n (by intro c; rw [ho]; simp) this
theorem KeepsOthers.grownRow {W w1 : World} {n₀ e size k : Nat} {v : Value} {xs : List Value} (hrow : W.ownsRow n₀ e size v k xs) (hg : W.grownBy w1 v.ownBlock) : KeepsOthers W w1 :=
 KeepsOthers.of_grownBy hg fun j o ej hj => by
  rcases hrow.2 with ⟨rfl, _⟩ | ⟨g, cap, cur, rfl, _, hgb, _⟩
  ·simp [Value.ownBlock] at ej
  ·obtain rfl : g = j := by simpa [Value.ownBlock] using ej
   rw [hgb] at hj; cases hj; rfl
def crc_Blocks.f (l0 : List Int) (a1 : Int) : Option (List Int) := if l0.length ≤ 100000000000 ∧ a1 ≤ 100000000000 then (if a1 < 1 then some [] else some ((List.range (cnt l0.length a1.toNat)).map fun k => crcOf (pieceOf l0 a1.toNat k))) else none
set_option maxHeartbeats 4000000 in
set_option maxRecDepth 100000 in
theorem crc_Blocks_in (A0 : Option Addr) (c0 : Nat) (l0 : List Int) (n : Nat) (hn : 0 < n) (hn2 : n ≤ 100000000000) (w : World) (hG : Glob w) (hr0 : Kd.C (Kd.int .u8) w A0 l0.length l0) (hc0 : l0.length ≤ c0) (hl : l0.length ≤ 100000000000) :
  Calls Tryd.prog 37 #[.slice A0 l0.length c0, .int .i64 (n : Int)] w fun e w' => ∃ v0_ : Value, e = .returned (v0_) ∧ Kd.R (Kd.int .u32) 54 w' w.heap.size (fun _ => True) v0_ ((List.range (cnt l0.length n)).map fun k => crcOf (pieceOf l0 n k)) ∧ Below w.heap.size w w' := by
 have HR := kzA hr0
 have HG := kzA hG
 have HC := kzA hc0
 clear hr0 hG hc0
 have d1 : decide ((n : Int) < 1) = false := by simp; omega
 have d2 : decide (n < 1) = false := by simp; omega
 refine (callsIn_wide (n := 3)).1 ?_
 refine callsIn_of_wp_marks Tryd.func37 rfl trivial ?_ rfl
 simp only [Tryd.ntmps37, List.size_toArray, List.length_cons, List.length_nil, Nat.reduceAdd, Nat.reduceSub, Array.replicate_succ, Array.replicate_zero, List.push_toArray, List.append_toArray, List.nil_append, List.cons_append]
 gi_wp2_with (refine ⟨trivial, ?_⟩; gi_at_call 54; refine (callsIn_wide.2 (chunk_calls A0 l0.length c0 n hn hn2 _)).mono ?_; rintro e w' ⟨rfl, rfl⟩)
 have bO : Boxed (w.alloc (.cells #[.slice none 0 0] 56)) w.heap.size 56 (.slice none 0 0) := Boxed.new w _ _
 have bS := heap_alloc_new (w.alloc (.cells #[.slice none 0 0] 56)) (.cells #[.slice A0 l0.length c0] 27)
 have bN := heap_alloc_new ((w.alloc (.cells #[.slice none 0 0] 56)).alloc (.cells #[.slice A0 l0.length c0] 27)) (.cells #[.int .i64 (n : Int)] 3)
 have hB0 : Below w.heap.size w (((w.alloc (.cells #[.slice none 0 0] 56)).alloc (.cells #[.slice A0 l0.length c0] 27)).alloc (.cells #[.int .i64 (n : Int)] 3)) := kAB (kAB (kAB (Below.refl _ _) _) _) _
 have bO3 := (bO.alloc (.cells #[.slice A0 l0.length c0] 27)).alloc (.cells #[.int .i64 (n : Int)] 3)
 have bS3 := kAG bS (.cells #[.int .i64 (n : Int)] 3)
 simp only [World.size_alloc] at bS3 bN
 obtain ⟨W0, hW0⟩ : ∃ W0, ((w.alloc (.cells #[.slice none 0 0] 56)).alloc (.cells #[.slice A0 l0.length c0] 27)).alloc (.cells #[.int .i64 (n : Int)] 3) = W0 := ⟨_, rfl⟩
 have hsz : W0.heap.size = w.heap.size + 3 := by rw [← hW0]; simp
 rw [hW0] at bN bS3 bO3 hB0 ⊢
 clear hW0 bO bS
 refine wpIn_rangeFunc_ownG (F := Fence.wide) (n := 3) (w0 := W0) rfl (by omega) (gf := 60) (lb := #[.pointer (some ⟨w.heap.size + 1, 0, none⟩), .pointer (some ⟨w.heap.size + 1 + 1, 0, none⟩)]) rfl trivial (enters_of Tryd.func60 (by kernel_rfl) rfl)
  (chunk_stops (w.heap.size + 1) (w.heap.size + 1 + 1) A0 l0.length c0 n hn HC.out hl hn2 W0 bS3 bN) KpB.t (KpB.b (by omega) (by omega)) (Below.refl _ _) (fun _ => rfl)
  (fun (pre : List Nat) W => (∃ v, Boxed W w.heap.size 56 v ∧ W.ownsRow w.heap.size 54 1 v (pre.map fun k => crcOf (pieceOf l0 n k)).length (encs (Value.int .u32) (pre.map fun k => crcOf (pieceOf l0 n k))) ∧ True) ∧ Below w.heap.size w W ∧ Boxed W (w.heap.size + 1) 27 (.slice A0 l0.length c0) ∧ Boxed W (w.heap.size + 1 + 1) 3 (.int .i64 (n : Int)))
  (fun _ _ _ => False)
  (OwnFrom.and (Own.from (holdsRow_own w.heap.size w.heap.size 56 54 1 (fun (pre : List Nat) => (pre.map fun k => crcOf (pieceOf l0 n k)).length) (fun (pre : List Nat) => encs (Value.int .u32) (pre.map fun k => crcOf (pieceOf l0 n k))) (fun _ _ => True)) _) (OwnFrom.and (ownFrom_below (Nat.le_refl _) (by omega)) (fun _ W W' row h hg hr => ⟨h.1.kept hg (fun e' => by have := (hr _ e'.symm).1; omega), h.2.kept hg (fun e' => by have := (hr _ e'.symm).1; omega)⟩)))
  (fun _ _ _ _ _ hs _ _ => hs)
  ⟨⟨_, bO3, World.ownsRow_nil _ _ _ _, trivial⟩, hB0, bS3, bN⟩
  (fun (x : Nat) => { tmps := #[.slice A0 l0.length c0, .int .i64 (n : Int), undef, undef, .slice none 0 0, .pointer (some ⟨w.heap.size, 0, none⟩), piece A0 l0.length n x, .int .i64 (n : Int), .bool false, .slice A0 l0.length c0, .int .i64 (n : Int), .func (.func 60) #[] #[.pointer (some ⟨w.heap.size + 1, 0, none⟩), .pointer (some ⟨w.heap.size + 1 + 1, 0, none⟩)], piece A0 l0.length n x, undef, undef, undef, undef, undef, undef], defers := [] }) ?assign ?body ?done ?stop
 case assign =>
  intro l x W K hK
  gi_wp2
  exact hK
 case body =>
  rintro l pre x W ⟨⟨v, hv, hrow, _⟩, hB, hS, hN⟩ hlt
  have hmx : Tryd.prog.follows .mixedOrders = true := by kernel_rfl
  have HPC := kzA (piece_C (Kd.kCG HR.out hB) n x)
  have HGW := kzA (HG.out.below hB)
  have hpv : piece A0 l0.length n x = .slice (A0.map (·.add (x * n))) (pieceOf l0 n x).length (pieceOf l0 n x).length := by rw [pieceOf_length]; rfl
  have hc := hv.cell
  have hf := hv.frozen
  have hlp : (pre.map fun k => crcOf (pieceOf l0 n k)).length ≤ 100000000000 := by
   have h1 : cnt l0.length n ≤ l0.length := by
    unfold cnt
    rcases Nat.eq_zero_or_pos l0.length with h | h
    ·rw [h, Nat.div_eq_of_lt (by omega)]; exact Nat.le_refl _
    ·rw [Nat.div_le_iff_le_mul_add_pred hn]
     have : l0.length ≤ n * l0.length := Nat.le_mul_of_pos_left _ hn
     omega
   rw [List.length_map]; omega
  have HV := kzA hv
  have HRW := kzA hrow
  have HRR := kzA (Kd.kAO (Kd.R_of_own (h1 := fun _ => rfl) hrow (ok := fun _ => True) (fun _ _ => trivial)) 1)
  have HBW := kzA hB
  have HSW := kzA hS
  have HNW := kzA hN
  have hc3 := (Boxed.alloc (W := W.drewN 1) hv (.cells #[.int .u32 (crcOf (pieceOf l0 n x))] 54)).cell
  have hc2 : (W.drewN 1).cell? ⟨w.heap.size, 0, none⟩ = some v := hv.cell
  clear hv hrow hB hS hN
  gi_wp2
  rw [hpv]
  refine wpIn_region_any hmx ?_
  change wpAnyIn _ _ _ _ _ _ _ _ _ (World.drew _)
  refine wpAnyIn_ready (rs := [0, 1]) (by kernel_rfl) (by simp) ?_
  refine AllReadyIn.cons rfl (fun K hK => ?_) (AllReadyIn.cons rfl (fun K hK => ?_) (AllReadyIn.nil))
  ·skip
   go_simp
   refine hK _ _ ?_
   clear hK K
   refine wpAnyIn_ready (rs := [1]) (by kernel_rfl) (by simp) ?_
   refine AllReadyIn.cons rfl (fun K hK => ?_) (AllReadyIn.nil)
   go_simp
   refine hK _ _ ?_
   clear hK K
   refine wpAnyIn_ready (rs := [2]) (by kernel_rfl) (by simp) ?_
   refine AllReadyIn.cons rfl (fun K hK => ?_) (AllReadyIn.nil)
   gi_wp2_with (refine ⟨trivial, ?_⟩; gi_at_call 29; refine (CallsIn.inRound l (callsIn_wide.2 (crc_Sum_same _ _ (pieceOf l0 n x) _ (HGW.out.below (kAA (Below.refl _ _) 1)) (Kd.kBF HPC.out 1) (Nat.le_refl _)))).mono ?_; rintro e w' ⟨rfl, rfl⟩)
   refine wpAnyIn_ready (rs := [3]) (by kernel_rfl) (by simp) ?_
   refine AllReadyIn.cons rfl (fun K hK => ?_) (AllReadyIn.nil)
   go_simp
   refine hK _ _ ?_
   clear hK K
   refine wpAnyIn_ready (rs := [4]) (by kernel_rfl) (by simp) ?_
   refine AllReadyIn.cons rfl (fun K hK => ?_) AllReadyIn.nil
   refine append_in_round (Kd.int .u32) (w0 := w) w.heap.size l _ rfl (.tmp 13) (.tmp 16) 56 54 (.int .u32 0) 4 rfl Tryd.underlying56 info54 rfl (by decide) (by omega) v _ (crcOf (pieceOf l0 n x)) [.int .u32 (crcOf (pieceOf l0 n x))] (fun _ => True) (fun _ => False) rfl rfl ?aP (fun _ hk => hk.elim) (fun _ _ => trivial) HRR.out (kAA HBW.out 1) HBW.out.size (by omega) ?_
   case aP => exact rfl
   intro v1 w1 ho hb hg hat
   refine hK _ _ ?_
   clear hK K
   have hown := Kd.own_of_R ho
   obtain ⟨A3, c3, hv3, hl3, hC3⟩ := Kd.R_reads ho
   subst hv3
   have hg' : World.grownBy W w1 v.ownBlock := ⟨hg.os, hg.tape, hg.output, hg.size, hg.block⟩
   have hb1 : Boxed w1 w.heap.size 56 v := HV.out.kept hg' (HV.out.not_row (by decide) HRW.out)
   have HS1 := kzA (HSW.out.kept hg' (HSW.out.not_row (by decide) HRW.out))
   have HN1 := kzA (HNW.out.kept hg' (HNW.out.not_row (by decide) HRW.out))
   have HKO := kzA (KeepsOthers.grownRow HRW.out hg')
   have HB1 := kzA hb
   have HOW := kzA hown
   have HBX := kzA hb1
   have s1 := hb1.cell
   have s2 := hb1.frozen
   clear ho hb hg hat hown hC3 hg' hb1
   refine wpAnyIn_ready (rs := [5]) (by kernel_rfl) (by simp) ?_
   refine AllReadyIn.cons rfl (fun K hK => ?_) AllReadyIn.nil
   go_simp
   refine hK _ _ ?_
   clear hK K
   refine wpAnyIn_done (by kernel_rfl) ?_ _
   have eL : (List.map (fun k => crcOf (pieceOf l0 n k)) pre ++ [crcOf (pieceOf l0 n x)]).length = pre.length + 1 := by simp
   have eM : List.map (fun k => crcOf (pieceOf l0 n k)) (pre ++ [x]) = List.map (fun k => crcOf (pieceOf l0 n k)) pre ++ [crcOf (pieceOf l0 n x)] := by simp
   have hS2 := HS1.out.kept (grownBy_setCell' w1 w.heap.size (.slice A3 (pre.length + 1) c3)) (by simp)
   have hN2 := HN1.out.kept (grownBy_setCell' w1 w.heap.size (.slice A3 (pre.length + 1) c3)) (by simp; omega)
   have hO := HOW.out
   rw [eL] at hO
   have hO2 := World.ownsRow.kept hO (grownBy_setCell' w1 w.heap.size (.slice A3 (pre.length + 1) c3)) (.inr (HBX.out.not_row (by decide) hO).symm)
   exact ⟨(HKO.out.trans (KeepsOthers.setCell _ _ _)).from _, ⟨hS2.trans (Eq.symm HSW.out), hN2.trans (Eq.symm HNW.out)⟩, ⟨_, HBX.out.set _, by rw [eM, eL]; exact hO2, trivial⟩, kAF HB1.out (Nat.le_refl _), hS2, hN2⟩
  ·skip
   go_simp
   refine hK _ _ ?_
   clear hK K
   refine wpAnyIn_ready (rs := [0, 2]) (by kernel_rfl) (by simp) ?_
   refine AllReadyIn.cons rfl (fun K hK => ?_) (AllReadyIn.cons rfl (fun K hK => ?_) (AllReadyIn.nil))
   ·skip
    go_simp
    refine hK _ _ ?_
    clear hK K
    refine wpAnyIn_ready (rs := [2]) (by kernel_rfl) (by simp) ?_
    refine AllReadyIn.cons rfl (fun K hK => ?_) (AllReadyIn.nil)
    gi_wp2_with (refine ⟨trivial, ?_⟩; gi_at_call 29; refine (CallsIn.inRound l (callsIn_wide.2 (crc_Sum_same _ _ (pieceOf l0 n x) _ (HGW.out.below (kAA (Below.refl _ _) 1)) (Kd.kBF HPC.out 1) (Nat.le_refl _)))).mono ?_; rintro e w' ⟨rfl, rfl⟩)
    refine wpAnyIn_ready (rs := [3]) (by kernel_rfl) (by simp) ?_
    refine AllReadyIn.cons rfl (fun K hK => ?_) (AllReadyIn.nil)
    go_simp
    refine hK _ _ ?_
    clear hK K
    refine wpAnyIn_ready (rs := [4]) (by kernel_rfl) (by simp) ?_
    refine AllReadyIn.cons rfl (fun K hK => ?_) AllReadyIn.nil
    refine append_in_round (Kd.int .u32) (w0 := w) w.heap.size l _ rfl (.tmp 13) (.tmp 16) 56 54 (.int .u32 0) 4 rfl Tryd.underlying56 info54 rfl (by decide) (by omega) v _ (crcOf (pieceOf l0 n x)) [.int .u32 (crcOf (pieceOf l0 n x))] (fun _ => True) (fun _ => False) rfl rfl ?aP (fun _ hk => hk.elim) (fun _ _ => trivial) HRR.out (kAA HBW.out 1) HBW.out.size (by omega) ?_
    case aP => exact rfl
    intro v1 w1 ho hb hg hat
    refine hK _ _ ?_
    clear hK K
    have hown := Kd.own_of_R ho
    obtain ⟨A3, c3, hv3, hl3, hC3⟩ := Kd.R_reads ho
    subst hv3
    have hg' : World.grownBy W w1 v.ownBlock := ⟨hg.os, hg.tape, hg.output, hg.size, hg.block⟩
    have hb1 : Boxed w1 w.heap.size 56 v := HV.out.kept hg' (HV.out.not_row (by decide) HRW.out)
    have HS1 := kzA (HSW.out.kept hg' (HSW.out.not_row (by decide) HRW.out))
    have HN1 := kzA (HNW.out.kept hg' (HNW.out.not_row (by decide) HRW.out))
    have HKO := kzA (KeepsOthers.grownRow HRW.out hg')
    have HB1 := kzA hb
    have HOW := kzA hown
    have HBX := kzA hb1
    have s1 := hb1.cell
    have s2 := hb1.frozen
    clear ho hb hg hat hown hC3 hg' hb1
    refine wpAnyIn_ready (rs := [5]) (by kernel_rfl) (by simp) ?_
    refine AllReadyIn.cons rfl (fun K hK => ?_) AllReadyIn.nil
    go_simp
    refine hK _ _ ?_
    clear hK K
    refine wpAnyIn_done (by kernel_rfl) ?_ _
    have eL : (List.map (fun k => crcOf (pieceOf l0 n k)) pre ++ [crcOf (pieceOf l0 n x)]).length = pre.length + 1 := by simp
    have eM : List.map (fun k => crcOf (pieceOf l0 n k)) (pre ++ [x]) = List.map (fun k => crcOf (pieceOf l0 n k)) pre ++ [crcOf (pieceOf l0 n x)] := by simp
    have hS2 := HS1.out.kept (grownBy_setCell' w1 w.heap.size (.slice A3 (pre.length + 1) c3)) (by simp)
    have hN2 := HN1.out.kept (grownBy_setCell' w1 w.heap.size (.slice A3 (pre.length + 1) c3)) (by simp; omega)
    have hO := HOW.out
    rw [eL] at hO
    have hO2 := World.ownsRow.kept hO (grownBy_setCell' w1 w.heap.size (.slice A3 (pre.length + 1) c3)) (.inr (HBX.out.not_row (by decide) hO).symm)
    exact ⟨(HKO.out.trans (KeepsOthers.setCell _ _ _)).from _, ⟨hS2.trans (Eq.symm HSW.out), hN2.trans (Eq.symm HNW.out)⟩, ⟨_, HBX.out.set _, by rw [eM, eL]; exact hO2, trivial⟩, kAF HB1.out (Nat.le_refl _), hS2, hN2⟩
   ·skip
    gi_wp2_with (refine ⟨trivial, ?_⟩; gi_at_call 29; refine (CallsIn.inRound l (callsIn_wide.2 (crc_Sum_same _ _ (pieceOf l0 n x) _ (HGW.out.below (kAA (Below.refl _ _) 1)) (Kd.kBF HPC.out 1) (Nat.le_refl _)))).mono ?_; rintro e w' ⟨rfl, rfl⟩)
    refine wpAnyIn_ready (rs := [0, 3]) (by kernel_rfl) (by simp) ?_
    refine AllReadyIn.cons rfl (fun K hK => ?_) (AllReadyIn.cons rfl (fun K hK => ?_) (AllReadyIn.nil))
    ·skip
     go_simp
     refine hK _ _ ?_
     clear hK K
     refine wpAnyIn_ready (rs := [3]) (by kernel_rfl) (by simp) ?_
     refine AllReadyIn.cons rfl (fun K hK => ?_) (AllReadyIn.nil)
     go_simp
     refine hK _ _ ?_
     clear hK K
     refine wpAnyIn_ready (rs := [4]) (by kernel_rfl) (by simp) ?_
     refine AllReadyIn.cons rfl (fun K hK => ?_) AllReadyIn.nil
     refine append_in_round (Kd.int .u32) (w0 := w) w.heap.size l _ rfl (.tmp 13) (.tmp 16) 56 54 (.int .u32 0) 4 rfl Tryd.underlying56 info54 rfl (by decide) (by omega) v _ (crcOf (pieceOf l0 n x)) [.int .u32 (crcOf (pieceOf l0 n x))] (fun _ => True) (fun _ => False) rfl rfl ?aP (fun _ hk => hk.elim) (fun _ _ => trivial) HRR.out (kAA HBW.out 1) HBW.out.size (by omega) ?_
     case aP => exact rfl
     intro v1 w1 ho hb hg hat
     refine hK _ _ ?_
     clear hK K
     have hown := Kd.own_of_R ho
     obtain ⟨A3, c3, hv3, hl3, hC3⟩ := Kd.R_reads ho
     subst hv3
     have hg' : World.grownBy W w1 v.ownBlock := ⟨hg.os, hg.tape, hg.output, hg.size, hg.block⟩
     have hb1 : Boxed w1 w.heap.size 56 v := HV.out.kept hg' (HV.out.not_row (by decide) HRW.out)
     have HS1 := kzA (HSW.out.kept hg' (HSW.out.not_row (by decide) HRW.out))
     have HN1 := kzA (HNW.out.kept hg' (HNW.out.not_row (by decide) HRW.out))
     have HKO := kzA (KeepsOthers.grownRow HRW.out hg')
     have HB1 := kzA hb
     have HOW := kzA hown
     have HBX := kzA hb1
     have s1 := hb1.cell
     have s2 := hb1.frozen
     clear ho hb hg hat hown hC3 hg' hb1
     refine wpAnyIn_ready (rs := [5]) (by kernel_rfl) (by simp) ?_
     refine AllReadyIn.cons rfl (fun K hK => ?_) AllReadyIn.nil
     go_simp
     refine hK _ _ ?_
     clear hK K
     refine wpAnyIn_done (by kernel_rfl) ?_ _
     have eL : (List.map (fun k => crcOf (pieceOf l0 n k)) pre ++ [crcOf (pieceOf l0 n x)]).length = pre.length + 1 := by simp
     have eM : List.map (fun k => crcOf (pieceOf l0 n k)) (pre ++ [x]) = List.map (fun k => crcOf (pieceOf l0 n k)) pre ++ [crcOf (pieceOf l0 n x)] := by simp
     have hS2 := HS1.out.kept (grownBy_setCell' w1 w.heap.size (.slice A3 (pre.length + 1) c3)) (by simp)
     have hN2 := HN1.out.kept (grownBy_setCell' w1 w.heap.size (.slice A3 (pre.length + 1) c3)) (by simp; omega)
     have hO := HOW.out
     rw [eL] at hO
     have hO2 := World.ownsRow.kept hO (grownBy_setCell' w1 w.heap.size (.slice A3 (pre.length + 1) c3)) (.inr (HBX.out.not_row (by decide) hO).symm)
     exact ⟨(HKO.out.trans (KeepsOthers.setCell _ _ _)).from _, ⟨hS2.trans (Eq.symm HSW.out), hN2.trans (Eq.symm HNW.out)⟩, ⟨_, HBX.out.set _, by rw [eM, eL]; exact hO2, trivial⟩, kAF HB1.out (Nat.le_refl _), hS2, hN2⟩
    ·skip
     go_simp
     refine hK _ _ ?_
     clear hK K
     refine wpAnyIn_ready (rs := [0]) (by kernel_rfl) (by simp) ?_
     refine AllReadyIn.cons rfl (fun K hK => ?_) (AllReadyIn.nil)
     go_simp
     refine hK _ _ ?_
     clear hK K
     refine wpAnyIn_ready (rs := [4]) (by kernel_rfl) (by simp) ?_
     refine AllReadyIn.cons rfl (fun K hK => ?_) AllReadyIn.nil
     refine append_in_round (Kd.int .u32) (w0 := w) w.heap.size l _ rfl (.tmp 13) (.tmp 16) 56 54 (.int .u32 0) 4 rfl Tryd.underlying56 info54 rfl (by decide) (by omega) v _ (crcOf (pieceOf l0 n x)) [.int .u32 (crcOf (pieceOf l0 n x))] (fun _ => True) (fun _ => False) rfl rfl ?aP (fun _ hk => hk.elim) (fun _ _ => trivial) HRR.out (kAA HBW.out 1) HBW.out.size (by omega) ?_
     case aP => exact rfl
     intro v1 w1 ho hb hg hat
     refine hK _ _ ?_
     clear hK K
     have hown := Kd.own_of_R ho
     obtain ⟨A3, c3, hv3, hl3, hC3⟩ := Kd.R_reads ho
     subst hv3
     have hg' : World.grownBy W w1 v.ownBlock := ⟨hg.os, hg.tape, hg.output, hg.size, hg.block⟩
     have hb1 : Boxed w1 w.heap.size 56 v := HV.out.kept hg' (HV.out.not_row (by decide) HRW.out)
     have HS1 := kzA (HSW.out.kept hg' (HSW.out.not_row (by decide) HRW.out))
     have HN1 := kzA (HNW.out.kept hg' (HNW.out.not_row (by decide) HRW.out))
     have HKO := kzA (KeepsOthers.grownRow HRW.out hg')
     have HB1 := kzA hb
     have HOW := kzA hown
     have HBX := kzA hb1
     have s1 := hb1.cell
     have s2 := hb1.frozen
     clear ho hb hg hat hown hC3 hg' hb1
     refine wpAnyIn_ready (rs := [5]) (by kernel_rfl) (by simp) ?_
     refine AllReadyIn.cons rfl (fun K hK => ?_) AllReadyIn.nil
     go_simp
     refine hK _ _ ?_
     clear hK K
     refine wpAnyIn_done (by kernel_rfl) ?_ _
     have eL : (List.map (fun k => crcOf (pieceOf l0 n k)) pre ++ [crcOf (pieceOf l0 n x)]).length = pre.length + 1 := by simp
     have eM : List.map (fun k => crcOf (pieceOf l0 n k)) (pre ++ [x]) = List.map (fun k => crcOf (pieceOf l0 n k)) pre ++ [crcOf (pieceOf l0 n x)] := by simp
     have hS2 := HS1.out.kept (grownBy_setCell' w1 w.heap.size (.slice A3 (pre.length + 1) c3)) (by simp)
     have hN2 := HN1.out.kept (grownBy_setCell' w1 w.heap.size (.slice A3 (pre.length + 1) c3)) (by simp; omega)
     have hO := HOW.out
     rw [eL] at hO
     have hO2 := World.ownsRow.kept hO (grownBy_setCell' w1 w.heap.size (.slice A3 (pre.length + 1) c3)) (.inr (HBX.out.not_row (by decide) hO).symm)
     exact ⟨(HKO.out.trans (KeepsOthers.setCell _ _ _)).from _, ⟨hS2.trans (Eq.symm HSW.out), hN2.trans (Eq.symm HNW.out)⟩, ⟨_, HBX.out.set _, by rw [eM, eL]; exact hO2, trivial⟩, kAF HB1.out (Nat.le_refl _), hS2, hN2⟩
 case done =>
  rintro D ys W hD rfl ⟨⟨v, hv, hrow, _⟩, hB, _, _⟩ hK
  have hc := hv.cell
  gi_wp2
  refine ⟨by simp, .inl ⟨_, _, rfl, run_takeDeferred hK, ?_⟩⟩
  refine ⟨_, results_tmp rfl _ _ _, v, rfl, ?_, ?_⟩
  ·exact Kd.R_of_own (h1 := fun _ => rfl) (ownsRow_putObj hrow (.deferred none) hK rfl) (fun _ _ => trivial)
  ·exact hB.trans (belowK_b (w := w) (Nat.le_refl _) W D _ _ (by omega) hK rfl rfl)
 case stop =>
  rintro D c pre W _ _ h _
  exact h.elim
end
theorem crc_Blocks.calls (A0 : Option Addr) (c0 : Nat) (l0 : List Int) (a1 : Int) (r : List Int) (w : World) (hG : Glob w) (hr0 : Kd.C (Kd.int .u8) w A0 l0.length l0) (hc0 : l0.length ≤ c0) (h : crc_Blocks.f l0 a1 = some r) :
  Calls Tryd.prog 37 #[.slice A0 l0.length c0, .int .i64 a1] w fun e w' => ∃ v0_ : Value, e = .returned (v0_) ∧ Kd.R (Kd.int .u32) 54 w' w.heap.size (fun _ => True) v0_ r ∧ Below w.heap.size w w' := by
 unfold crc_Blocks.f at h
 split at h
 case isFalse => cases h
 next hc =>
 obtain ⟨h1, h2⟩ := hc
 split at h
 ·next hlt =>
  injection h with h
  subst h
  have d1 : decide (a1 < 1) = true := by simp; omega
  clear hr0 hG
  go_enter Tryd.func37, Tryd.ntmps37
  go_wp2
  go_ret
  exact ⟨_, rfl, Kd.R_nil _ _ _ _ _, Below.refl _ _⟩
 ·next hlt =>
  obtain ⟨n, rfl⟩ : ∃ n : Nat, a1 = (n : Int) := ⟨a1.toNat, by omega⟩
  rw [Int.toNat_natCast] at h
  injection h with h
  subst h
  exact crc_Blocks_in A0 c0 l0 n (by omega) (by omega) w hG hr0 hc0 h1
end Go.Proofs.YtoamamnbapilhaaDoor.X
