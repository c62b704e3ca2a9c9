import Derived.Test.YtoamamnbapilhaaDoorXx0
import Derived.Test.YtoamamnbapilhaaDoorXx1
namespace Go.Proofs.YtoamamnbapilhaaDoor.X
open Go.RowKit Go.Proofs.YtoamamnbapilhaaDoorW.PrintWords Go.Proofs.YtoamamnbapilhaaDoorW.PrintLast Go.Proofs.YtoamamnbapilhaaDoorW.PrintMore
attribute [local go_sem] max2_int min2_int max_two min_two max_three min_three max_four min_four
set_option linter.unusedVariables false
set_option linter.unusedSimpArgs false
attribute [local go_sem high] eqA36
def footlockerref06_Same.l0 : Nat → List Int → List Int → Int → Option (Bool)
 | 0, _, _, _ => none
 | k + 1, x0, x1, x5 => if x5 < (x0.length : Int) then (if 0 ≤ x5 then (if x5 < (x1.length : Int) then (if (rd x0 x5) = (rd x1 x5) then (footlockerref06_Same.l0 k x0 x1 (wrap64 (x5 + 1))) else (some false)) else (none)) else (none)) else (some true)
def footlockerref06_Same.f (k : Nat) (l0 : List Int) (l1 : List Int) : Option (Bool) := if (l0.length : Int) = (l1.length : Int) then (footlockerref06_Same.l0 k l0 l1 0) else (some false)
theorem footlockerref06_Same.mono_l : ∀ k, (∀ y0 y1 y2, LeO (footlockerref06_Same.l0 k y0 y1 y2) (footlockerref06_Same.l0 (k + 1) y0 y1 y2))
 | 0 => fun _ _ _ r h => by simp [footlockerref06_Same.l0] at h
 | k + 1 => by
  have ih0 := footlockerref06_Same.mono_l k
  ·intro y0 y1 y2
   unfold footlockerref06_Same.l0
   repeat' first
   | (with_reducible exact ih0 _ _ _)
   | (with_reducible exact LeO.refl _)
   | (with_reducible exact LeO.none _)
   | (with_reducible refine LeO.ite ?_ ?_)
   | (with_reducible refine LeO.bind ?_ (fun _ => ?_))
   | exact ih0 _ _ _
   | exact LeO.none _
   | refine LeO.ite ?_ ?_
   | refine LeO.bind ?_ (fun _ => ?_)
theorem footlockerref06_Same.mono : ∀ a0 a1 k, LeO (footlockerref06_Same.f k a0 a1) (footlockerref06_Same.f (k + 1) a0 a1) := by
 intro a0 a1 k
 have ih0 := footlockerref06_Same.mono_l k
 unfold footlockerref06_Same.f
 repeat' first
   | (with_reducible exact ih0 _ _ _)
   | (with_reducible exact LeO.refl _)
   | (with_reducible exact LeO.none _)
   | (with_reducible refine LeO.ite ?_ ?_)
   | (with_reducible refine LeO.bind ?_ (fun _ => ?_))
   | exact ih0 _ _ _
   | exact LeO.none _
   | refine LeO.ite ?_ ?_
   | refine LeO.bind ?_ (fun _ => ?_)
set_option maxHeartbeats 8000000 in
set_option maxRecDepth 100000 in
theorem footlockerref06_Same.calls (k : Nat) (A0 : Option Addr) (c0 : Nat) (l0 : List Int) (A1 : Option Addr) (c1 : Nat) (l1 : List Int) (r : Bool) (w : World) (hr0 : Kd.C (Kd.int .u32) w A0 l0.length l0) (hc0 : l0.length ≤ c0) (hr1 : Kd.C (Kd.int .u32) w A1 l1.length l1) (hc1 : l1.length ≤ c1) (h : footlockerref06_Same.f k l0 l1 = some r) :
  Calls Tryd.prog 39 #[.slice A0 l0.length c0, .slice A1 l1.length c1] w fun e w' => e = .returned (.bool r) ∧ Drawn0 w w' := by
 have HR0 := kzA hr0
 have HC0 := kzA hc0
 clear hr0 hc0
 have HR1 := kzA hr1
 have HC1 := kzA hc1
 clear hr1 hc1
 have H : (if (l0.length : Int) = (l1.length : Int) then (footlockerref06_Same.l0 k l0 l1 0) else (some false)) = some r := h
 clear h
 by_cases c3 : (l0.length : Int) = (l1.length : Int)
 ·rw [if_pos c3] at H
  have c3b0 : ((l0.length : Int) == (l1.length : Int)) = true := beq_iff_eq.mpr c3
  have c3b1 : ((l0.length : Int) != (l1.length : Int)) = false := bne_eq_false_iff_eq.mpr c3
  have c3b2 : (l0.length == l1.length) = true := by first | simpa using c3 | (simp at c3 ⊢; omega)
  clear c3
  have H' := kzA H
  clear H
  go_enter Tryd.func39, Tryd.ntmps39
  go_wp2
  repeat (go_quiet (fail); try go_wp2)
  go_loopg [5] k (fun kq v5 w' => ∃ (x5_1 : Int), v5 = .int .i64 x5_1 ∧ Aside0 (footlockerref06_Same.l0 kq l0 l1 x5_1 = some r) ∧ Aside0 (kq ≤ k) ∧ Drawn0 w w')
  case atStart => exact ⟨(0), (by first | rfl | (simp; done) | (simp [*]; done)), H', ⟨Nat.le_refl _⟩, by repeat (first | exact Drawn0.refl _ | apply Drawn0.step)⟩
  case round =>
   clear H'
   try clear c1
   try clear p2
   try clear c3
   try clear c3b0
   try clear c3b1
   try clear c3b2
   obtain ⟨x5_1, rfl, HA, HK1, ⟨m1, rfl⟩⟩ := hrel
   cases gk with
   | zero => exact absurd HA.out (by simp [footlockerref06_Same.l0])
   | succ k1 =>
    have H := HA.out
    clear HA
    simp only [footlockerref06_Same.l0] at H
    by_cases c4 : x5_1 < (l0.length : Int)
    ·rw [if_pos c4] at H
     have c4b0 : decide (x5_1 < (l0.length : Int)) = true := decide_eq_true c4
     clear c4
     by_cases c5 : 0 ≤ x5_1
     ·rw [if_pos c5] at H
      have c5b0 : decide (0 ≤ x5_1) = true := decide_eq_true c5
      clear c5
      by_cases c6 : x5_1 < (l1.length : Int)
      ·rw [if_pos c6] at H
       have c6b0 : decide (x5_1 < (l1.length : Int)) = true := decide_eq_true c6
       clear c6
       by_cases c7 : (rd l0 x5_1) = (rd l1 x5_1)
       ·rw [if_pos c7] at H
        have c7b0 : ((rd l0 x5_1) == (rd l1 x5_1)) = true := beq_iff_eq.mpr c7
        have c7b1 : ((rd l0 x5_1) != (rd l1 x5_1)) = false := bne_eq_false_iff_eq.mpr c7
        clear c7
        have H' := kzA H
        clear H
        have p267 : 0 ≤ (x5_1 : Int) := of_decide_eq_true (by first | (with_reducible assumption) | assumption)
        have q267 : x5_1 < (l0.length : Int) := of_decide_eq_true (by first | (with_reducible assumption) | assumption)
        obtain ⟨ad267, e267, hx267_0⟩ := Kd.at_int HR0.out x5_1 p267 q267
        cases e267
        replace p267 := eq_true p267
        replace q267 := eq_true q267
        have p268 : 0 ≤ (x5_1 : Int) := of_decide_eq_true (by first | (with_reducible assumption) | assumption)
        have q268 : x5_1 < (l1.length : Int) := of_decide_eq_true (by first | (with_reducible assumption) | assumption)
        obtain ⟨ad268, e268, hx268_0⟩ := Kd.at_int HR1.out x5_1 p268 q268
        cases e268
        replace p268 := eq_true p268
        replace q268 := eq_true q268
        go_wp2
        repeat (go_quiet (fail); try go_wp2)
        go_roundg k1
        case measure => have := HK1.out; omega
        case rel => exact ⟨(wrap64 (x5_1 + 1)), (by first | rfl | (simp; done) | (simp [*]; done)), H', ⟨by have := HK1.out; omega⟩, by repeat (first | exact Drawn0.refl _ | apply Drawn0.step)⟩
       ·rw [if_neg c7] at H
        have c7b0 : ((rd l0 x5_1) == (rd l1 x5_1)) = false := beq_eq_false_iff_ne.mpr c7
        have c7b1 : ((rd l0 x5_1) != (rd l1 x5_1)) = true := bne_iff_ne.mpr c7
        obtain rfl := Option.some.inj H
        have p267 : 0 ≤ (x5_1 : Int) := of_decide_eq_true (by first | (with_reducible assumption) | assumption)
        have q267 : x5_1 < (l0.length : Int) := of_decide_eq_true (by first | (with_reducible assumption) | assumption)
        obtain ⟨ad267, e267, hx267_0⟩ := Kd.at_int HR0.out x5_1 p267 q267
        cases e267
        replace p267 := eq_true p267
        replace q267 := eq_true q267
        have p268 : 0 ≤ (x5_1 : Int) := of_decide_eq_true (by first | (with_reducible assumption) | assumption)
        have q268 : x5_1 < (l1.length : Int) := of_decide_eq_true (by first | (with_reducible assumption) | assumption)
        obtain ⟨ad268, e268, hx268_0⟩ := Kd.at_int HR1.out x5_1 p268 q268
        cases e268
        replace p268 := eq_true p268
        replace q268 := eq_true q268
        go_wp2
        repeat (go_quiet (fail); try go_wp2)
        go_ret
        exact ⟨by first | rfl | (simp; done) | (simp [*]; done), by repeat (first | exact Drawn0.refl _ | apply Drawn0.step)⟩
      ·rw [if_neg c6] at H
       exact absurd H (by simp)
     ·rw [if_neg c5] at H
      exact absurd H (by simp)
    ·rw [if_neg c4] at H
     have c4b0 : decide (x5_1 < (l0.length : Int)) = false := decide_eq_false c4
     clear c4
     obtain rfl := Option.some.inj H
     go_wp2
     repeat (go_quiet (fail); try go_wp2)
     go_ret
     exact ⟨by first | rfl | (simp; done) | (simp [*]; done), by repeat (first | exact Drawn0.refl _ | apply Drawn0.step)⟩
 ·rw [if_neg c3] at H
  have c3b0 : ((l0.length : Int) == (l1.length : Int)) = false := beq_eq_false_iff_ne.mpr c3
  have c3b1 : ((l0.length : Int) != (l1.length : Int)) = true := bne_iff_ne.mpr c3
  have c3b2 : (l0.length == l1.length) = false := by first | simpa using c3 | (simp at c3 ⊢; omega)
  obtain rfl := Option.some.inj H
  go_enter Tryd.func39, Tryd.ntmps39
  go_wp2
  repeat (go_quiet (fail); try go_wp2)
  go_ret
  exact ⟨by first | rfl | (simp; done) | (simp [*]; done), by repeat (first | exact Drawn0.refl _ | apply Drawn0.step)⟩
def footlockerref24_SameSums.l0 : Nat → List (List Int) → List (List Int) → Int → Option (Bool)
 | 0, _, _, _ => none
 | k + 1, x0, x1, x5 => if x5 < (x0.length : Int) then (if 0 ≤ x5 then (if x5 < (x1.length : Int) then ((footlockerref06_Same.f k (rd_L3 x0 x5) (rd_L3 x1 x5)).bind fun t271 => (if t271 = true then (footlockerref24_SameSums.l0 k x0 x1 (wrap64 (x5 + 1))) else (some false))) else (none)) else (none)) else (some true)
def footlockerref24_SameSums.f (k : Nat) (l0 : List (List Int)) (l1 : List (List Int)) : Option (Bool) := if (l0.length : Int) = (l1.length : Int) then (footlockerref24_SameSums.l0 k l0 l1 0) else (some false)
theorem footlockerref24_SameSums.mono_l : ∀ k, (∀ y0 y1 y2, LeO (footlockerref24_SameSums.l0 k y0 y1 y2) (footlockerref24_SameSums.l0 (k + 1) y0 y1 y2))
 | 0 => fun _ _ _ r h => by simp [footlockerref24_SameSums.l0] at h
 | k + 1 => by
  have ih0 := footlockerref24_SameSums.mono_l k
  ·intro y0 y1 y2
   unfold footlockerref24_SameSums.l0
   repeat' first
   | (with_reducible exact ih0 _ _ _)
   | (with_reducible exact footlockerref06_Same.mono _ _ _)
   | (with_reducible exact LeO.refl _)
   | (with_reducible exact LeO.none _)
   | (with_reducible refine LeO.ite ?_ ?_)
   | (with_reducible refine LeO.bind ?_ (fun _ => ?_))
   | exact ih0 _ _ _
   | exact footlockerref06_Same.mono _ _ _
   | exact LeO.none _
   | refine LeO.ite ?_ ?_
   | refine LeO.bind ?_ (fun _ => ?_)
theorem footlockerref24_SameSums.mono : ∀ a0 a1 k, LeO (footlockerref24_SameSums.f k a0 a1) (footlockerref24_SameSums.f (k + 1) a0 a1) := by
 intro a0 a1 k
 have ih0 := footlockerref24_SameSums.mono_l k
 unfold footlockerref24_SameSums.f
 repeat' first
   | (with_reducible exact ih0 _ _ _)
   | (with_reducible exact footlockerref06_Same.mono _ _ _)
   | (with_reducible exact LeO.refl _)
   | (with_reducible exact LeO.none _)
   | (with_reducible refine LeO.ite ?_ ?_)
   | (with_reducible refine LeO.bind ?_ (fun _ => ?_))
   | exact ih0 _ _ _
   | exact footlockerref06_Same.mono _ _ _
   | exact LeO.none _
   | refine LeO.ite ?_ ?_
   | refine LeO.bind ?_ (fun _ => ?_)
set_option maxHeartbeats 8000000 in
set_option maxRecDepth 100000 in
theorem footlockerref24_SameSums.calls (k : Nat) (A0 : Option Addr) (c0 : Nat) (l0 : List (List Int)) (A1 : Option Addr) (c1 : Nat) (l1 : List (List Int)) (r : Bool) (w : World) (hr0 : Kd.C (Kd.slice 54 (Kd.int .u32)) w A0 l0.length l0) (hc0 : l0.length ≤ c0) (hr1 : Kd.C (Kd.slice 54 (Kd.int .u32)) w A1 l1.length l1) (hc1 : l1.length ≤ c1) (h : footlockerref24_SameSums.f k l0 l1 = some r) :
  Calls Tryd.prog 17 #[.slice A0 l0.length c0, .slice A1 l1.length c1] w fun e w' => e = .returned (.bool r) ∧ Drawn0 w w' := by
 have HR0 := kzA hr0
 have HC0 := kzA hc0
 clear hr0 hc0
 have HR1 := kzA hr1
 have HC1 := kzA hc1
 clear hr1 hc1
 have H : (if (l0.length : Int) = (l1.length : Int) then (footlockerref24_SameSums.l0 k l0 l1 0) else (some false)) = some r := h
 clear h
 by_cases c3 : (l0.length : Int) = (l1.length : Int)
 ·rw [if_pos c3] at H
  have c3b0 : ((l0.length : Int) == (l1.length : Int)) = true := beq_iff_eq.mpr c3
  have c3b1 : ((l0.length : Int) != (l1.length : Int)) = false := bne_eq_false_iff_eq.mpr c3
  have c3b2 : (l0.length == l1.length) = true := by first | simpa using c3 | (simp at c3 ⊢; omega)
  clear c3
  have H' := kzA H
  clear H
  go_enter Tryd.func17, Tryd.ntmps17
  go_wp2
  repeat (go_quiet (fail); try go_wp2)
  go_loopg [5] k (fun kq v5 w' => ∃ (x5_1 : Int), v5 = .int .i64 x5_1 ∧ Aside0 (footlockerref24_SameSums.l0 kq l0 l1 x5_1 = some r) ∧ Aside0 (kq ≤ k) ∧ Drawn0 w w')
  case atStart => exact ⟨(0), (by first | rfl | (simp; done) | (simp [*]; done)), H', ⟨Nat.le_refl _⟩, by repeat (first | exact Drawn0.refl _ | apply Drawn0.step)⟩
  case round =>
   clear H'
   try clear c1
   try clear p2
   try clear c3
   try clear c3b0
   try clear c3b1
   try clear c3b2
   obtain ⟨x5_1, rfl, HA, HK1, ⟨m1, rfl⟩⟩ := hrel
   cases gk with
   | zero => exact absurd HA.out (by simp [footlockerref24_SameSums.l0])
   | succ k1 =>
    have H := HA.out
    clear HA
    simp only [footlockerref24_SameSums.l0] at H
    by_cases c4 : x5_1 < (l0.length : Int)
    ·rw [if_pos c4] at H
     have c4b0 : decide (x5_1 < (l0.length : Int)) = true := decide_eq_true c4
     clear c4
     by_cases c5 : 0 ≤ x5_1
     ·rw [if_pos c5] at H
      have c5b0 : decide (0 ≤ x5_1) = true := decide_eq_true c5
      clear c5
      by_cases c6 : x5_1 < (l1.length : Int)
      ·rw [if_pos c6] at H
       have c6b0 : decide (x5_1 < (l1.length : Int)) = true := decide_eq_true c6
       clear c6
       replace H := Option.bind_eq_some_iff.mp H
       obtain ⟨t271, A70, H⟩ := H
       replace H : (if t271 = true then (footlockerref24_SameSums.l0 k1 l0 l1 (wrap64 (x5_1 + 1))) else (some false)) = some r := H
       have A7 := kzA A70
       clear A70
       by_cases c8 : t271 = true
       ·subst c8
        have H1 : (footlockerref24_SameSums.l0 k1 l0 l1 (wrap64 (x5_1 + 1))) = some r := by rw [if_pos rfl] at H; exact H
        clear H
        have H := H1
        clear H1
        have H' := kzA H
        clear H
        have p269 : 0 ≤ (x5_1 : Int) := of_decide_eq_true (by first | (with_reducible assumption) | assumption)
        have q269 : x5_1 < (l0.length : Int) := of_decide_eq_true (by first | (with_reducible assumption) | assumption)
        obtain ⟨ad269, A269_0, c269_0, e269, hx269_0, hl269_0, hi269_0⟩ := at_L3 HR0.out x5_1 p269 q269
        cases e269
        have HR269_0 := kzA hi269_0
        have HC269_0 := kzA hl269_0
        clear hi269_0 hl269_0
        replace p269 := eq_true p269
        replace q269 := eq_true q269
        have p270 : 0 ≤ (x5_1 : Int) := of_decide_eq_true (by first | (with_reducible assumption) | assumption)
        have q270 : x5_1 < (l1.length : Int) := of_decide_eq_true (by first | (with_reducible assumption) | assumption)
        obtain ⟨ad270, A270_0, c270_0, e270, hx270_0, hl270_0, hi270_0⟩ := at_L3 HR1.out x5_1 p270 q270
        cases e270
        have HR270_0 := kzA hi270_0
        have HC270_0 := kzA hl270_0
        clear hi270_0 hl270_0
        replace p270 := eq_true p270
        replace q270 := eq_true q270
        go_wp2_with (first | (go_at_call 39; (with_reducible refine (footlockerref06_Same.calls k1 _ _ (rd_L3 l0 x5_1) _ _ (rd_L3 l1 x5_1) true _ ?side1 ?side2 ?side3 ?side4 A7.out).mono ?_); (case side1 => repeat (first | exact HR269_0.out | (with_reducible refine Kd.kBH ?_ _) | (with_reducible refine Kd.kBF ?_ _) | (with_reducible refine Kd.kBM ?_))); (case side2 => exact HC269_0.out); (case side3 => repeat (first | exact HR270_0.out | (with_reducible refine Kd.kBH ?_ _) | (with_reducible refine Kd.kBF ?_ _) | (with_reducible refine Kd.kBM ?_))); (case side4 => exact HC270_0.out); rintro e w' ⟨rfl, ⟨nd, rfl⟩⟩; (try first | exact ⟨rfl, _, World.drewN_drewN _ _ _⟩ | exact ⟨rfl, _, Eq.trans (World.drewN_drewN _ _ _) (congrArg (World.drewN _) (Nat.add_assoc _ _ _))⟩)))
        repeat (go_quiet (first | (go_at_call 39; (with_reducible refine (footlockerref06_Same.calls k1 _ _ (rd_L3 l0 x5_1) _ _ (rd_L3 l1 x5_1) true _ ?side1 ?side2 ?side3 ?side4 A7.out).mono ?_); (case side1 => repeat (first | exact HR269_0.out | (with_reducible refine Kd.kBH ?_ _) | (with_reducible refine Kd.kBF ?_ _) | (with_reducible refine Kd.kBM ?_))); (case side2 => exact HC269_0.out); (case side3 => repeat (first | exact HR270_0.out | (with_reducible refine Kd.kBH ?_ _) | (with_reducible refine Kd.kBF ?_ _) | (with_reducible refine Kd.kBM ?_))); (case side4 => exact HC270_0.out); rintro e w' ⟨rfl, ⟨nd, rfl⟩⟩; (try first | exact ⟨rfl, _, World.drewN_drewN _ _ _⟩ | exact ⟨rfl, _, Eq.trans (World.drewN_drewN _ _ _) (congrArg (World.drewN _) (Nat.add_assoc _ _ _))⟩))); try go_wp2_with (first | (go_at_call 39; (with_reducible refine (footlockerref06_Same.calls k1 _ _ (rd_L3 l0 x5_1) _ _ (rd_L3 l1 x5_1) true _ ?side1 ?side2 ?side3 ?side4 A7.out).mono ?_); (case side1 => repeat (first | exact HR269_0.out | (with_reducible refine Kd.kBH ?_ _) | (with_reducible refine Kd.kBF ?_ _) | (with_reducible refine Kd.kBM ?_))); (case side2 => exact HC269_0.out); (case side3 => repeat (first | exact HR270_0.out | (with_reducible refine Kd.kBH ?_ _) | (with_reducible refine Kd.kBF ?_ _) | (with_reducible refine Kd.kBM ?_))); (case side4 => exact HC270_0.out); rintro e w' ⟨rfl, ⟨nd, rfl⟩⟩; (try first | exact ⟨rfl, _, World.drewN_drewN _ _ _⟩ | exact ⟨rfl, _, Eq.trans (World.drewN_drewN _ _ _) (congrArg (World.drewN _) (Nat.add_assoc _ _ _))⟩))))
        go_roundg k1
        case measure => have := HK1.out; omega
        case rel => exact ⟨(wrap64 (x5_1 + 1)), (by first | rfl | (simp; done) | (simp [*]; done)), H', ⟨by have := HK1.out; omega⟩, by repeat (first | exact Drawn0.refl _ | apply Drawn0.step)⟩
       ·replace c8 := Bool.eq_false_iff.mpr c8
        subst c8
        have H1 : (some false) = some r := by rw [if_neg (show ¬ (false = true) by decide)] at H; exact H
        clear H
        have H := H1
        clear H1
        obtain rfl := Option.some.inj H
        have p269 : 0 ≤ (x5_1 : Int) := of_decide_eq_true (by first | (with_reducible assumption) | assumption)
        have q269 : x5_1 < (l0.length : Int) := of_decide_eq_true (by first | (with_reducible assumption) | assumption)
        obtain ⟨ad269, A269_0, c269_0, e269, hx269_0, hl269_0, hi269_0⟩ := at_L3 HR0.out x5_1 p269 q269
        cases e269
        have HR269_0 := kzA hi269_0
        have HC269_0 := kzA hl269_0
        clear hi269_0 hl269_0
        replace p269 := eq_true p269
        replace q269 := eq_true q269
        have p270 : 0 ≤ (x5_1 : Int) := of_decide_eq_true (by first | (with_reducible assumption) | assumption)
        have q270 : x5_1 < (l1.length : Int) := of_decide_eq_true (by first | (with_reducible assumption) | assumption)
        obtain ⟨ad270, A270_0, c270_0, e270, hx270_0, hl270_0, hi270_0⟩ := at_L3 HR1.out x5_1 p270 q270
        cases e270
        have HR270_0 := kzA hi270_0
        have HC270_0 := kzA hl270_0
        clear hi270_0 hl270_0
        replace p270 := eq_true p270
        replace q270 := eq_true q270
        go_wp2_with (first | (go_at_call 39; (with_reducible refine (footlockerref06_Same.calls k1 _ _ (rd_L3 l0 x5_1) _ _ (rd_L3 l1 x5_1) false _ ?side1 ?side2 ?side3 ?side4 A7.out).mono ?_); (case side1 => repeat (first | exact HR269_0.out | (with_reducible refine Kd.kBH ?_ _) | (with_reducible refine Kd.kBF ?_ _) | (with_reducible refine Kd.kBM ?_))); (case side2 => exact HC269_0.out); (case side3 => repeat (first | exact HR270_0.out | (with_reducible refine Kd.kBH ?_ _) | (with_reducible refine Kd.kBF ?_ _) | (with_reducible refine Kd.kBM ?_))); (case side4 => exact HC270_0.out); rintro e w' ⟨rfl, ⟨nd, rfl⟩⟩; (try first | exact ⟨rfl, _, World.drewN_drewN _ _ _⟩ | exact ⟨rfl, _, Eq.trans (World.drewN_drewN _ _ _) (congrArg (World.drewN _) (Nat.add_assoc _ _ _))⟩)))
        repeat (go_quiet (first | (go_at_call 39; (with_reducible refine (footlockerref06_Same.calls k1 _ _ (rd_L3 l0 x5_1) _ _ (rd_L3 l1 x5_1) false _ ?side1 ?side2 ?side3 ?side4 A7.out).mono ?_); (case side1 => repeat (first | exact HR269_0.out | (with_reducible refine Kd.kBH ?_ _) | (with_reducible refine Kd.kBF ?_ _) | (with_reducible refine Kd.kBM ?_))); (case side2 => exact HC269_0.out); (case side3 => repeat (first | exact HR270_0.out | (with_reducible refine Kd.kBH ?_ _) | (with_reducible refine Kd.kBF ?_ _) | (with_reducible refine Kd.kBM ?_))); (case side4 => exact HC270_0.out); rintro e w' ⟨rfl, ⟨nd, rfl⟩⟩; (try first | exact ⟨rfl, _, World.drewN_drewN _ _ _⟩ | exact ⟨rfl, _, Eq.trans (World.drewN_drewN _ _ _) (congrArg (World.drewN _) (Nat.add_assoc _ _ _))⟩))); try go_wp2_with (first | (go_at_call 39; (with_reducible refine (footlockerref06_Same.calls k1 _ _ (rd_L3 l0 x5_1) _ _ (rd_L3 l1 x5_1) false _ ?side1 ?side2 ?side3 ?side4 A7.out).mono ?_); (case side1 => repeat (first | exact HR269_0.out | (with_reducible refine Kd.kBH ?_ _) | (with_reducible refine Kd.kBF ?_ _) | (with_reducible refine Kd.kBM ?_))); (case side2 => exact HC269_0.out); (case side3 => repeat (first | exact HR270_0.out | (with_reducible refine Kd.kBH ?_ _) | (with_reducible refine Kd.kBF ?_ _) | (with_reducible refine Kd.kBM ?_))); (case side4 => exact HC270_0.out); rintro e w' ⟨rfl, ⟨nd, rfl⟩⟩; (try first | exact ⟨rfl, _, World.drewN_drewN _ _ _⟩ | exact ⟨rfl, _, Eq.trans (World.drewN_drewN _ _ _) (congrArg (World.drewN _) (Nat.add_assoc _ _ _))⟩))))
        go_ret
        exact ⟨by first | rfl | (simp; done) | (simp [*]; done), by repeat (first | exact Drawn0.refl _ | apply Drawn0.step)⟩
      ·rw [if_neg c6] at H
       exact absurd H (by simp)
     ·rw [if_neg c5] at H
      exact absurd H (by simp)
    ·rw [if_neg c4] at H
     have c4b0 : decide (x5_1 < (l0.length : Int)) = false := decide_eq_false c4
     clear c4
     obtain rfl := Option.some.inj H
     go_wp2
     repeat (go_quiet (fail); try go_wp2)
     go_ret
     exact ⟨by first | rfl | (simp; done) | (simp [*]; done), by repeat (first | exact Drawn0.refl _ | apply Drawn0.step)⟩
 ·rw [if_neg c3] at H
  have c3b0 : ((l0.length : Int) == (l1.length : Int)) = false := beq_eq_false_iff_ne.mpr c3
  have c3b1 : ((l0.length : Int) != (l1.length : Int)) = true := bne_iff_ne.mpr c3
  have c3b2 : (l0.length == l1.length) = false := by first | simpa using c3 | (simp at c3 ⊢; omega)
  obtain rfl := Option.some.inj H
  go_enter Tryd.func17, Tryd.ntmps17
  go_wp2
  repeat (go_quiet (fail); try go_wp2)
  go_ret
  exact ⟨by first | rfl | (simp; done) | (simp [*]; done), by repeat (first | exact Drawn0.refl _ | apply Drawn0.step)⟩
def footlockerlaw24_same.f (k : Nat) (a0_0 : Int) (a0_1 : Int) (a0_2 : Int) (a0_3 : Int) (a0_4 : Int) (l0_5 : List (List Int)) (a1_0 : Int) (a1_1 : Int) (a1_2 : Int) (a1_3 : Int) (a1_4 : Int) (l1_5 : List (List Int)) : Option (Bool) := if (a0_0 == a1_0 && (a0_1 == a1_1 && (a0_2 == a1_2 && (a0_3 == a1_3)))) = true then (if a0_4 = a1_4 then ((footlockerref24_SameSums.f k l0_5 l1_5).bind fun t274 => (some t274)) else (some false)) else (some false)
theorem footlockerlaw24_same.mono : ∀ a0 a1 a2 a3 a4 a5 a6 a7 a8 a9 a10 a11 k, LeO (footlockerlaw24_same.f k a0 a1 a2 a3 a4 a5 a6 a7 a8 a9 a10 a11) (footlockerlaw24_same.f (k + 1) a0 a1 a2 a3 a4 a5 a6 a7 a8 a9 a10 a11) := by
 intro a0 a1 a2 a3 a4 a5 a6 a7 a8 a9 a10 a11 k
 unfold footlockerlaw24_same.f
 repeat' first
   | (with_reducible exact footlockerref24_SameSums.mono _ _ _)
   | (with_reducible exact LeO.refl _)
   | (with_reducible exact LeO.none _)
   | (with_reducible refine LeO.ite ?_ ?_)
   | (with_reducible refine LeO.bind ?_ (fun _ => ?_))
   | exact footlockerref24_SameSums.mono _ _ _
   | exact LeO.none _
   | refine LeO.ite ?_ ?_
   | refine LeO.bind ?_ (fun _ => ?_)
set_option maxHeartbeats 8000000 in
set_option maxRecDepth 100000 in
theorem footlockerlaw24_same.calls (k : Nat) (a0_0 : Int) (a0_1 : Int) (a0_2 : Int) (a0_3 : Int) (a0_4 : Int) (A0_5 : Option Addr) (c0_5 : Nat) (l0_5 : List (List Int)) (a1_0 : Int) (a1_1 : Int) (a1_2 : Int) (a1_3 : Int) (a1_4 : Int) (A1_5 : Option Addr) (c1_5 : Nat) (l1_5 : List (List Int)) (r : Bool) (w : World) (hr0_5 : Kd.C (Kd.slice 54 (Kd.int .u32)) w A0_5 l0_5.length l0_5) (hc0_5 : l0_5.length ≤ c0_5) (hr1_5 : Kd.C (Kd.slice 54 (Kd.int .u32)) w A1_5 l1_5.length l1_5) (hc1_5 : l1_5.length ≤ c1_5) (h : footlockerlaw24_same.f k a0_0 a0_1 a0_2 a0_3 a0_4 l0_5 a1_0 a1_1 a1_2 a1_3 a1_4 l1_5 = some r) :
  Calls Tryd.prog 21 #[.agg #[.int .i64 a0_0, .int .i64 a0_1, .int .i64 a0_2, .int .i64 a0_3, .int .i64 a0_4, .slice A0_5 l0_5.length c0_5], .agg #[.int .i64 a1_0, .int .i64 a1_1, .int .i64 a1_2, .int .i64 a1_3, .int .i64 a1_4, .slice A1_5 l1_5.length c1_5]] w fun e w' => e = .returned (.bool r) ∧ Below w.heap.size w w' := by
 have hu38 := Tryd.underlying38
 have hu36 := Tryd.underlying36
 have HR0_5 := kzA hr0_5
 have HC0_5 := kzA hc0_5
 clear hr0_5 hc0_5
 have HR1_5 := kzA hr1_5
 have HC1_5 := kzA hc1_5
 clear hr1_5 hc1_5
 have HB := kzA (Below.refl w.heap.size w)
 have H : (if (a0_0 == a1_0 && (a0_1 == a1_1 && (a0_2 == a1_2 && (a0_3 == a1_3)))) = true then (if a0_4 = a1_4 then ((footlockerref24_SameSums.f k l0_5 l1_5).bind fun t274 => (some t274)) else (some false)) else (some false)) = some r := h
 clear h
 by_cases c3 : (a0_0 == a1_0 && (a0_1 == a1_1 && (a0_2 == a1_2 && (a0_3 == a1_3)))) = true
 ·rw [if_pos c3] at H
  have c3b0 : (a0_0 == a1_0 && (a0_1 == a1_1 && (a0_2 == a1_2 && (a0_3 == a1_3)))) = true := c3
  (try (have c3b1 : decide (a0_0 = a1_0 && (a0_1 == a1_1 && (a0_2 == a1_2 && (a0_3 == a1_3)))) = true := by simpa using c3))
  (try (have c3b2 : (a0_0 == a1_0 && (a0_1 == a1_1 && (a0_2 == a1_2 && (a0_3 == a1_3)))) = true := by simpa using c3))
  clear c3
  by_cases c4 : a0_4 = a1_4
  ·rw [if_pos c4] at H
   have c4b0 : (a0_4 == a1_4) = true := beq_iff_eq.mpr c4
   have c4b1 : (a0_4 != a1_4) = false := bne_eq_false_iff_eq.mpr c4
   clear c4
   replace H := Option.bind_eq_some_iff.mp H
   obtain ⟨t274, A50, H⟩ := H
   replace H : (some t274) = some r := H
   have A5 := kzA A50
   clear A50
   obtain rfl := Option.some.inj H
   go_enter Tryd.func21, Tryd.ntmps21
   go_wp2_with (first | ((with_reducible refine kBA (N := 2) rfl ?_); refine kBD ?hg (N := 2) ?hd (cs := #[.int .i64 a0_0, .int .i64 a0_1, .int .i64 a0_2, .int .i64 a0_3, .int .i64 a0_4, .slice A0_5 l0_5.length c0_5]) (t := 38) ?hr ?_; (case hd => rfl); (case hg => rfl); (case hr => first | (go_simp; done) | (go_simp; rfl)); intro gb272 hg w6 hbox hb; have n0_ := kzA (kAK (by repeat (first | (with_reducible first | exact HB.out | apply kAB | apply kAA | apply kAC) | exact HB.out)) hb); have n1_ := kzA (hbox); have n2_ := kzA ((by rw [hg]; exact (kAJ (by repeat (first | (with_reducible first | exact HB.out | apply kAB | apply kAA | apply kAC) | exact HB.out))) : w.heap.size ≤ gb272)); have n3_ := kzA ((by rw [hg]; exact (kAJ (by repeat (first | (with_reducible first | exact HB.out | apply kAB | apply kAA | apply kAC) | exact HB.out))) : w.heap.size ≤ gb272)); clear HB; have HB := n0_; have BK272 := n1_; have GW272 := n2_; have GE272 := n3_; clear n0_ n1_ n2_ n3_; clear hb hbox hg) | ((with_reducible refine kBA (N := 3) rfl ?_); refine kBD ?hg (N := 3) ?hd (cs := #[.int .i64 a1_0, .int .i64 a1_1, .int .i64 a1_2, .int .i64 a1_3, .int .i64 a1_4, .slice A1_5 l1_5.length c1_5]) (t := 38) ?hr ?_; (case hd => rfl); (case hg => rfl); (case hr => first | (go_simp; done) | (go_simp; rfl)); intro gb273 hg w7 hbox hb; have n0_ := kzA (kAL (g := gb272) (o := .cells #[.int .i64 a0_0, .int .i64 a0_1, .int .i64 a0_2, .int .i64 a0_3, .int .i64 a0_4, .slice A0_5 l0_5.length c0_5] 38 (0, 0)) (by (with_reducible repeat (first | refine kAH ?_ _ | refine kAI ?_ | refine kAG ?_ _)); exact BK272.out) hb); have n1_ := kzA (kAK (by repeat (first | (with_reducible first | exact HB.out | apply kAB | apply kAA | apply kAC | refine kAF ?_ GE272.out) | exact HB.out)) hb); have n2_ := kzA (hbox); have n3_ := kzA ((by rw [hg]; exact (kAJ (by repeat (first | (with_reducible first | exact HB.out | apply kAB | apply kAA | apply kAC | refine kAF ?_ GE272.out) | exact HB.out))) : w.heap.size ≤ gb273)); have n4_ := kzA ((by rw [hg]; exact (kAJ (by repeat (first | (with_reducible first | exact HB.out | apply kAB | apply kAA | apply kAC | refine kAF ?_ GE272.out) | exact HB.out))) : w.heap.size ≤ gb273)); have n5_ := kzA ((by rw [hg]; exact Nat.ne_of_lt (kCH (g := gb272) (o := .cells #[.int .i64 a0_0, .int .i64 a0_1, .int .i64 a0_2, .int .i64 a0_3, .int .i64 a0_4, .slice A0_5 l0_5.length c0_5] 38 (0, 0)) (by (with_reducible repeat (first | refine kAH ?_ _ | refine kAI ?_ | refine kAG ?_ _)); exact BK272.out)) : gb272 ≠ gb273)); have n6_ := kzA ((by rw [hg]; exact Nat.ne_of_gt (kCH (g := gb272) (o := .cells #[.int .i64 a0_0, .int .i64 a0_1, .int .i64 a0_2, .int .i64 a0_3, .int .i64 a0_4, .slice A0_5 l0_5.length c0_5] 38 (0, 0)) (by (with_reducible repeat (first | refine kAH ?_ _ | refine kAI ?_ | refine kAG ?_ _)); exact BK272.out)) : gb273 ≠ gb272)); clear BK272; clear HB; have BK272 := n0_; have HB := n1_; have BK273 := n2_; have GW273 := n3_; have GE273 := n4_; have NB272_273 := n5_; have NB273_272 := n6_; clear n0_ n1_ n2_ n3_ n4_ n5_ n6_; clear hb hbox hg; have hnb8 := NB272_273.out; have hnc8 := NB273_272.out; have hcz9_0 : w7.cell? ⟨gb272, 0, none⟩ = some (.int .i64 a0_0) := (kAD BK272.out 0).trans rfl; have hcz9_1 : w7.cell? ⟨gb272, 1, none⟩ = some (.int .i64 a0_1) := (kAD BK272.out 1).trans rfl; have hcz9_2 : w7.cell? ⟨gb272, 2, none⟩ = some (.int .i64 a0_2) := (kAD BK272.out 2).trans rfl; have hcz9_3 : w7.cell? ⟨gb272, 3, none⟩ = some (.int .i64 a0_3) := (kAD BK272.out 3).trans rfl; have hcz9_4 : w7.cell? ⟨gb272, 4, none⟩ = some (.int .i64 a0_4) := (kAD BK272.out 4).trans rfl; have hcz9_5 : w7.cell? ⟨gb272, 5, none⟩ = some (.slice A0_5 l0_5.length c0_5) := (kAD BK272.out 5).trans rfl; have hfz9_0 := kAE BK272.out 0; have hfz9_1 := kAE BK272.out 1; have hfz9_2 := kAE BK272.out 2; have hfz9_3 := kAE BK272.out 3; have hfz9_4 := kAE BK272.out 4; have hfz9_5 := kAE BK272.out 5; have hcz10_0 : w7.cell? ⟨gb273, 0, none⟩ = some (.int .i64 a1_0) := (kAD BK273.out 0).trans rfl; have hcz10_1 : w7.cell? ⟨gb273, 1, none⟩ = some (.int .i64 a1_1) := (kAD BK273.out 1).trans rfl; have hcz10_2 : w7.cell? ⟨gb273, 2, none⟩ = some (.int .i64 a1_2) := (kAD BK273.out 2).trans rfl; have hcz10_3 : w7.cell? ⟨gb273, 3, none⟩ = some (.int .i64 a1_3) := (kAD BK273.out 3).trans rfl; have hcz10_4 : w7.cell? ⟨gb273, 4, none⟩ = some (.int .i64 a1_4) := (kAD BK273.out 4).trans rfl; have hcz10_5 : w7.cell? ⟨gb273, 5, none⟩ = some (.slice A1_5 l1_5.length c1_5) := (kAD BK273.out 5).trans rfl; have hfz10_0 := kAE BK273.out 0; have hfz10_1 := kAE BK273.out 1; have hfz10_2 := kAE BK273.out 2; have hfz10_3 := kAE BK273.out 3; have hfz10_4 := kAE BK273.out 4; have hfz10_5 := kAE BK273.out 5) | (go_at_call 17; (with_reducible refine (footlockerref24_SameSums.calls k _ _ l0_5 _ _ l1_5 t274 _ ?side1 ?side2 ?side3 ?side4 A5.out).mono ?_); (case side1 => repeat (first | exact (Kd.kCG HR0_5.out HB.out) | (with_reducible refine Kd.kBH ?_ _) | (with_reducible refine Kd.kBF ?_ _) | (with_reducible refine Kd.kBM ?_))); (case side2 => exact HC0_5.out); (case side3 => repeat (first | exact (Kd.kCG HR1_5.out HB.out) | (with_reducible refine Kd.kBH ?_ _) | (with_reducible refine Kd.kBF ?_ _) | (with_reducible refine Kd.kBM ?_))); (case side4 => exact HC1_5.out); rintro e w' ⟨rfl, ⟨nd, rfl⟩⟩))
   go_ret
   exact ⟨by first | rfl | (simp [kAN, kAM] <;> rfl) | (simp [*, kAN, kAM] <;> rfl), by repeat (first | (with_reducible first | exact HB.out | apply kAB | apply kAA | apply kAC | refine kAF ?_ GE272.out | refine kAF ?_ GE273.out) | exact HB.out)⟩
  ·rw [if_neg c4] at H
   have c4b0 : (a0_4 == a1_4) = false := beq_eq_false_iff_ne.mpr c4
   have c4b1 : (a0_4 != a1_4) = true := bne_iff_ne.mpr c4
   obtain rfl := Option.some.inj H
   go_enter Tryd.func21, Tryd.ntmps21
   go_wp2_with (first | ((with_reducible refine kBA (N := 2) rfl ?_); refine kBD ?hg (N := 2) ?hd (cs := #[.int .i64 a0_0, .int .i64 a0_1, .int .i64 a0_2, .int .i64 a0_3, .int .i64 a0_4, .slice A0_5 l0_5.length c0_5]) (t := 38) ?hr ?_; (case hd => rfl); (case hg => rfl); (case hr => first | (go_simp; done) | (go_simp; rfl)); intro gb272 hg w11 hbox hb; have n0_ := kzA (kAK (by repeat (first | (with_reducible first | exact HB.out | apply kAB | apply kAA | apply kAC) | exact HB.out)) hb); have n1_ := kzA (hbox); have n2_ := kzA ((by rw [hg]; exact (kAJ (by repeat (first | (with_reducible first | exact HB.out | apply kAB | apply kAA | apply kAC) | exact HB.out))) : w.heap.size ≤ gb272)); have n3_ := kzA ((by rw [hg]; exact (kAJ (by repeat (first | (with_reducible first | exact HB.out | apply kAB | apply kAA | apply kAC) | exact HB.out))) : w.heap.size ≤ gb272)); clear HB; have HB := n0_; have BK272 := n1_; have GW272 := n2_; have GE272 := n3_; clear n0_ n1_ n2_ n3_; clear hb hbox hg) | ((with_reducible refine kBA (N := 3) rfl ?_); refine kBD ?hg (N := 3) ?hd (cs := #[.int .i64 a1_0, .int .i64 a1_1, .int .i64 a1_2, .int .i64 a1_3, .int .i64 a1_4, .slice A1_5 l1_5.length c1_5]) (t := 38) ?hr ?_; (case hd => rfl); (case hg => rfl); (case hr => first | (go_simp; done) | (go_simp; rfl)); intro gb273 hg w12 hbox hb; have n0_ := kzA (kAL (g := gb272) (o := .cells #[.int .i64 a0_0, .int .i64 a0_1, .int .i64 a0_2, .int .i64 a0_3, .int .i64 a0_4, .slice A0_5 l0_5.length c0_5] 38 (0, 0)) (by (with_reducible repeat (first | refine kAH ?_ _ | refine kAI ?_ | refine kAG ?_ _)); exact BK272.out) hb); have n1_ := kzA (kAK (by repeat (first | (with_reducible first | exact HB.out | apply kAB | apply kAA | apply kAC | refine kAF ?_ GE272.out) | exact HB.out)) hb); have n2_ := kzA (hbox); have n3_ := kzA ((by rw [hg]; exact (kAJ (by repeat (first | (with_reducible first | exact HB.out | apply kAB | apply kAA | apply kAC | refine kAF ?_ GE272.out) | exact HB.out))) : w.heap.size ≤ gb273)); have n4_ := kzA ((by rw [hg]; exact (kAJ (by repeat (first | (with_reducible first | exact HB.out | apply kAB | apply kAA | apply kAC | refine kAF ?_ GE272.out) | exact HB.out))) : w.heap.size ≤ gb273)); have n5_ := kzA ((by rw [hg]; exact Nat.ne_of_lt (kCH (g := gb272) (o := .cells #[.int .i64 a0_0, .int .i64 a0_1, .int .i64 a0_2, .int .i64 a0_3, .int .i64 a0_4, .slice A0_5 l0_5.length c0_5] 38 (0, 0)) (by (with_reducible repeat (first | refine kAH ?_ _ | refine kAI ?_ | refine kAG ?_ _)); exact BK272.out)) : gb272 ≠ gb273)); have n6_ := kzA ((by rw [hg]; exact Nat.ne_of_gt (kCH (g := gb272) (o := .cells #[.int .i64 a0_0, .int .i64 a0_1, .int .i64 a0_2, .int .i64 a0_3, .int .i64 a0_4, .slice A0_5 l0_5.length c0_5] 38 (0, 0)) (by (with_reducible repeat (first | refine kAH ?_ _ | refine kAI ?_ | refine kAG ?_ _)); exact BK272.out)) : gb273 ≠ gb272)); clear BK272; clear HB; have BK272 := n0_; have HB := n1_; have BK273 := n2_; have GW273 := n3_; have GE273 := n4_; have NB272_273 := n5_; have NB273_272 := n6_; clear n0_ n1_ n2_ n3_ n4_ n5_ n6_; clear hb hbox hg; have hnb13 := NB272_273.out; have hnc13 := NB273_272.out; have hcz14_0 : w12.cell? ⟨gb272, 0, none⟩ = some (.int .i64 a0_0) := (kAD BK272.out 0).trans rfl; have hcz14_1 : w12.cell? ⟨gb272, 1, none⟩ = some (.int .i64 a0_1) := (kAD BK272.out 1).trans rfl; have hcz14_2 : w12.cell? ⟨gb272, 2, none⟩ = some (.int .i64 a0_2) := (kAD BK272.out 2).trans rfl; have hcz14_3 : w12.cell? ⟨gb272, 3, none⟩ = some (.int .i64 a0_3) := (kAD BK272.out 3).trans rfl; have hcz14_4 : w12.cell? ⟨gb272, 4, none⟩ = some (.int .i64 a0_4) := (kAD BK272.out 4).trans rfl; have hcz14_5 : w12.cell? ⟨gb272, 5, none⟩ = some (.slice A0_5 l0_5.length c0_5) := (kAD BK272.out 5).trans rfl; have hfz14_0 := kAE BK272.out 0; have hfz14_1 := kAE BK272.out 1; have hfz14_2 := kAE BK272.out 2; have hfz14_3 := kAE BK272.out 3; have hfz14_4 := kAE BK272.out 4; have hfz14_5 := kAE BK272.out 5; have hcz15_0 : w12.cell? ⟨gb273, 0, none⟩ = some (.int .i64 a1_0) := (kAD BK273.out 0).trans rfl; have hcz15_1 : w12.cell? ⟨gb273, 1, none⟩ = some (.int .i64 a1_1) := (kAD BK273.out 1).trans rfl; have hcz15_2 : w12.cell? ⟨gb273, 2, none⟩ = some (.int .i64 a1_2) := (kAD BK273.out 2).trans rfl; have hcz15_3 : w12.cell? ⟨gb273, 3, none⟩ = some (.int .i64 a1_3) := (kAD BK273.out 3).trans rfl; have hcz15_4 : w12.cell? ⟨gb273, 4, none⟩ = some (.int .i64 a1_4) := (kAD BK273.out 4).trans rfl; have hcz15_5 : w12.cell? ⟨gb273, 5, none⟩ = some (.slice A1_5 l1_5.length c1_5) := (kAD BK273.out 5).trans rfl; have hfz15_0 := kAE BK273.out 0; have hfz15_1 := kAE BK273.out 1; have hfz15_2 := kAE BK273.out 2; have hfz15_3 := kAE BK273.out 3; have hfz15_4 := kAE BK273.out 4; have hfz15_5 := kAE BK273.out 5))
   go_ret
   exact ⟨by first | rfl | (simp [kAN, kAM] <;> rfl) | (simp [*, kAN, kAM] <;> rfl), by repeat (first | (with_reducible first | exact HB.out | apply kAB | apply kAA | apply kAC | refine kAF ?_ GE272.out | refine kAF ?_ GE273.out) | exact HB.out)⟩
 ·rw [if_neg c3] at H
  have c3b0 : (a0_0 == a1_0 && (a0_1 == a1_1 && (a0_2 == a1_2 && (a0_3 == a1_3)))) = false := by simpa using c3
  (try (have c3b1 : decide (a0_0 = a1_0 && (a0_1 == a1_1 && (a0_2 == a1_2 && (a0_3 == a1_3)))) = false := by simpa using c3))
  (try (have c3b2 : (a0_0 == a1_0 && (a0_1 == a1_1 && (a0_2 == a1_2 && (a0_3 == a1_3)))) = false := by simpa using c3))
  (try (have c3b3 : ¬ (a0_0 = a1_0 && (a0_1 == a1_1 && (a0_2 == a1_2 && (a0_3 == a1_3)))) := by simpa using c3))
  clear c3
  obtain rfl := Option.some.inj H
  go_enter Tryd.func21, Tryd.ntmps21
  go_wp2_with (first | ((with_reducible refine kBA (N := 2) rfl ?_); refine kBD ?hg (N := 2) ?hd (cs := #[.int .i64 a0_0, .int .i64 a0_1, .int .i64 a0_2, .int .i64 a0_3, .int .i64 a0_4, .slice A0_5 l0_5.length c0_5]) (t := 38) ?hr ?_; (case hd => rfl); (case hg => rfl); (case hr => first | (go_simp; done) | (go_simp; rfl)); intro gb272 hg w16 hbox hb; have n0_ := kzA (kAK (by repeat (first | (with_reducible first | exact HB.out | apply kAB | apply kAA | apply kAC) | exact HB.out)) hb); have n1_ := kzA (hbox); have n2_ := kzA ((by rw [hg]; exact (kAJ (by repeat (first | (with_reducible first | exact HB.out | apply kAB | apply kAA | apply kAC) | exact HB.out))) : w.heap.size ≤ gb272)); have n3_ := kzA ((by rw [hg]; exact (kAJ (by repeat (first | (with_reducible first | exact HB.out | apply kAB | apply kAA | apply kAC) | exact HB.out))) : w.heap.size ≤ gb272)); clear HB; have HB := n0_; have BK272 := n1_; have GW272 := n2_; have GE272 := n3_; clear n0_ n1_ n2_ n3_; clear hb hbox hg) | ((with_reducible refine kBA (N := 3) rfl ?_); refine kBD ?hg (N := 3) ?hd (cs := #[.int .i64 a1_0, .int .i64 a1_1, .int .i64 a1_2, .int .i64 a1_3, .int .i64 a1_4, .slice A1_5 l1_5.length c1_5]) (t := 38) ?hr ?_; (case hd => rfl); (case hg => rfl); (case hr => first | (go_simp; done) | (go_simp; rfl)); intro gb273 hg w17 hbox hb; have n0_ := kzA (kAL (g := gb272) (o := .cells #[.int .i64 a0_0, .int .i64 a0_1, .int .i64 a0_2, .int .i64 a0_3, .int .i64 a0_4, .slice A0_5 l0_5.length c0_5] 38 (0, 0)) (by (with_reducible repeat (first | refine kAH ?_ _ | refine kAI ?_ | refine kAG ?_ _)); exact BK272.out) hb); have n1_ := kzA (kAK (by repeat (first | (with_reducible first | exact HB.out | apply kAB | apply kAA | apply kAC | refine kAF ?_ GE272.out) | exact HB.out)) hb); have n2_ := kzA (hbox); have n3_ := kzA ((by rw [hg]; exact (kAJ (by repeat (first | (with_reducible first | exact HB.out | apply kAB | apply kAA | apply kAC | refine kAF ?_ GE272.out) | exact HB.out))) : w.heap.size ≤ gb273)); have n4_ := kzA ((by rw [hg]; exact (kAJ (by repeat (first | (with_reducible first | exact HB.out | apply kAB | apply kAA | apply kAC | refine kAF ?_ GE272.out) | exact HB.out))) : w.heap.size ≤ gb273)); have n5_ := kzA ((by rw [hg]; exact Nat.ne_of_lt (kCH (g := gb272) (o := .cells #[.int .i64 a0_0, .int .i64 a0_1, .int .i64 a0_2, .int .i64 a0_3, .int .i64 a0_4, .slice A0_5 l0_5.length c0_5] 38 (0, 0)) (by (with_reducible repeat (first | refine kAH ?_ _ | refine kAI ?_ | refine kAG ?_ _)); exact BK272.out)) : gb272 ≠ gb273)); have n6_ := kzA ((by rw [hg]; exact Nat.ne_of_gt (kCH (g := gb272) (o := .cells #[.int .i64 a0_0, .int .i64 a0_1, .int .i64 a0_2, .int .i64 a0_3, .int .i64 a0_4, .slice A0_5 l0_5.length c0_5] 38 (0, 0)) (by (with_reducible repeat (first | refine kAH ?_ _ | refine kAI ?_ | refine kAG ?_ _)); exact BK272.out)) : gb273 ≠ gb272)); clear BK272; clear HB; have BK272 := n0_; have HB := n1_; have BK273 := n2_; have GW273 := n3_; have GE273 := n4_; have NB272_273 := n5_; have NB273_272 := n6_; clear n0_ n1_ n2_ n3_ n4_ n5_ n6_; clear hb hbox hg; have hnb18 := NB272_273.out; have hnc18 := NB273_272.out; have hcz19_0 : w17.cell? ⟨gb272, 0, none⟩ = some (.int .i64 a0_0) := (kAD BK272.out 0).trans rfl; have hcz19_1 : w17.cell? ⟨gb272, 1, none⟩ = some (.int .i64 a0_1) := (kAD BK272.out 1).trans rfl; have hcz19_2 : w17.cell? ⟨gb272, 2, none⟩ = some (.int .i64 a0_2) := (kAD BK272.out 2).trans rfl; have hcz19_3 : w17.cell? ⟨gb272, 3, none⟩ = some (.int .i64 a0_3) := (kAD BK272.out 3).trans rfl; have hcz19_4 : w17.cell? ⟨gb272, 4, none⟩ = some (.int .i64 a0_4) := (kAD BK272.out 4).trans rfl; have hcz19_5 : w17.cell? ⟨gb272, 5, none⟩ = some (.slice A0_5 l0_5.length c0_5) := (kAD BK272.out 5).trans rfl; have hfz19_0 := kAE BK272.out 0; have hfz19_1 := kAE BK272.out 1; have hfz19_2 := kAE BK272.out 2; have hfz19_3 := kAE BK272.out 3; have hfz19_4 := kAE BK272.out 4; have hfz19_5 := kAE BK272.out 5; have hcz20_0 : w17.cell? ⟨gb273, 0, none⟩ = some (.int .i64 a1_0) := (kAD BK273.out 0).trans rfl; have hcz20_1 : w17.cell? ⟨gb273, 1, none⟩ = some (.int .i64 a1_1) := (kAD BK273.out 1).trans rfl; have hcz20_2 : w17.cell? ⟨gb273, 2, none⟩ = some (.int .i64 a1_2) := (kAD BK273.out 2).trans rfl; have hcz20_3 : w17.cell? ⟨gb273, 3, none⟩ = some (.int .i64 a1_3) := (kAD BK273.out 3).trans rfl; have hcz20_4 : w17.cell? ⟨gb273, 4, none⟩ = some (.int .i64 a1_4) := (kAD BK273.out 4).trans rfl; have hcz20_5 : w17.cell? ⟨gb273, 5, none⟩ = some (.slice A1_5 l1_5.length c1_5) := (kAD BK273.out 5).trans rfl; have hfz20_0 := kAE BK273.out 0; have hfz20_1 := kAE BK273.out 1; have hfz20_2 := kAE BK273.out 2; have hfz20_3 := kAE BK273.out 3; have hfz20_4 := kAE BK273.out 4; have hfz20_5 := kAE BK273.out 5))
  go_ret
  exact ⟨by first | rfl | (simp [kAN, kAM] <;> rfl) | (simp [*, kAN, kAM] <;> rfl), by repeat (first | (with_reducible first | exact HB.out | apply kAB | apply kAA | apply kAC | refine kAF ?_ GE272.out | refine kAF ?_ GE273.out) | exact HB.out)⟩
end Go.Proofs.YtoamamnbapilhaaDoor.X
