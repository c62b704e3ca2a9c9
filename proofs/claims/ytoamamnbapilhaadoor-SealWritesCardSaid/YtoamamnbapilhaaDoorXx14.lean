import Derived.Test.YtoamamnbapilhaaDoorXx0
import Derived.Test.YtoamamnbapilhaaDoorXx12
namespace Go.Proofs.YtoamamnbapilhaaDoor.X
open Go.RowKit Go.Proofs.YtoamamnbapilhaaDoorW.PrintWords Go.Proofs.YtoamamnbapilhaaDoorW.PrintLast Go.Proofs.YtoamamnbapilhaaDoorW.PrintMore
attribute [local go_sem] max2_int min2_int max_two min_two max_three min_three max_four min_four
set_option linter.unusedVariables false
set_option linter.unusedSimpArgs false
mutual
def footlockerref06_Blocks.l0 : Nat → List Int → Int → List Int → Int → Option (List Int)
 | 0, _, _, _, _ => none
 | k + 1, x0, x1, x5, x6 => if x1 ≥ 1 then (footlockerref06_Blocks.j1 k x0 x1 x5 x6 (decide (x6 < (x0.length : Int)))) else (footlockerref06_Blocks.j1 k x0 x1 x5 x6 false)
def footlockerref06_Blocks.j1 : Nat → List Int → Int → List Int → Int → Bool → Option (List Int)
 | 0, _, _, _, _, _ => none
 | k + 1, x0, x1, x5, x6, x16 => if x16 = true then (if x1 > (wrap64 ((x0.length : Int) - x6)) then (if 0 ≤ x6 then (if x6 ≤ (x0.length : Int) then ((footlockerref06_Sum.f k (x0.drop (x6 : Int).toNat)).bind fun t438 => (if x5.length < 35184372088832 then (some (x5 ++ [t438])) else (none))) else (none)) else (none)) else (if 0 ≤ x6 then (if x6 ≤ (wrap64 (x6 + x1)) then (if (wrap64 (x6 + x1)) ≤ (x0.length : Int) then ((footlockerref06_Sum.f k ((x0.take ((wrap64 (x6 + x1)) : Int).toNat).drop (x6 : Int).toNat)).bind fun t443 => (if x5.length < 35184372088832 then (footlockerref06_Blocks.l0 k x0 x1 (x5 ++ [t443]) (wrap64 (x6 + x1))) else (none))) else (none)) else (none)) else (none))) else (some x5)
end
def footlockerref06_Blocks.f (k : Nat) (l0 : List Int) (a1 : Int) : Option (List Int) := footlockerref06_Blocks.l0 k l0 a1 (([] : List Int)) 0
set_option maxHeartbeats 8000000 in
set_option maxRecDepth 100000 in
theorem footlockerref06_Blocks.calls (k : Nat) (A0 : Option Addr) (c0 : Nat) (l0 : List Int) (a1 : Int) (r : List Int) (w : World) (hr0 : Kd.C (Kd.int .u8) w A0 l0.length l0) (hc0 : l0.length ≤ c0) (h : footlockerref06_Blocks.f k l0 a1 = some r) :
  Calls Tryd.prog 40 #[.slice A0 l0.length c0, .int .i64 a1] w fun e w' => ∃ v0_ : Value, e = .returned (v0_) ∧ Kd.R (Kd.int .u32) 54 w' w.heap.size (fun _ => True) v0_ r ∧ Below w.heap.size w w' := by
 have HR0 := kzA hr0
 have HC0 := kzA hc0
 clear hr0 hc0
 have HB := kzA (Below.refl w.heap.size w)
 have H : (footlockerref06_Blocks.l0 k l0 a1 (([] : List Int)) 0) = some r := h
 clear h
 obtain ⟨y434, hy434⟩ : ∃ y_ : List Int, y_ = (([] : List Int)) := ⟨_, rfl⟩
 replace H : (footlockerref06_Blocks.l0 k l0 a1 y434 0) = some r := by first | (rw [hy434]; with_reducible exact H) | (have H2_ := (Option.bind_some _ _).symm.trans H; rw [hy434]; with_reducible exact H2_) | (have H2_ := (Option.bind_some _ _).symm.trans H; with_reducible exact H2_) | with_reducible exact H | (rw [hy434]; exact H) | exact H
 have Ny434 := kzA hy434
 clear hy434
 have H' := kzA H
 clear H
 go_enter Tryd.func40, Tryd.ntmps40
 go_wp2_with (first | ((with_reducible refine kBA (N := 8) rfl ?_); (try (refine kCI (by rfl) ?_; dsimp only)); refine Kd.R_lit (Kd.int .u32) _ 54 ?hg (N := 8) ?hd (xs := ([] : List Int)) (inner := []) (ok := fun _ => True) (okp := fun _ => True) ?hr ?hp (fun _ hk => hk) trivial (Below.refl _ _) (Nat.le_refl _) (by simp) ?_; (case hd => rfl); (case hg => rfl); (case hr => first | (go_simp; done) | (go_simp; rfl)); (case hp => exact (Reps.none _ _)); intro v435 w3 ho4 hb hg_ hnew_; clear hg_ hnew_; (first | rw [← Ny434.out] at ho4 | (simp only [Int.reduceToNat] at ho4; rw [← Ny434.out] at ho4)); have n0_ := kzA (Kd.kBO ho4 (kAJ (by repeat (first | (with_reducible first | exact HB.out | apply kAB | apply kAA | apply kAC) | exact HB.out)))); have n1_ := kzA (kAK (by repeat (first | (with_reducible first | exact HB.out | apply kAB | apply kAA | apply kAC) | exact HB.out)) hb); clear HB; have HO436 := n0_; have HB := n1_; clear n0_ n1_; clear hb ho4))
 go_loopg [5, 6] k (fun kq v5 v6 w' => ∃ (x5_1 : List Int) (x6_1 : Int), v6 = .int .i64 x6_1 ∧ Aside0 (footlockerref06_Blocks.l0 kq l0 a1 x5_1 x6_1 = some r) ∧ Aside0 (kq ≤ k) ∧ Aside0 (Kd.R (Kd.int .u32) 54 w' w.heap.size (fun _ => True) v5 x5_1) ∧ Aside0 (Below w.heap.size w w'))
 case atStart => exact ⟨(y434), (0), (by first | rfl | (simp; done) | (simp [*]; done)), H', ⟨Nat.le_refl _⟩, ⟨by (with_reducible repeat (first | apply Kd.kAP | apply Kd.kAO | apply Kd.kAR)); exact HO436.out⟩, ⟨by repeat (first | (with_reducible first | exact HB.out | apply kAB | apply kAA | apply kAC) | exact HB.out)⟩⟩
 case round =>
  clear H'
  try clear p2
  try clear c4
  obtain ⟨x5_1, x6_1, rfl, HA, HK1, HO_5, HB⟩ := hrel
  cases gk with
  | zero => exact absurd HA.out (by simp [footlockerref06_Blocks.l0])
  | succ k1 =>
   have H := HA.out
   clear HA
   simp only [footlockerref06_Blocks.l0] at H
   have HC5 := kzA H
   clear H
   go_upto_region 3 with (fail)
   go_cut [16] (fun v16 wc => ∃ (kq : Nat) (x16_4 : Bool), v16 = .bool x16_4 ∧ Aside0 (footlockerref06_Blocks.j1 kq l0 a1 x5_1 x6_1 x16_4 = some r) ∧ Aside0 (kq ≤ k1) ∧ Aside0 (Kd.R (Kd.int .u32) 54 wc w.heap.size (fun _ => True) u5 x5_1) ∧ Aside0 (Below w.heap.size w wc))
   case first =>
    have H := HC5.out
    clear HC5
    by_cases c6 : a1 ≥ 1
    ·rw [if_pos c6] at H
     have c6b0 : decide (1 ≤ a1) = true := decide_eq_true c6
     clear c6
     (first | rw [c6b0] | (simp only [kAX, kAY]; rw [c6b0]) | skip)
     have H' := kzA H
     clear H
     go_wp2
     go_meet
     case rel => exact ⟨_, (decide (x6_1 < (l0.length : Int))), (by first | rfl | (simp; done) | (simp [*]; done)), H', ⟨by have := HK1.out; first | omega | exact Nat.le_refl _⟩, ⟨by (with_reducible repeat (first | apply Kd.kAP | apply Kd.kAO | apply Kd.kAR)); exact HO_5.out⟩, ⟨by repeat (first | (with_reducible first | exact HB.out | apply kAB | apply kAA | apply kAC) | exact HB.out)⟩⟩
    ·rw [if_neg c6] at H
     have c6b0 : decide (1 ≤ a1) = false := decide_eq_false c6
     clear c6
     (first | rw [c6b0] | (simp only [kAX, kAY]; rw [c6b0]) | skip)
     have H' := kzA H
     clear H
     go_wp2
     go_meet
     case rel => exact ⟨_, (false), (by first | rfl | (simp; done) | (simp [*]; done)), H', ⟨by have := HK1.out; first | omega | exact Nat.le_refl _⟩, ⟨by (with_reducible repeat (first | apply Kd.kAP | apply Kd.kAO | apply Kd.kAR)); exact HO_5.out⟩, ⟨by repeat (first | (with_reducible first | exact HB.out | apply kAB | apply kAA | apply kAC) | exact HB.out)⟩⟩
   case rest =>
    clear HC5
    try clear p2
    try clear c4
    try clear c6
    try clear c6b0
    try clear p2
    obtain ⟨kq, x16_4, rfl, HA, HJ4, HO_5, HB⟩ := hcut
    cases kq with
    | zero => exact absurd HA.out (by simp [footlockerref06_Blocks.j1])
    | succ kj4 =>
     have H := HA.out
     clear HA
     simp only [footlockerref06_Blocks.j1] at H
     by_cases c7 : x16_4 = true
     ·subst c7
      have H1 : (if a1 > (wrap64 ((l0.length : Int) - x6_1)) then (if 0 ≤ x6_1 then (if x6_1 ≤ (l0.length : Int) then ((footlockerref06_Sum.f kj4 (l0.drop (x6_1 : Int).toNat)).bind fun t438 => (if x5_1.length < 35184372088832 then (some (x5_1 ++ [t438])) else (none))) else (none)) else (none)) else (if 0 ≤ x6_1 then (if x6_1 ≤ (wrap64 (x6_1 + a1)) then (if (wrap64 (x6_1 + a1)) ≤ (l0.length : Int) then ((footlockerref06_Sum.f kj4 ((l0.take ((wrap64 (x6_1 + a1)) : Int).toNat).drop (x6_1 : Int).toNat)).bind fun t443 => (if x5_1.length < 35184372088832 then (footlockerref06_Blocks.l0 kj4 l0 a1 (x5_1 ++ [t443]) (wrap64 (x6_1 + a1))) else (none))) else (none)) else (none)) else (none))) = some r := by rw [if_pos rfl] at H; exact H
      clear H
      have H := H1
      clear H1
      by_cases c8 : a1 > (wrap64 ((l0.length : Int) - x6_1))
      ·rw [if_pos c8] at H
       have c8b0 : decide ((wrap64 ((l0.length : Int) - x6_1)) < a1) = true := decide_eq_true c8
       clear c8
       by_cases c9 : 0 ≤ x6_1
       ·rw [if_pos c9] at H
        have c9b0 := eq_true c9
        have c9b1 : decide (0 ≤ x6_1) = true := decide_eq_true c9
        clear c9
        by_cases c10 : x6_1 ≤ (l0.length : Int)
        ·rw [if_pos c10] at H
         have c10b0 := eq_true c10
         have c10b1 : decide (x6_1 ≤ (l0.length : Int)) = true := decide_eq_true c10
         clear c10
         replace H := Option.bind_eq_some_iff.mp H
         obtain ⟨t438, A110, H⟩ := H
         replace H : (if x5_1.length < 35184372088832 then (some (x5_1 ++ [t438])) else (none)) = some r := H
         have A11 := kzA A110
         clear A110
         by_cases c12 : x5_1.length < 35184372088832
         ·rw [if_pos c12] at H
          have LMc12 := kzA c12
          clear c12
          obtain ⟨y439, hy439⟩ : ∃ y_ : List Int, y_ = (x5_1 ++ [t438]) := ⟨_, rfl⟩
          replace H : (some y439) = some r := by first | (rw [hy439]; with_reducible exact H) | (have H2_ := (Option.bind_some _ _).symm.trans H; rw [hy439]; with_reducible exact H2_) | (have H2_ := (Option.bind_some _ _).symm.trans H; with_reducible exact H2_) | with_reducible exact H | (rw [hy439]; exact H) | exact H
          have Ny439 := kzA hy439
          clear hy439
          obtain rfl := Option.some.inj H
          obtain ⟨i013, hi013, _, hsz13, _⟩ := info_parts info5
          obtain ⟨A13, hcut13, hA13, hC13⟩ := print_drop_of (P := Tryd.prog) (Value.int .u8) 0 27 5 .i64 Tryd.underlying27 hi013 hsz13 A0 c0 l0 x6_1 (of_decide_eq_true (by first | (with_reducible assumption) | assumption)) (of_decide_eq_true (by first | (with_reducible assumption) | assumption)) HC0.out
          have HR437 := kzA (Kd.C_of_reads (h1 := fun _ => rfl) (hA13 _ (Kd.reads_of_C HR0.out)))
          have HC437 := kzA hC13
          clear hA13 hC13 hi013 hsz13
          go_wp2_with (first | ((with_reducible refine kAQ (f := 34) rfl ?_); refine kBI (some 33) rfl rfl Tryd.func34 (by kernel_rfl) rfl #[.slice A13 (l0.drop (x6_1 : Int).toNat).length (c0 - x6_1.toNat)] rfl (by (try simp only [List.map_toArray, List.map_cons, List.map_nil]); first | done | (rw [show (l0.drop (x6_1 : Int).toNat).length = (l0.length - x6_1.toNat) from List.length_drop] <;> rfl) | rfl | (simp only [List.length_drop, List.length_take]; rfl)) ?_; (with_reducible refine (footlockerref06_Sum.calls kj4 _ _ (l0.drop (x6_1 : Int).toNat) t438 _ ?side1 ?side2 A11.out).mono ?_); (case side1 => repeat (first | exact (Kd.kCG HR437.out HB.out) | (with_reducible refine Kd.kBH ?_ _) | (with_reducible refine Kd.kBF ?_ _) | (with_reducible refine Kd.kBM ?_))); (case side2 => exact HC437.out); rintro e w' ⟨rfl, ⟨nd, rfl⟩⟩; refine ⟨_, rfl, ?_⟩) | ((with_reducible refine kCA (b := .append) (xs := #[.tmp 29, .tmp 34]) rfl ?_); (try (refine kCI (by rfl) ?_; dsimp only)); at_builtin; refine Kd.R_append (Kd.int .u32) (w0 := w) w.heap.size rfl (.tmp 29) (.tmp 34) 56 54 (.int .u32 0) 4 rfl Tryd.underlying56 info54 rfl (by decide) (by omega) u5 x5_1 t438 [.int .u32 t438] (fun _ => True) (fun _ => False) rfl rfl ?aP (fun _ hk => hk.elim) ?aF ?aO ?aB ?aS ?aL ?_; (case aP => exact rfl); (case aB => exact (by repeat (first | (with_reducible first | exact HB.out | apply kAB | apply kAA | apply kAC) | exact HB.out))); (case aF => exact (fun _ _ => trivial)); (case aO => exact (by (with_reducible repeat (first | apply Kd.kAP | apply Kd.kAO | apply Kd.kAR)); exact HO_5.out)); (case aS => exact (kAJ (by repeat (first | (with_reducible first | exact HB.out | apply kAB | apply kAA | apply kAC) | exact HB.out)))); (case aL => have := LMc12.out; omega); intro v440 w14 ho hb hg hat; rw [← Ny439.out] at ho; have n0_ := kzA (hb); have n1_ := kzA (ho); clear HB; clear HO_5; have HB := n0_; have HO441 := n1_; clear n0_ n1_; clear ho hb hg hat))
          go_ret
          exact ⟨_, by first | rfl | (simp [kAN, kAM] <;> rfl) | (simp [*, kAN, kAM] <;> rfl), by (with_reducible repeat (first | apply Kd.kAP | apply Kd.kAO | apply Kd.kAR)); exact HO441.out, by repeat (first | (with_reducible first | exact HB.out | apply kAB | apply kAA | apply kAC) | exact HB.out)⟩
         ·rw [if_neg c12] at H
          exact absurd H (by simp)
        ·rw [if_neg c10] at H
         exact absurd H (by simp)
       ·rw [if_neg c9] at H
        exact absurd H (by simp)
      ·rw [if_neg c8] at H
       have c8b0 : decide ((wrap64 ((l0.length : Int) - x6_1)) < a1) = false := decide_eq_false c8
       clear c8
       by_cases c15 : 0 ≤ x6_1
       ·rw [if_pos c15] at H
        have c15b0 := eq_true c15
        have c15b1 : decide (0 ≤ x6_1) = true := decide_eq_true c15
        clear c15
        by_cases c16 : x6_1 ≤ (wrap64 (x6_1 + a1))
        ·rw [if_pos c16] at H
         have c16b0 := eq_true c16
         have c16b1 : decide (x6_1 ≤ (wrap64 (x6_1 + a1))) = true := decide_eq_true c16
         by_cases c17 : (wrap64 (x6_1 + a1)) ≤ (l0.length : Int)
         ·rw [if_pos c17] at H
          have c17b0 := eq_true c17
          have c17b1 : decide ((wrap64 (x6_1 + a1)) ≤ (l0.length : Int)) = true := decide_eq_true c17
          replace H := Option.bind_eq_some_iff.mp H
          obtain ⟨t443, A180, H⟩ := H
          replace H : (if x5_1.length < 35184372088832 then (footlockerref06_Blocks.l0 kj4 l0 a1 (x5_1 ++ [t443]) (wrap64 (x6_1 + a1))) else (none)) = some r := H
          have A18 := kzA A180
          clear A180
          by_cases c19 : x5_1.length < 35184372088832
          ·rw [if_pos c19] at H
           have LMc19 := kzA c19
           clear c19
           obtain ⟨y444, hy444⟩ : ∃ y_ : List Int, y_ = (x5_1 ++ [t443]) := ⟨_, rfl⟩
           replace H : (footlockerref06_Blocks.l0 kj4 l0 a1 y444 (wrap64 (x6_1 + a1))) = some r := by first | (rw [hy444]; with_reducible exact H) | (have H2_ := (Option.bind_some _ _).symm.trans H; rw [hy444]; with_reducible exact H2_) | (have H2_ := (Option.bind_some _ _).symm.trans H; with_reducible exact H2_) | with_reducible exact H | (rw [hy444]; exact H) | exact H
           have Ny444 := kzA hy444
           clear hy444
           have H' := kzA H
           clear H
           obtain ⟨i020, hi020, _, hsz20, _⟩ := info_parts info5
           obtain ⟨A20, hcut20, hA20, hC20⟩ := print_mid_of (P := Tryd.prog) (Value.int .u8) 0 27 5 .i64 .i64 Tryd.underlying27 hi020 hsz20 A0 c0 l0 x6_1 (wrap64 (x6_1 + a1)) (of_decide_eq_true (by first | (with_reducible assumption) | assumption)) (by first | omega | exact of_decide_eq_true (by first | (with_reducible assumption) | assumption)) (of_decide_eq_true (by first | (with_reducible assumption) | assumption)) HC0.out
           have HR442 := kzA (Kd.C_of_reads (h1 := fun _ => rfl) (hA20 _ (Kd.reads_of_C HR0.out)))
           have HC442 := kzA hC20
           clear hA20 hC20 hi020 hsz20
           go_wp2_with (first | ((with_reducible refine kAQ (f := 34) rfl ?_); refine kBI (some 42) rfl rfl Tryd.func34 (by kernel_rfl) rfl #[.slice A20 ((l0.take ((wrap64 (x6_1 + a1)) : Int).toNat).drop (x6_1 : Int).toNat).length (c0 - x6_1.toNat)] rfl (by (try simp only [List.map_toArray, List.map_cons, List.map_nil]); first | done | (rw [show ((l0.take ((wrap64 (x6_1 + a1)) : Int).toNat).drop (x6_1 : Int).toNat).length = ((wrap64 (x6_1 + a1)).toNat - x6_1.toNat) from (by rw [List.length_drop, List.length_take]; have h_ : ((wrap64 (x6_1 + a1)) : Int) ≤ (l0.length : Int) := of_decide_eq_true (by first | (with_reducible assumption) | assumption); omega)] <;> rfl) | rfl | (simp only [List.length_drop, List.length_take]; rfl)) ?_; (with_reducible refine (footlockerref06_Sum.calls kj4 _ _ ((l0.take ((wrap64 (x6_1 + a1)) : Int).toNat).drop (x6_1 : Int).toNat) t443 _ ?side1 ?side2 A18.out).mono ?_); (case side1 => repeat (first | exact (Kd.kCG HR442.out HB.out) | (with_reducible refine Kd.kBH ?_ _) | (with_reducible refine Kd.kBF ?_ _) | (with_reducible refine Kd.kBM ?_))); (case side2 => exact HC442.out); rintro e w' ⟨rfl, ⟨nd, rfl⟩⟩; refine ⟨_, rfl, ?_⟩) | ((with_reducible refine kCA (b := .append) (xs := #[.tmp 37, .tmp 43]) rfl ?_); (try (refine kCI (by rfl) ?_; dsimp only)); at_builtin; refine Kd.R_append (Kd.int .u32) (w0 := w) w.heap.size rfl (.tmp 37) (.tmp 43) 56 54 (.int .u32 0) 4 rfl Tryd.underlying56 info54 rfl (by decide) (by omega) u5 x5_1 t443 [.int .u32 t443] (fun _ => True) (fun _ => False) rfl rfl ?aP (fun _ hk => hk.elim) ?aF ?aO ?aB ?aS ?aL ?_; (case aP => exact rfl); (case aB => exact (by repeat (first | (with_reducible first | exact HB.out | apply kAB | apply kAA | apply kAC) | exact HB.out))); (case aF => exact (fun _ _ => trivial)); (case aO => exact (by (with_reducible repeat (first | apply Kd.kAP | apply Kd.kAO | apply Kd.kAR)); exact HO_5.out)); (case aS => exact (kAJ (by repeat (first | (with_reducible first | exact HB.out | apply kAB | apply kAA | apply kAC) | exact HB.out)))); (case aL => have := LMc19.out; omega); intro v445 w21 ho hb hg hat; rw [← Ny444.out] at ho; have n0_ := kzA (hb); have n1_ := kzA (ho); clear HB; clear HO_5; have HB := n0_; have HO446 := n1_; clear n0_ n1_; clear ho hb hg hat))
           go_roundg kj4
           case measure => have := HK1.out; have := HJ4.out; omega
           case rel => exact ⟨(y444), (wrap64 (x6_1 + a1)), (by first | rfl | (simp; done) | (simp [*]; done)), H', ⟨by have := HK1.out; have := HJ4.out; omega⟩, ⟨by (with_reducible repeat (first | apply Kd.kAP | apply Kd.kAO | apply Kd.kAR)); exact HO446.out⟩, ⟨by repeat (first | (with_reducible first | exact HB.out | apply kAB | apply kAA | apply kAC) | exact HB.out)⟩⟩
          ·rw [if_neg c19] at H
           exact absurd H (by simp)
         ·rw [if_neg c17] at H
          exact absurd H (by simp)
        ·rw [if_neg c16] at H
         exact absurd H (by simp)
       ·rw [if_neg c15] at H
        exact absurd H (by simp)
     ·replace c7 := Bool.eq_false_iff.mpr c7
      subst c7
      have H1 : (some x5_1) = some r := by rw [if_neg (show ¬ (false = true) by decide)] at H; exact H
      clear H
      have H := H1
      clear H1
      obtain rfl := Option.some.inj H
      go_wp2
      go_ret
      exact ⟨_, by first | rfl | (simp [kAN, kAM] <;> rfl) | (simp [*, kAN, kAM] <;> rfl), by (with_reducible repeat (first | apply Kd.kAP | apply Kd.kAO | apply Kd.kAR)); exact HO_5.out, by repeat (first | (with_reducible first | exact HB.out | apply kAB | apply kAA | apply kAC) | exact HB.out)⟩
def footlockerref24_Sums.l0 : Nat → List (List Int) → Int → List (List Int) → Int → Option ((List (List Int)))
 | 0, _, _, _, _ => none
 | k + 1, x0, x1, x5, x6 => if x6 < (x0.length : Int) then (if 0 ≤ x6 then ((footlockerref06_Blocks.f k (rd_L8 x0 x6) x1).bind fun t451 => (if x5.length < 5864062014805 then (footlockerref24_Sums.l0 k x0 x1 (x5 ++ [t451]) (wrap64 (x6 + 1))) else (none))) else (none)) else (some x5)
def footlockerref24_Sums.f (k : Nat) (l0 : List (List Int)) (a1 : Int) : Option ((List (List Int))) := footlockerref24_Sums.l0 k l0 a1 (([] : List (List Int))) 0
set_option maxHeartbeats 8000000 in
set_option maxRecDepth 100000 in
theorem footlockerref24_Sums.calls (k : Nat) (A0 : Option Addr) (c0 : Nat) (l0 : List (List Int)) (a1 : Int) (r : List (List Int)) (w : World) (hr0 : Kd.C (Kd.slice 5 (Kd.int .u8)) w A0 l0.length l0) (hc0 : l0.length ≤ c0) (h : footlockerref24_Sums.f k l0 a1 = some r) :
  Calls Tryd.prog 18 #[.slice A0 l0.length c0, .int .i64 a1] w fun e w' => ∃ v0_ : Value, e = .returned (v0_) ∧ Kd.S (Kd.slice 54 (Kd.int .u32)) 56 w' w.heap.size (fun _ => True) v0_ r ∧ Below w.heap.size w w' := by
 have HR0 := kzA hr0
 have HC0 := kzA hc0
 clear hr0 hc0
 have HB := kzA (Below.refl w.heap.size w)
 have H : (footlockerref24_Sums.l0 k l0 a1 (([] : List (List Int))) 0) = some r := h
 clear h
 obtain ⟨y447, hy447⟩ : ∃ y_ : List (List Int), y_ = (([] : List (List Int))) := ⟨_, rfl⟩
 replace H : (footlockerref24_Sums.l0 k l0 a1 y447 0) = some r := by first | (rw [hy447]; with_reducible exact H) | (have H2_ := (Option.bind_some _ _).symm.trans H; rw [hy447]; with_reducible exact H2_) | (have H2_ := (Option.bind_some _ _).symm.trans H; with_reducible exact H2_) | with_reducible exact H | (rw [hy447]; exact H) | exact H
 have Ny447 := kzA hy447
 clear hy447
 have H' := kzA H
 clear H
 go_enter Tryd.func18, Tryd.ntmps18
 go_wp2_with (first | ((with_reducible refine kBA (N := 7) rfl ?_); refine Kd.S_lit (Kd.slice 54 (Kd.int .u32)) _ 56 ?hg (N := 7) ?hd (xs := ([] : List (List Int))) (inner := []) (ok := fun _ => True) (okp := fun _ => True) ?hr ?hp (fun _ hk => hk) trivial (Below.refl _ _) (Nat.le_refl _) (by simp) ?_; (case hd => rfl); (case hg => rfl); (case hr => first | (go_simp; done) | (go_simp; rfl)); (case hp => exact (Reps.none _ _)); intro v448 w3 ho4 hb hg_ hnew_; clear hg_ hnew_; (first | rw [← Ny447.out] at ho4 | (simp only [Int.reduceToNat] at ho4; rw [← Ny447.out] at ho4)); have n0_ := kzA (Kd.S_lower ho4 (kAJ (by repeat (first | (with_reducible first | exact HB.out | apply kAB | apply kAA | apply kAC) | exact HB.out)))); have n1_ := kzA (kAK (by repeat (first | (with_reducible first | exact HB.out | apply kAB | apply kAA | apply kAC) | exact HB.out)) hb); clear HB; have HO449 := n0_; have HB := n1_; clear n0_ n1_; clear hb ho4))
 go_loopg [5, 6] k (fun kq v5 v6 w' => ∃ (x5_1 : List (List Int)) (x6_1 : Int), v6 = .int .i64 x6_1 ∧ Aside0 (footlockerref24_Sums.l0 kq l0 a1 x5_1 x6_1 = some r) ∧ Aside0 (kq ≤ k) ∧ Aside0 (Kd.S (Kd.slice 54 (Kd.int .u32)) 56 w' w.heap.size (fun _ => True) v5 x5_1) ∧ Aside0 (Below w.heap.size w w'))
 case atStart => exact ⟨(y447), (0), (by first | rfl | (simp; done) | (simp [*]; done)), H', ⟨Nat.le_refl _⟩, ⟨by (with_reducible repeat (first | apply Kd.kCF | apply Kd.kCE | apply Kd.S_drew)); exact HO449.out⟩, ⟨by repeat (first | (with_reducible first | exact HB.out | apply kAB | apply kAA | apply kAC) | exact HB.out)⟩⟩
 case round =>
  clear H'
  try clear c1
  try clear p2
  obtain ⟨x5_1, x6_1, rfl, HA, HK1, HO_5, HB⟩ := hrel
  cases gk with
  | zero => exact absurd HA.out (by simp [footlockerref24_Sums.l0])
  | succ k1 =>
   have H := HA.out
   clear HA
   simp only [footlockerref24_Sums.l0] at H
   by_cases c5 : x6_1 < (l0.length : Int)
   ·rw [if_pos c5] at H
    have c5b0 : decide (x6_1 < (l0.length : Int)) = true := decide_eq_true c5
    clear c5
    by_cases c6 : 0 ≤ x6_1
    ·rw [if_pos c6] at H
     have c6b0 : decide (0 ≤ x6_1) = true := decide_eq_true c6
     clear c6
     replace H := Option.bind_eq_some_iff.mp H
     obtain ⟨t451, A70, H⟩ := H
     replace H : (if x5_1.length < 5864062014805 then (footlockerref24_Sums.l0 k1 l0 a1 (x5_1 ++ [t451]) (wrap64 (x6_1 + 1))) else (none)) = some r := H
     have A7 := kzA A70
     clear A70
     by_cases c8 : x5_1.length < 5864062014805
     ·rw [if_pos c8] at H
      have LMc8 := kzA c8
      clear c8
      obtain ⟨y454, hy454⟩ : ∃ y_ : List (List Int), y_ = (x5_1 ++ [t451]) := ⟨_, rfl⟩
      replace H : (footlockerref24_Sums.l0 k1 l0 a1 y454 (wrap64 (x6_1 + 1))) = some r := by first | (rw [hy454]; with_reducible exact H) | (have H2_ := (Option.bind_some _ _).symm.trans H; rw [hy454]; with_reducible exact H2_) | (have H2_ := (Option.bind_some _ _).symm.trans H; with_reducible exact H2_) | with_reducible exact H | (rw [hy454]; exact H) | exact H
      have Ny454 := kzA hy454
      clear hy454
      have H' := kzA H
      clear H
      have p450 : 0 ≤ (x6_1 : Int) := of_decide_eq_true (by first | (with_reducible assumption) | assumption)
      have q450 : x6_1 < (l0.length : Int) := of_decide_eq_true (by first | (with_reducible assumption) | assumption)
      obtain ⟨ad450, A450_0, c450_0, e450, hx450_0, hl450_0, hi450_0⟩ := at_L8 HR0.out x6_1 p450 q450
      cases e450
      replace hx450_0 := (HB.out.cell (World.block_lt_of_cell? w _ hx450_0)).trans hx450_0
      have HR450_0 := kzA hi450_0
      have HC450_0 := kzA hl450_0
      clear hi450_0 hl450_0
      replace p450 := eq_true p450
      replace q450 := eq_true q450
      go_wp2_with (first | ((with_reducible refine kAQ (f := 40) rfl ?_); refine kBI (some 20) rfl rfl Tryd.func40 (by kernel_rfl) rfl #[.slice A450_0 (rd_L8 l0 x6_1).length c450_0, .int .i64 a1] rfl (by (try simp only [List.map_toArray, List.map_cons, List.map_nil]); first | done | rfl | (simp only [List.length_drop, List.length_take]; rfl)) ?_; (with_reducible refine (footlockerref06_Blocks.calls k1 _ _ (rd_L8 l0 x6_1) a1 t451 _ ?side1 ?side2 A7.out).mono ?_); (case side1 => repeat (first | exact (Kd.kCG HR450_0.out HB.out) | (with_reducible refine Kd.kBH ?_ _) | (with_reducible refine Kd.kBF ?_ _) | (with_reducible refine Kd.kBM ?_))); (case side2 => exact HC450_0.out); rintro e w9 ⟨v452, rfl, ho0, hb⟩; refine ⟨_, rfl, ?_⟩; have n0_ := kzA (Kd.S_elder' (by (with_reducible repeat (first | apply Kd.kCF | apply Kd.kCE | apply Kd.S_drew)); exact HO_5.out) (Kd.kBK ho0) hb); have n1_ := kzA (Kd.kBO ho0 (kAJ (by repeat (first | (with_reducible first | exact HB.out | apply kAB | apply kAA | apply kAC) | exact HB.out)))); have n2_ := kzA (kAK (by repeat (first | (with_reducible first | exact HB.out | apply kAB | apply kAA | apply kAC) | exact HB.out)) hb); clear HO_5; clear HB; have HO_5 := n0_; have HO453 := n1_; have HB := n2_; clear n0_ n1_ n2_; (try clear hb); (try clear hb2); (try clear hk); (try clear hi); (try clear ho0); obtain ⟨Ao11, co11, eo11⟩ := Kd.kCK HO453.out; subst eo11) | ((with_reducible refine kCA (b := .append) (xs := #[.tmp 14, .tmp 21]) rfl ?_); at_builtin; refine Kd.S_append (Kd.slice 54 (Kd.int .u32)) (w0 := w) w.heap.size rfl (.tmp 14) (.tmp 21) 24 56 (.slice none 0 0) 24 rfl Tryd.underlying24 info56 rfl (by decide) (by omega) u5 x5_1 t451 [.slice Ao11 t451.length co11] (fun _ => True) (fun k_ => some k_ = (.slice Ao11 t451.length co11 : Value).ownBlock) rfl rfl ?aP (fun k_ hk_ => ((Kd.kBL (ok' := fun k_ => ((fun _ => True)) k_ ∧ some k_ ≠ (u5 : Value).ownBlock) (Kd.R_apart' (HO453.out) (Kd.S_typed HO_5.out) (by decide)) (fun k_ hk => ⟨trivial, hk.2⟩))).1 k_ hk_.symm) ?aF ?aO ?aB ?aS ?aL ?_; (case aP => exact Kd.M_row (Kd.kBL (Kd.R_tight rfl (Kd.kBL (ok' := fun k_ => ((fun _ => True)) k_ ∧ some k_ ≠ (u5 : Value).ownBlock) (Kd.R_apart' (HO453.out) (Kd.S_typed HO_5.out) (by decide)) (fun k_ hk => ⟨trivial, hk.2⟩))) (fun _ h_ => h_))); (case aB => exact (by repeat (first | (with_reducible first | exact HB.out | apply kAB | apply kAA | apply kAC) | exact HB.out))); (case aF => exact (fun _ _ => trivial)); (case aO => exact (by (with_reducible repeat (first | apply Kd.kCF | apply Kd.kCE | apply Kd.S_drew)); exact Kd.S_mono HO_5.out (fun k_ hk => ⟨trivial, fun e_ => hk.2 e_⟩))); (case aS => exact (kAJ (by repeat (first | (with_reducible first | exact HB.out | apply kAB | apply kAA | apply kAC) | exact HB.out)))); (case aL => have := LMc8.out; omega); intro v455 w10 ho hb hg hat; rw [← Ny454.out] at ho; have n0_ := kzA (hb); have n1_ := kzA (ho); clear HB; clear HO_5; clear HO453; have HB := n0_; have HO456 := n1_; clear n0_ n1_; clear ho hb hg hat))
      go_roundg k1
      case measure => have := HK1.out; omega
      case rel => exact ⟨(y454), (wrap64 (x6_1 + 1)), (by first | rfl | (simp; done) | (simp [*]; done)), H', ⟨by have := HK1.out; omega⟩, ⟨by (with_reducible repeat (first | apply Kd.kCF | apply Kd.kCE | apply Kd.S_drew)); exact HO456.out⟩, ⟨by repeat (first | (with_reducible first | exact HB.out | apply kAB | apply kAA | apply kAC) | exact HB.out)⟩⟩
     ·rw [if_neg c8] at H
      exact absurd H (by simp)
    ·rw [if_neg c6] at H
     exact absurd H (by simp)
   ·rw [if_neg c5] at H
    have c5b0 : decide (x6_1 < (l0.length : Int)) = false := decide_eq_false c5
    clear c5
    obtain rfl := Option.some.inj H
    go_wp2
    go_ret
    exact ⟨_, by first | rfl | (simp [kAN, kAM] <;> rfl) | (simp [*, kAN, kAM] <;> rfl), by (with_reducible repeat (first | apply Kd.kCF | apply Kd.kCE | apply Kd.S_drew)); exact HO_5.out, by repeat (first | (with_reducible first | exact HB.out | apply kAB | apply kAA | apply kAC) | exact HB.out)⟩
end Go.Proofs.YtoamamnbapilhaaDoor.X
