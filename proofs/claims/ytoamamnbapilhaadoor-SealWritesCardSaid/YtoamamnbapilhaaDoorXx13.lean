import Derived.Test.YtoamamnbapilhaaDoorXx0
import Derived.Test.YtoamamnbapilhaaDoorXx10
import Derived.Test.YtoamamnbapilhaaDoorXx11
import Derived.Test.YtoamamnbapilhaaDoorXx12
namespace Go.Proofs.YtoamamnbapilhaaDoor.X
open Go.RowKit Go.Proofs.YtoamamnbapilhaaDoorW.PrintWords Go.Proofs.YtoamamnbapilhaaDoorW.PrintLast Go.Proofs.YtoamamnbapilhaaDoorW.PrintMore
attribute [local go_sem] max2_int min2_int max_two min_two max_three min_three max_four min_four
set_option linter.unusedVariables false
set_option linter.unusedSimpArgs false
mutual
def footlockerref24_Write.j0 : Nat → List Int → Bool → Int → Int → Int → Int → Int → List (List Int) → Option (List Int × Int)
 | 0, _, _, _, _, _, _, _, _ => none
 | k + 1, x1, x20, x394000, x394001, x394002, x394003, x394004, x394005 => if x20 = true then (some (([] : List Int), 1)) else ((footlockerref18_Numbers.f k (([IntKind.u64.wrap (x394000), IntKind.u64.wrap (x394001), IntKind.u64.wrap (x394004), IntKind.u64.wrap (x394002), IntKind.u64.wrap (x394003)] : List Int)) (([2, 2, 2, 4, 4] : List Int))).bind fun t404 => ((footlockerref01_Join.f k (([(([70, 76, 82, 86, 1, 0] : List Int)), t404] : List (List Int)))).bind fun t410 => (footlockerref24_Write.l0 k x1 t410 0 x394000 x394001 x394002 x394003 x394004 x394005)))
def footlockerref24_Write.l0 : Nat → List Int → List Int → Int → Int → Int → Int → Int → Int → List (List Int) → Option (List Int × Int)
 | 0, _, _, _, _, _, _, _, _, _ => none
 | k + 1, x1, x6, x7, x394000, x394001, x394002, x394003, x394004, x394005 => if x7 < (x394005.length : Int) then (footlockerref24_Write.l1 k x1 x6 x7 0 x394000 x394001 x394002 x394003 x394004 x394005) else ((footlockerref06_Sum.f k x6).bind fun t413 => ((footlockerref07_Put.f k (IntKind.u64.wrap (t413)) 4).bind fun t414 => ((footlockerref01_Join.f k (([x6, t414, x1] : List (List Int)))).bind fun t420 => (some (t420, 0)))))
def footlockerref24_Write.l1 : Nat → List Int → List Int → Int → Int → Int → Int → Int → Int → Int → List (List Int) → Option (List Int × Int)
 | 0, _, _, _, _, _, _, _, _, _, _ => none
 | k + 1, x1, x6, x7, x8, x394000, x394001, x394002, x394003, x394004, x394005 => if 0 ≤ x7 then (if x7 < (x394005.length : Int) then (if x8 < ((rd_L3 x394005 x7).length : Int) then (if 0 ≤ x8 then ((footlockerref07_Put.f k (IntKind.u64.wrap (rd (rd_L3 x394005 x7) x8)) 4).bind fun t426 => (if x6.length + t426.length < 140737488355328 then (footlockerref24_Write.l1 k x1 (x6 ++ t426) x7 (wrap64 (x8 + 1)) x394000 x394001 x394002 x394003 x394004 x394005) else (none))) else (none)) else (footlockerref24_Write.l0 k x1 x6 (wrap64 (x7 + 1)) x394000 x394001 x394002 x394003 x394004 x394005)) else (none)) else (none)
end
def footlockerref24_Write.f (k : Nat) (a0_0 : Int) (a0_1 : Int) (a0_2 : Int) (a0_3 : Int) (a0_4 : Int) (l0_5 : List (List Int)) (l1 : List Int) : Option (List Int × Int) := (footlockerref24_Right.f k a0_0 a0_1 a0_2 a0_3 a0_4 l0_5).bind fun t394 => (if t394 = true then (footlockerref24_Write.j0 k l1 ((l1.length : Int) != (wrap64 (8 + a0_2))) a0_0 a0_1 a0_2 a0_3 a0_4 l0_5) else (footlockerref24_Write.j0 k l1 true a0_0 a0_1 a0_2 a0_3 a0_4 l0_5))
set_option maxHeartbeats 8000000 in
set_option maxRecDepth 100000 in
theorem footlockerref24_Write.calls (k : Nat) (a0_0 : Int) (a0_1 : Int) (a0_2 : Int) (a0_3 : Int) (a0_4 : Int) (A0_5 : Option Addr) (c0_5 : Nat) (l0_5 : List (List Int)) (P1_ : Nat → Prop) (A1 : Option Addr) (c1 : Nat) (l1 : List Int) (r1 : List Int) (r2 : Int) (w : World) (hr0_5 : Kd.C (Kd.slice 54 (Kd.int .u32)) w A0_5 l0_5.length l0_5) (hc0_5 : l0_5.length ≤ c0_5) (hs1 : Kd.V (Kd.int .u8) 5 w w.heap.size (fun k_ => P1_ k_) (.slice A1 l1.length c1) l1) (h : footlockerref24_Write.f k a0_0 a0_1 a0_2 a0_3 a0_4 l0_5 l1 = some (r1, r2)) :
  Calls Tryd.prog 10 #[.agg #[.int .i64 a0_0, .int .i64 a0_1, .int .i64 a0_2, .int .i64 a0_3, .int .i64 a0_4, .slice A0_5 l0_5.length c0_5], .slice A1 l1.length c1] w fun e w' => ∃ v0_ : Value, e = .returned (.tuple #[v0_, .int .i64 r2]) ∧ Kd.R (Kd.int .u8) 5 w' w.heap.size (fun k_ => (w.heap.size ≤ k_)) v0_ r1 ∧ Below w.heap.size w w' := by
 have hu38 := Tryd.underlying38
 have HR0_5 := kzA hr0_5
 have HC0_5 := kzA hc0_5
 clear hr0_5 hc0_5
 have HO1 := kzA (show Kd.V (Kd.int .u8) 5 w w.heap.size (fun k_ => (P1_ k_ ∨ w.heap.size ≤ k_)) (.slice A1 l1.length c1) l1 from Kd.kBV hs1 (fun k_ hk => .inl hk))
 have HB := kzA (Below.refl w.heap.size w)
 have H : ((footlockerref24_Right.f k a0_0 a0_1 a0_2 a0_3 a0_4 l0_5).bind fun t394 => (if t394 = true then (footlockerref24_Write.j0 k l1 ((l1.length : Int) != (wrap64 (8 + a0_2))) a0_0 a0_1 a0_2 a0_3 a0_4 l0_5) else (footlockerref24_Write.j0 k l1 true a0_0 a0_1 a0_2 a0_3 a0_4 l0_5))) = some (r1, r2) := h
 clear h
 have HC3 := kzA H
 clear H
 go_enter Tryd.func10, Tryd.ntmps10
 go_upto_region 1 with (first | ((with_reducible refine kBA (N := 2) rfl ?_); (try (refine kCI (by rfl) ?_; dsimp only)); refine kBD ?hg (N := 2) ?hd (cs := #[.int .i64 a0_0, .int .i64 a0_1, .int .i64 a0_2, .int .i64 a0_3, .int .i64 a0_4, .slice A0_5 l0_5.length c0_5]) (t := 38) ?hr ?_; (case hd => rfl); (case hg => rfl); (case hr => first | (go_simp; done) | (go_simp; rfl)); intro gb393 hg w4 hbox hb; have n0_ := kzA (Kd.kCD (Kd.V_elderB (by (with_reducible repeat (first | apply Kd.kAT | apply Kd.kAS | apply Kd.kAZ)); exact HO1.out) gb393 (Nat.le_of_eq hg.symm)) hb); have n1_ := kzA (kAK (by repeat (first | (with_reducible first | exact HB.out | apply kAB | apply kAA | apply kAC) | exact HB.out)) hb); have n2_ := kzA (hbox); have n3_ := kzA ((by rw [hg]; exact (kAJ (by repeat (first | (with_reducible first | exact HB.out | apply kAB | apply kAA | apply kAC) | exact HB.out))) : w.heap.size ≤ gb393)); have n4_ := kzA ((by rw [hg]; exact (kAJ (by repeat (first | (with_reducible first | exact HB.out | apply kAB | apply kAA | apply kAC) | exact HB.out))) : w.heap.size ≤ gb393)); clear HO1; clear HB; have HO1 := n0_; have HB := n1_; have BK393 := n2_; have GW393 := n3_; have GE393 := n4_; clear n0_ n1_ n2_ n3_ n4_; clear hb hbox hg))
 (try simp only [Act.put, kzB, kzC, kzD])
 go_cut [20] (fun v20 wc => ∃ (kq : Nat) (x20_2 : Bool), v20 = .bool x20_2 ∧ Aside0 (footlockerref24_Write.j0 kq l1 x20_2 a0_0 a0_1 a0_2 a0_3 a0_4 l0_5 = some (r1, r2)) ∧ Aside0 (kq ≤ k) ∧ Aside0 (Kd.V (Kd.int .u8) 5 wc w.heap.size (fun k_ => (P1_ k_ ∨ w.heap.size ≤ k_) ∧ k_ ≠ gb393) (.slice A1 l1.length c1) l1) ∧ Aside0 (wc.heap[gb393]? = some (.cells #[.int .i64 a0_0, .int .i64 a0_1, .int .i64 a0_2, .int .i64 a0_3, .int .i64 a0_4, (.slice A0_5 l0_5.length c0_5)] 38 (0, 0))) ∧ Aside0 (Below w.heap.size w wc))
 case first =>
  have H := HC3.out
  clear HC3
  replace H := Option.bind_eq_some_iff.mp H
  obtain ⟨t394, A50, H⟩ := H
  replace H : (if t394 = true then (footlockerref24_Write.j0 k l1 ((l1.length : Int) != (wrap64 (8 + a0_2))) a0_0 a0_1 a0_2 a0_3 a0_4 l0_5) else (footlockerref24_Write.j0 k l1 true a0_0 a0_1 a0_2 a0_3 a0_4 l0_5)) = some (r1, r2) := H
  have A5 := kzA A50
  clear A50
  by_cases c6 : t394 = true
  ·subst c6
   have H1 : (footlockerref24_Write.j0 k l1 ((l1.length : Int) != (wrap64 (8 + a0_2))) a0_0 a0_1 a0_2 a0_3 a0_4 l0_5) = some (r1, r2) := by rw [if_pos rfl] at H; exact H
   clear H
   have H := H1
   clear H1
   have H' := kzA H
   clear H
   have hcz7_0 : w4.cell? ⟨gb393, 0, none⟩ = some (.int .i64 a0_0) := (kAD BK393.out 0).trans rfl
   have hcz7_1 : w4.cell? ⟨gb393, 1, none⟩ = some (.int .i64 a0_1) := (kAD BK393.out 1).trans rfl
   have hcz7_2 : w4.cell? ⟨gb393, 2, none⟩ = some (.int .i64 a0_2) := (kAD BK393.out 2).trans rfl
   have hcz7_3 : w4.cell? ⟨gb393, 3, none⟩ = some (.int .i64 a0_3) := (kAD BK393.out 3).trans rfl
   have hcz7_4 : w4.cell? ⟨gb393, 4, none⟩ = some (.int .i64 a0_4) := (kAD BK393.out 4).trans rfl
   have hcz7_5 : w4.cell? ⟨gb393, 5, none⟩ = some (.slice A0_5 l0_5.length c0_5) := (kAD BK393.out 5).trans rfl
   have hfz7_0 := kAE BK393.out 0
   have hfz7_1 := kAE BK393.out 1
   have hfz7_2 := kAE BK393.out 2
   have hfz7_3 := kAE BK393.out 3
   have hfz7_4 := kAE BK393.out 4
   have hfz7_5 := kAE BK393.out 5
   go_wp2_with (first | ((with_reducible refine kAQ (f := 30) rfl ?_); refine kBI (some 10) rfl rfl Tryd.func30 (by kernel_rfl) rfl #[.agg #[.int .i64 a0_0, .int .i64 a0_1, .int .i64 a0_2, .int .i64 a0_3, .int .i64 a0_4, .slice A0_5 l0_5.length c0_5]] rfl (by (try simp only [List.map_toArray, List.map_cons, List.map_nil]); first | done | rfl | (simp only [List.length_drop, List.length_take]; rfl)) ?_; (with_reducible refine (footlockerref24_Right.calls k a0_0 a0_1 a0_2 a0_3 a0_4 _ _ l0_5 true _ ?side1 ?side2 A5.out).mono ?_); (case side1 => repeat (first | exact (Kd.kCG HR0_5.out HB.out) | (with_reducible refine Kd.kBH ?_ _) | (with_reducible refine Kd.kBF ?_ _) | (with_reducible refine Kd.kBM ?_))); (case side2 => exact HC0_5.out); rintro e w8 ⟨rfl, hb⟩; refine ⟨_, rfl, ?_⟩; have n0_ := kzA (Kd.kCD (by (with_reducible repeat (first | apply Kd.kAT | apply Kd.kAS | apply Kd.kAZ)); exact HO1.out) hb); have n1_ := kzA (kAL (g := gb393) (o := .cells #[.int .i64 a0_0, .int .i64 a0_1, .int .i64 a0_2, .int .i64 a0_3, .int .i64 a0_4, .slice A0_5 l0_5.length c0_5] 38 (0, 0)) (by (with_reducible repeat (first | refine kAH ?_ _ | refine kAI ?_ | refine kAG ?_ _)); exact BK393.out) hb); have n2_ := kzA (kAK (by repeat (first | (with_reducible first | exact HB.out | apply kAB | apply kAA | apply kAC | refine kAF ?_ GE393.out) | exact HB.out)) hb); clear HO1; clear BK393; clear HB; have HO1 := n0_; have BK393 := n1_; have HB := n2_; clear n0_ n1_ n2_; (try clear hb); (try clear hb2); (try clear hk); (try clear hi); have hcz9_0 : w8.cell? ⟨gb393, 0, none⟩ = some (.int .i64 a0_0) := (kAD BK393.out 0).trans rfl; have hcz9_1 : w8.cell? ⟨gb393, 1, none⟩ = some (.int .i64 a0_1) := (kAD BK393.out 1).trans rfl; have hcz9_2 : w8.cell? ⟨gb393, 2, none⟩ = some (.int .i64 a0_2) := (kAD BK393.out 2).trans rfl; have hcz9_3 : w8.cell? ⟨gb393, 3, none⟩ = some (.int .i64 a0_3) := (kAD BK393.out 3).trans rfl; have hcz9_4 : w8.cell? ⟨gb393, 4, none⟩ = some (.int .i64 a0_4) := (kAD BK393.out 4).trans rfl; have hcz9_5 : w8.cell? ⟨gb393, 5, none⟩ = some (.slice A0_5 l0_5.length c0_5) := (kAD BK393.out 5).trans rfl; have hfz9_0 := kAE BK393.out 0; have hfz9_1 := kAE BK393.out 1; have hfz9_2 := kAE BK393.out 2; have hfz9_3 := kAE BK393.out 3; have hfz9_4 := kAE BK393.out 4; have hfz9_5 := kAE BK393.out 5))
   go_meet
   case rel => exact ⟨_, (((l1.length : Int) != (wrap64 (8 + a0_2)))), (by first | rfl | (simp; done) | (simp [*]; done)), H', ⟨by first | omega | exact Nat.le_refl _⟩, ⟨by (with_reducible repeat (first | apply Kd.kAT | apply Kd.kAS | apply Kd.kAZ)); exact HO1.out⟩, ⟨by (with_reducible repeat (first | refine kAH ?_ _ | refine kAI ?_ | refine kAG ?_ _)); exact BK393.out⟩, ⟨by repeat (first | (with_reducible first | exact HB.out | apply kAB | apply kAA | apply kAC | refine kAF ?_ GE393.out) | exact HB.out)⟩⟩
  ·replace c6 := Bool.eq_false_iff.mpr c6
   subst c6
   have H1 : (footlockerref24_Write.j0 k l1 true a0_0 a0_1 a0_2 a0_3 a0_4 l0_5) = some (r1, r2) := by rw [if_neg (show ¬ (false = true) by decide)] at H; exact H
   clear H
   have H := H1
   clear H1
   have H' := kzA H
   clear H
   have hcz10_0 : w4.cell? ⟨gb393, 0, none⟩ = some (.int .i64 a0_0) := (kAD BK393.out 0).trans rfl
   have hcz10_1 : w4.cell? ⟨gb393, 1, none⟩ = some (.int .i64 a0_1) := (kAD BK393.out 1).trans rfl
   have hcz10_2 : w4.cell? ⟨gb393, 2, none⟩ = some (.int .i64 a0_2) := (kAD BK393.out 2).trans rfl
   have hcz10_3 : w4.cell? ⟨gb393, 3, none⟩ = some (.int .i64 a0_3) := (kAD BK393.out 3).trans rfl
   have hcz10_4 : w4.cell? ⟨gb393, 4, none⟩ = some (.int .i64 a0_4) := (kAD BK393.out 4).trans rfl
   have hcz10_5 : w4.cell? ⟨gb393, 5, none⟩ = some (.slice A0_5 l0_5.length c0_5) := (kAD BK393.out 5).trans rfl
   have hfz10_0 := kAE BK393.out 0
   have hfz10_1 := kAE BK393.out 1
   have hfz10_2 := kAE BK393.out 2
   have hfz10_3 := kAE BK393.out 3
   have hfz10_4 := kAE BK393.out 4
   have hfz10_5 := kAE BK393.out 5
   go_wp2_with (first | ((with_reducible refine kAQ (f := 30) rfl ?_); refine kBI (some 10) rfl rfl Tryd.func30 (by kernel_rfl) rfl #[.agg #[.int .i64 a0_0, .int .i64 a0_1, .int .i64 a0_2, .int .i64 a0_3, .int .i64 a0_4, .slice A0_5 l0_5.length c0_5]] rfl (by (try simp only [List.map_toArray, List.map_cons, List.map_nil]); first | done | rfl | (simp only [List.length_drop, List.length_take]; rfl)) ?_; (with_reducible refine (footlockerref24_Right.calls k a0_0 a0_1 a0_2 a0_3 a0_4 _ _ l0_5 false _ ?side1 ?side2 A5.out).mono ?_); (case side1 => repeat (first | exact (Kd.kCG HR0_5.out HB.out) | (with_reducible refine Kd.kBH ?_ _) | (with_reducible refine Kd.kBF ?_ _) | (with_reducible refine Kd.kBM ?_))); (case side2 => exact HC0_5.out); rintro e w11 ⟨rfl, hb⟩; refine ⟨_, rfl, ?_⟩; have n0_ := kzA (Kd.kCD (by (with_reducible repeat (first | apply Kd.kAT | apply Kd.kAS | apply Kd.kAZ)); exact HO1.out) hb); have n1_ := kzA (kAL (g := gb393) (o := .cells #[.int .i64 a0_0, .int .i64 a0_1, .int .i64 a0_2, .int .i64 a0_3, .int .i64 a0_4, .slice A0_5 l0_5.length c0_5] 38 (0, 0)) (by (with_reducible repeat (first | refine kAH ?_ _ | refine kAI ?_ | refine kAG ?_ _)); exact BK393.out) hb); have n2_ := kzA (kAK (by repeat (first | (with_reducible first | exact HB.out | apply kAB | apply kAA | apply kAC | refine kAF ?_ GE393.out) | exact HB.out)) hb); clear HO1; clear BK393; clear HB; have HO1 := n0_; have BK393 := n1_; have HB := n2_; clear n0_ n1_ n2_; (try clear hb); (try clear hb2); (try clear hk); (try clear hi)))
   go_meet
   case rel => exact ⟨_, (true), (by first | rfl | (simp; done) | (simp [*]; done)), H', ⟨by first | omega | exact Nat.le_refl _⟩, ⟨by (with_reducible repeat (first | apply Kd.kAT | apply Kd.kAS | apply Kd.kAZ)); exact HO1.out⟩, ⟨by (with_reducible repeat (first | refine kAH ?_ _ | refine kAI ?_ | refine kAG ?_ _)); exact BK393.out⟩, ⟨by repeat (first | (with_reducible first | exact HB.out | apply kAB | apply kAA | apply kAC | refine kAF ?_ GE393.out) | exact HB.out)⟩⟩
 case rest =>
  clear HC3
  try clear c1
  try clear p2
  try clear c3
  try clear c6
  try clear p6
  try clear c10
  try clear hcz10_0
  try clear hcz10_1
  try clear hcz10_2
  try clear hcz10_3
  try clear hcz10_4
  try clear hcz10_5
  try clear hcz7_0
  try clear hcz7_1
  try clear hcz7_2
  try clear hcz7_3
  try clear hcz7_4
  try clear hcz7_5
  try clear hcz9_0
  try clear hcz9_1
  try clear hcz9_2
  try clear hcz9_3
  try clear hcz9_4
  try clear hcz9_5
  try clear hfz10_0
  try clear hfz10_1
  try clear hfz10_2
  try clear hfz10_3
  try clear hfz10_4
  try clear hfz10_5
  try clear hfz7_0
  try clear hfz7_1
  try clear hfz7_2
  try clear hfz7_3
  try clear hfz7_4
  try clear hfz7_5
  try clear hfz9_0
  try clear hfz9_1
  try clear hfz9_2
  try clear hfz9_3
  try clear hfz9_4
  try clear hfz9_5
  obtain ⟨kq, x20_2, rfl, HA, HJ2, HO_1, BK393, HB⟩ := hcut
  cases kq with
  | zero => exact absurd HA.out (by simp [footlockerref24_Write.j0])
  | succ kj2 =>
   have H := HA.out
   clear HA
   simp only [footlockerref24_Write.j0] at H
   by_cases c12 : x20_2 = true
   ·subst c12
    have H1 : (some (([] : List Int), 1)) = some (r1, r2) := by rw [if_pos rfl] at H; exact H
    clear H
    have H := H1
    clear H1
    simp only [Option.some.injEq, Prod.mk.injEq] at H
    obtain ⟨rfl, rfl⟩ := H
    go_wp2
    go_ret2
    exact ⟨_, by first | rfl | (simp [kAN, kAM] <;> rfl) | (simp [*, kAN, kAM] <;> rfl), by first | exact Kd.R_nil _ _ _ _ _ | exact Kd.N_nil _ _ _ _ _ | exact Kd.V_nil _ _ _ _ _ | exact Kd.Q_nil _ _ _ _ _ | exact Kd.S_nil _ _ _ _ _, by repeat (first | (with_reducible first | exact HB.out | apply kAB | apply kAA | apply kAC | refine kAF ?_ GE393.out) | exact HB.out)⟩
   ·replace c12 := Bool.eq_false_iff.mpr c12
    subst c12
    have H1 : ((footlockerref18_Numbers.f kj2 (([IntKind.u64.wrap (a0_0), IntKind.u64.wrap (a0_1), IntKind.u64.wrap (a0_4), IntKind.u64.wrap (a0_2), IntKind.u64.wrap (a0_3)] : List Int)) (([2, 2, 2, 4, 4] : List Int))).bind fun t404 => ((footlockerref01_Join.f kj2 (([(([70, 76, 82, 86, 1, 0] : List Int)), t404] : List (List Int)))).bind fun t410 => (footlockerref24_Write.l0 kj2 l1 t410 0 a0_0 a0_1 a0_2 a0_3 a0_4 l0_5))) = some (r1, r2) := by rw [if_neg (show ¬ (false = true) by decide)] at H; exact H
    clear H
    have H := H1
    clear H1
    obtain ⟨y395, hy395⟩ : ∃ y_ : List Int, y_ = (([70, 76, 82, 86, 1, 0] : List Int)) := ⟨_, rfl⟩
    replace H : ((footlockerref18_Numbers.f kj2 (([IntKind.u64.wrap (a0_0), IntKind.u64.wrap (a0_1), IntKind.u64.wrap (a0_4), IntKind.u64.wrap (a0_2), IntKind.u64.wrap (a0_3)] : List Int)) (([2, 2, 2, 4, 4] : List Int))).bind fun t404 => ((footlockerref01_Join.f kj2 (([y395, t404] : List (List Int)))).bind fun t410 => (footlockerref24_Write.l0 kj2 l1 t410 0 a0_0 a0_1 a0_2 a0_3 a0_4 l0_5))) = some (r1, r2) := by first | (rw [hy395]; with_reducible exact H) | (have H2_ := (Option.bind_some _ _).symm.trans H; rw [hy395]; with_reducible exact H2_) | (have H2_ := (Option.bind_some _ _).symm.trans H; with_reducible exact H2_) | with_reducible exact H | (rw [hy395]; exact H) | exact H
    have Ny395 := kzA hy395
    clear hy395
    obtain ⟨y398, hy398⟩ : ∃ y_ : List Int, y_ = (([IntKind.u64.wrap (a0_0), IntKind.u64.wrap (a0_1), IntKind.u64.wrap (a0_4), IntKind.u64.wrap (a0_2), IntKind.u64.wrap (a0_3)] : List Int)) := ⟨_, rfl⟩
    replace H : ((footlockerref18_Numbers.f kj2 y398 (([2, 2, 2, 4, 4] : List Int))).bind fun t404 => ((footlockerref01_Join.f kj2 (([y395, t404] : List (List Int)))).bind fun t410 => (footlockerref24_Write.l0 kj2 l1 t410 0 a0_0 a0_1 a0_2 a0_3 a0_4 l0_5))) = some (r1, r2) := by first | (rw [hy398]; with_reducible exact H) | (have H2_ := (Option.bind_some _ _).symm.trans H; rw [hy398]; with_reducible exact H2_) | (have H2_ := (Option.bind_some _ _).symm.trans H; with_reducible exact H2_) | with_reducible exact H | (rw [hy398]; exact H) | exact H
    have Ny398 := kzA hy398
    clear hy398
    obtain ⟨y401, hy401⟩ : ∃ y_ : List Int, y_ = (([2, 2, 2, 4, 4] : List Int)) := ⟨_, rfl⟩
    replace H : ((footlockerref18_Numbers.f kj2 y398 y401).bind fun t404 => ((footlockerref01_Join.f kj2 (([y395, t404] : List (List Int)))).bind fun t410 => (footlockerref24_Write.l0 kj2 l1 t410 0 a0_0 a0_1 a0_2 a0_3 a0_4 l0_5))) = some (r1, r2) := by first | (rw [hy401]; with_reducible exact H) | (have H2_ := (Option.bind_some _ _).symm.trans H; rw [hy401]; with_reducible exact H2_) | (have H2_ := (Option.bind_some _ _).symm.trans H; with_reducible exact H2_) | with_reducible exact H | (rw [hy401]; exact H) | exact H
    have Ny401 := kzA hy401
    clear hy401
    replace H := Option.bind_eq_some_iff.mp H
    obtain ⟨t404, A130, H⟩ := H
    replace H : ((footlockerref01_Join.f kj2 (([y395, t404] : List (List Int)))).bind fun t410 => (footlockerref24_Write.l0 kj2 l1 t410 0 a0_0 a0_1 a0_2 a0_3 a0_4 l0_5)) = some (r1, r2) := H
    have A13 := kzA A130
    clear A130
    obtain ⟨y407, hy407⟩ : ∃ y_ : List (List Int), y_ = (([y395, t404] : List (List Int))) := ⟨_, rfl⟩
    replace H : ((footlockerref01_Join.f kj2 y407).bind fun t410 => (footlockerref24_Write.l0 kj2 l1 t410 0 a0_0 a0_1 a0_2 a0_3 a0_4 l0_5)) = some (r1, r2) := by first | (rw [hy407]; with_reducible exact H) | (have H2_ := (Option.bind_some _ _).symm.trans H; rw [hy407]; with_reducible exact H2_) | (have H2_ := (Option.bind_some _ _).symm.trans H; with_reducible exact H2_) | with_reducible exact H | (rw [hy407]; exact H) | exact H
    have Ny407 := kzA hy407
    clear hy407
    replace H := Option.bind_eq_some_iff.mp H
    obtain ⟨t410, A140, H⟩ := H
    replace H : (footlockerref24_Write.l0 kj2 l1 t410 0 a0_0 a0_1 a0_2 a0_3 a0_4 l0_5) = some (r1, r2) := H
    have A14 := kzA A140
    clear A140
    have H' := kzA H
    clear H
    go_wp2_with (first | ((with_reducible refine kBA (N := 21) rfl ?_); (try (refine kCI (by rfl) ?_; dsimp only)); refine Kd.R_lit (Kd.int .u8) _ 5 ?hg (N := 21) ?hd (xs := ([70, 76, 82, 86, 1, 0] : List Int)) (inner := [.int .u8 70, .int .u8 76, .int .u8 82, .int .u8 86, .int .u8 1, .int .u8 0]) (ok := fun _ => True) (okp := fun _ => True) ?hr ?hp (fun _ hk => hk) trivial (Below.refl _ _) (Nat.le_refl _) (by simp) ?_; (case hd => rfl); (case hg => rfl); (case hr => first | (go_simp; done) | (go_simp; rfl)); (case hp => exact (Reps.one (show Kd.M (Kd.int .u8) _ _ _ 70 [.int .u8 70] from rfl) (Reps.one (show Kd.M (Kd.int .u8) _ _ _ 76 [.int .u8 76] from rfl) (Reps.one (show Kd.M (Kd.int .u8) _ _ _ 82 [.int .u8 82] from rfl) (Reps.one (show Kd.M (Kd.int .u8) _ _ _ 86 [.int .u8 86] from rfl) (Reps.one (show Kd.M (Kd.int .u8) _ _ _ 1 [.int .u8 1] from rfl) (Reps.one (show Kd.M (Kd.int .u8) _ _ _ 0 [.int .u8 0] from rfl) (Reps.none _ _)))))))); intro v396 w15 ho16 hb hg_ hnew_; clear hg_ hnew_; (first | rw [← Ny395.out] at ho16 | (simp only [Int.reduceToNat] at ho16; rw [← Ny395.out] at ho16)); have n0_ := kzA (Kd.V_elder' (by (with_reducible repeat (first | apply Kd.kAT | apply Kd.kAS | apply Kd.kAZ)); exact HO_1.out) (Kd.kBK ho16) hb); have n1_ := kzA (Kd.kBO (Kd.R_newM (M := fun k_ => (w.heap.size ≤ k_)) ho16 (kAJ (by repeat (first | (with_reducible first | exact HB.out | apply kAB | apply kAA | apply kAC | refine kAF ?_ GE393.out) | exact HB.out))) (fun k_ h_ => h_)) (kAJ (by repeat (first | (with_reducible first | exact HB.out | apply kAB | apply kAA | apply kAC | refine kAF ?_ GE393.out) | exact HB.out)))); have n2_ := kzA (kAL (g := gb393) (o := .cells #[.int .i64 a0_0, .int .i64 a0_1, .int .i64 a0_2, .int .i64 a0_3, .int .i64 a0_4, .slice A0_5 l0_5.length c0_5] 38 (0, 0)) (by (with_reducible repeat (first | refine kAH ?_ _ | refine kAI ?_ | refine kAG ?_ _)); exact BK393.out) hb); have n3_ := kzA (kAK (by repeat (first | (with_reducible first | exact HB.out | apply kAB | apply kAA | apply kAC | refine kAF ?_ GE393.out) | exact HB.out)) hb); clear HO_1; clear BK393; clear HB; have HO_1 := n0_; have HO397 := n1_; have BK393 := n2_; have HB := n3_; clear n0_ n1_ n2_ n3_; clear hb ho16; have hcz17_0 : w15.cell? ⟨gb393, 0, none⟩ = some (.int .i64 a0_0) := (kAD BK393.out 0).trans rfl; have hcz17_1 : w15.cell? ⟨gb393, 1, none⟩ = some (.int .i64 a0_1) := (kAD BK393.out 1).trans rfl; have hcz17_2 : w15.cell? ⟨gb393, 2, none⟩ = some (.int .i64 a0_2) := (kAD BK393.out 2).trans rfl; have hcz17_3 : w15.cell? ⟨gb393, 3, none⟩ = some (.int .i64 a0_3) := (kAD BK393.out 3).trans rfl; have hcz17_4 : w15.cell? ⟨gb393, 4, none⟩ = some (.int .i64 a0_4) := (kAD BK393.out 4).trans rfl; have hcz17_5 : w15.cell? ⟨gb393, 5, none⟩ = some (.slice A0_5 l0_5.length c0_5) := (kAD BK393.out 5).trans rfl; have hfz17_0 := kAE BK393.out 0; have hfz17_1 := kAE BK393.out 1; have hfz17_2 := kAE BK393.out 2; have hfz17_3 := kAE BK393.out 3; have hfz17_4 := kAE BK393.out 4; have hfz17_5 := kAE BK393.out 5) | ((with_reducible refine kBA (N := 41) rfl ?_); (try (refine kCI (by rfl) ?_; dsimp only)); refine Kd.R_lit (Kd.int .u64) _ 64 ?hg (N := 41) ?hd (xs := ([IntKind.u64.wrap (a0_0), IntKind.u64.wrap (a0_1), IntKind.u64.wrap (a0_4), IntKind.u64.wrap (a0_2), IntKind.u64.wrap (a0_3)] : List Int)) (inner := [.int .u64 (IntKind.u64.wrap (a0_0)), .int .u64 (IntKind.u64.wrap (a0_1)), .int .u64 (IntKind.u64.wrap (a0_4)), .int .u64 (IntKind.u64.wrap (a0_2)), .int .u64 (IntKind.u64.wrap (a0_3))]) (ok := fun _ => True) (okp := fun _ => True) ?hr ?hp (fun _ hk => hk) trivial (Below.refl _ _) (Nat.le_refl _) (by simp) ?_; (case hd => rfl); (case hg => rfl); (case hr => first | (go_simp; done) | (go_simp; rfl)); (case hp => exact (Reps.one (show Kd.M (Kd.int .u64) _ _ _ (IntKind.u64.wrap (a0_0)) [.int .u64 (IntKind.u64.wrap (a0_0))] from rfl) (Reps.one (show Kd.M (Kd.int .u64) _ _ _ (IntKind.u64.wrap (a0_1)) [.int .u64 (IntKind.u64.wrap (a0_1))] from rfl) (Reps.one (show Kd.M (Kd.int .u64) _ _ _ (IntKind.u64.wrap (a0_4)) [.int .u64 (IntKind.u64.wrap (a0_4))] from rfl) (Reps.one (show Kd.M (Kd.int .u64) _ _ _ (IntKind.u64.wrap (a0_2)) [.int .u64 (IntKind.u64.wrap (a0_2))] from rfl) (Reps.one (show Kd.M (Kd.int .u64) _ _ _ (IntKind.u64.wrap (a0_3)) [.int .u64 (IntKind.u64.wrap (a0_3))] from rfl) (Reps.none _ _))))))); intro v399 w18 ho19 hb hg_ hnew_; clear hg_ hnew_; (first | rw [← Ny398.out] at ho19 | (simp only [Int.reduceToNat] at ho19; rw [← Ny398.out] at ho19)); have n0_ := kzA (Kd.V_elder' (by (with_reducible repeat (first | apply Kd.kAT | apply Kd.kAS | apply Kd.kAZ)); exact HO_1.out) (Kd.kBK ho19) hb); have n1_ := kzA (Kd.kBJ (by (with_reducible repeat (first | apply Kd.kAP | apply Kd.kAO | apply Kd.kAR)); exact HO397.out) hb); have n2_ := kzA (Kd.kBO (Kd.R_newM (M := fun k_ => (w.heap.size ≤ k_)) ho19 (kAJ (by repeat (first | (with_reducible first | exact HB.out | apply kAB | apply kAA | apply kAC | refine kAF ?_ GE393.out) | exact HB.out))) (fun k_ h_ => h_)) (kAJ (by repeat (first | (with_reducible first | exact HB.out | apply kAB | apply kAA | apply kAC | refine kAF ?_ GE393.out) | exact HB.out)))); have n3_ := kzA (kAL (g := gb393) (o := .cells #[.int .i64 a0_0, .int .i64 a0_1, .int .i64 a0_2, .int .i64 a0_3, .int .i64 a0_4, .slice A0_5 l0_5.length c0_5] 38 (0, 0)) (by (with_reducible repeat (first | refine kAH ?_ _ | refine kAI ?_ | refine kAG ?_ _)); exact BK393.out) hb); have n4_ := kzA (kAK (by repeat (first | (with_reducible first | exact HB.out | apply kAB | apply kAA | apply kAC | refine kAF ?_ GE393.out) | exact HB.out)) hb); clear HO_1; clear HO397; clear BK393; clear HB; have HO_1 := n0_; have HO397 := n1_; have HO400 := n2_; have BK393 := n3_; have HB := n4_; clear n0_ n1_ n2_ n3_ n4_; clear hb ho19) | ((with_reducible refine kBA (N := 42) rfl ?_); (try (refine kCI (by rfl) ?_; dsimp only)); refine Kd.R_lit (Kd.int .i64) _ 3 ?hg (N := 42) ?hd (xs := ([2, 2, 2, 4, 4] : List Int)) (inner := [.int .i64 2, .int .i64 2, .int .i64 2, .int .i64 4, .int .i64 4]) (ok := fun _ => True) (okp := fun _ => True) ?hr ?hp (fun _ hk => hk) trivial (Below.refl _ _) (Nat.le_refl _) (by simp) ?_; (case hd => rfl); (case hg => rfl); (case hr => first | (go_simp; done) | (go_simp; rfl)); (case hp => exact (Reps.one (show Kd.M (Kd.int .i64) _ _ _ 2 [.int .i64 2] from rfl) (Reps.one (show Kd.M (Kd.int .i64) _ _ _ 2 [.int .i64 2] from rfl) (Reps.one (show Kd.M (Kd.int .i64) _ _ _ 2 [.int .i64 2] from rfl) (Reps.one (show Kd.M (Kd.int .i64) _ _ _ 4 [.int .i64 4] from rfl) (Reps.one (show Kd.M (Kd.int .i64) _ _ _ 4 [.int .i64 4] from rfl) (Reps.none _ _))))))); intro v402 w20 ho21 hb hg_ hnew_; clear hg_ hnew_; (first | rw [← Ny401.out] at ho21 | (simp only [Int.reduceToNat] at ho21; rw [← Ny401.out] at ho21)); have n0_ := kzA (Kd.V_elder' (by (with_reducible repeat (first | apply Kd.kAT | apply Kd.kAS | apply Kd.kAZ)); exact HO_1.out) (Kd.kBK ho21) hb); have n1_ := kzA (Kd.kBJ (by (with_reducible repeat (first | apply Kd.kAP | apply Kd.kAO | apply Kd.kAR)); exact HO397.out) hb); have n2_ := kzA (Kd.kBJ (by (with_reducible repeat (first | apply Kd.kAP | apply Kd.kAO | apply Kd.kAR)); exact HO400.out) hb); have n3_ := kzA (Kd.kBO (Kd.R_newM (M := fun k_ => (w.heap.size ≤ k_)) ho21 (kAJ (by repeat (first | (with_reducible first | exact HB.out | apply kAB | apply kAA | apply kAC | refine kAF ?_ GE393.out) | exact HB.out))) (fun k_ h_ => h_)) (kAJ (by repeat (first | (with_reducible first | exact HB.out | apply kAB | apply kAA | apply kAC | refine kAF ?_ GE393.out) | exact HB.out)))); have n4_ := kzA (kAL (g := gb393) (o := .cells #[.int .i64 a0_0, .int .i64 a0_1, .int .i64 a0_2, .int .i64 a0_3, .int .i64 a0_4, .slice A0_5 l0_5.length c0_5] 38 (0, 0)) (by (with_reducible repeat (first | refine kAH ?_ _ | refine kAI ?_ | refine kAG ?_ _)); exact BK393.out) hb); have n5_ := kzA (kAK (by repeat (first | (with_reducible first | exact HB.out | apply kAB | apply kAA | apply kAC | refine kAF ?_ GE393.out) | exact HB.out)) hb); clear HO_1; clear HO397; clear HO400; clear BK393; clear HB; have HO_1 := n0_; have HO397 := n1_; have HO400 := n2_; have HO403 := n3_; have BK393 := n4_; have HB := n5_; clear n0_ n1_ n2_ n3_ n4_ n5_; clear hb ho21; obtain ⟨Ao22, co22, eo22⟩ := Kd.kCK HO400.out; subst eo22; obtain ⟨Ao23, co23, eo23⟩ := Kd.kCK HO403.out; subst eo23) | ((with_reducible refine kAQ (f := 32) rfl ?_); refine kBI (some 43) rfl rfl Tryd.func32 (by kernel_rfl) rfl #[.slice Ao22 y398.length co22, .slice Ao23 y401.length co23] rfl (by (try simp only [List.map_toArray, List.map_cons, List.map_nil]); first | done | rfl | (simp only [List.length_drop, List.length_take]; rfl)) ?_; (with_reducible refine (footlockerref18_Numbers.calls kj2 _ _ y398 _ _ y401 t404 _ ?side1 ?side2 ?side3 ?side4 A13.out).mono ?_); (case side1 => repeat (first | exact (Kd.R_reads' HO400.out).2.2 | (with_reducible refine Kd.kBH ?_ _) | (with_reducible refine Kd.kBF ?_ _) | (with_reducible refine Kd.kBM ?_))); (case side2 => exact (Kd.R_reads' HO400.out).2.1); (case side3 => repeat (first | exact (Kd.R_reads' HO403.out).2.2 | (with_reducible refine Kd.kBH ?_ _) | (with_reducible refine Kd.kBF ?_ _) | (with_reducible refine Kd.kBM ?_))); (case side4 => exact (Kd.R_reads' HO403.out).2.1); rintro e w24 ⟨v405, rfl, ho0, hb⟩; refine ⟨_, rfl, ?_⟩; have n0_ := kzA (Kd.V_elder' (by (with_reducible repeat (first | apply Kd.kAT | apply Kd.kAS | apply Kd.kAZ)); exact HO_1.out) (Kd.kBK ho0) hb); have n1_ := kzA (Kd.R_elder' (by (with_reducible repeat (first | apply Kd.kAP | apply Kd.kAO | apply Kd.kAR)); exact HO397.out) (Kd.kBK ho0) hb); have n2_ := kzA (Kd.kBJ (by (with_reducible repeat (first | apply Kd.kAP | apply Kd.kAO | apply Kd.kAR)); exact HO400.out) hb); have n3_ := kzA (Kd.kBJ (by (with_reducible repeat (first | apply Kd.kAP | apply Kd.kAO | apply Kd.kAR)); exact HO403.out) hb); have n4_ := kzA (Kd.kBO (Kd.R_new' (Kd.R_newM (M := fun k_ => (w.heap.size ≤ k_)) ho0 (kAJ (by repeat (first | (with_reducible first | exact HB.out | apply kAB | apply kAA | apply kAC | refine kAF ?_ GE393.out) | exact HB.out))) (fun k_ h_ => h_)) (Kd.R_lt (by (with_reducible repeat (first | apply Kd.kAP | apply Kd.kAO | apply Kd.kAR)); exact HO397.out))) (kAJ (by repeat (first | (with_reducible first | exact HB.out | apply kAB | apply kAA | apply kAC | refine kAF ?_ GE393.out) | exact HB.out)))); have n5_ := kzA (kAL (g := gb393) (o := .cells #[.int .i64 a0_0, .int .i64 a0_1, .int .i64 a0_2, .int .i64 a0_3, .int .i64 a0_4, .slice A0_5 l0_5.length c0_5] 38 (0, 0)) (by (with_reducible repeat (first | refine kAH ?_ _ | refine kAI ?_ | refine kAG ?_ _)); exact BK393.out) hb); have n6_ := kzA (kAK (by repeat (first | (with_reducible first | exact HB.out | apply kAB | apply kAA | apply kAC | refine kAF ?_ GE393.out) | exact HB.out)) hb); clear HO_1; clear HO397; clear HO400; clear HO403; clear BK393; clear HB; have HO_1 := n0_; have HO397 := n1_; have HO400 := n2_; have HO403 := n3_; have HO406 := n4_; have BK393 := n5_; have HB := n6_; clear n0_ n1_ n2_ n3_ n4_ n5_ n6_; (try clear hb); (try clear hb2); (try clear hk); (try clear hi); (try clear ho0); obtain ⟨Ao25, co25, eo25⟩ := Kd.kCK HO397.out; subst eo25; obtain ⟨Ao26, co26, eo26⟩ := Kd.kCK HO406.out; subst eo26) | ((with_reducible refine kBA (N := 44) rfl ?_); (try (refine kCI (by rfl) ?_; dsimp only)); refine Kd.N_lit (Kd.slice 5 (Kd.int .u8)) _ 27 ?hg (N' := 44) ?hd (xs := ([y395, t404] : List (List Int))) (inner := [.slice Ao25 y395.length co25, .slice Ao26 t404.length co26]) (ok := (fun k_ => (P1_ k_ ∨ w.heap.size ≤ k_) ∧ some k_ ≠ (.slice Ao22 y398.length co22 : Value).ownBlock ∧ some k_ ≠ (.slice Ao23 y401.length co23 : Value).ownBlock ∧ k_ ≠ gb393)) (okp := (fun k_ => (P1_ k_ ∨ w.heap.size ≤ k_) ∧ some k_ ≠ (.slice Ao22 y398.length co22 : Value).ownBlock ∧ some k_ ≠ (.slice Ao23 y401.length co23 : Value).ownBlock ∧ k_ ≠ gb393)) ?hr ?hp (fun _ hk => hk) ((show ∀ k_, w24.heap.size ≤ k_ → (fun k_ => (P1_ k_ ∨ w.heap.size ≤ k_) ∧ some k_ ≠ (.slice Ao22 y398.length co22 : Value).ownBlock ∧ some k_ ≠ (.slice Ao23 y401.length co23 : Value).ownBlock ∧ k_ ≠ gb393) k_ from fun k_ hk => ⟨(.inr (Nat.le_trans (kAJ (by repeat (first | (with_reducible first | exact HB.out | apply kAB | apply kAA | apply kAC | refine kAF ?_ GE393.out) | exact HB.out))) hk)), Kd.fresh' (Kd.R_lt (by (with_reducible repeat (first | apply Kd.kAP | apply Kd.kAO | apply Kd.kAR)); exact HO400.out)) k_ hk, Kd.fresh' (Kd.R_lt (by (with_reducible repeat (first | apply Kd.kAP | apply Kd.kAO | apply Kd.kAR)); exact HO403.out)) k_ hk, Kd.freshB (g := gb393) (o := .cells #[.int .i64 a0_0, .int .i64 a0_1, .int .i64 a0_2, .int .i64 a0_3, .int .i64 a0_4, .slice A0_5 l0_5.length c0_5] 38 (0, 0)) (by (with_reducible repeat (first | refine kAH ?_ _ | refine kAI ?_ | refine kAG ?_ _)); exact BK393.out) k_ hk⟩) _ (Nat.le_refl _)) (Below.refl _ _) (Nat.le_refl _) (by simp) ?_; (case hd => rfl); (case hg => rfl); (case hr => first | (go_simp; done) | (go_simp; rfl)); (case hp => exact (Reps.one (show Kd.FK (Kd.slice 5 (Kd.int .u8)) _ _ y395 [.slice Ao25 y395.length co25] from (Kd.kCJ (Kd.R_reads' (Kd.kBL (ok' := (fun k_ => (P1_ k_ ∨ w.heap.size ≤ k_) ∧ some k_ ≠ (.slice Ao22 y398.length co22 : Value).ownBlock ∧ some k_ ≠ (.slice Ao23 y401.length co23 : Value).ownBlock ∧ k_ ≠ gb393)) (Kd.kBZ (Kd.R_apart' (Kd.R_apart' (HO397.out) (Kd.R_typed HO400.out) (by decide)) (Kd.R_typed HO403.out) (by decide)) BK393.out (by decide)) (fun k_ hk => ⟨(.inr (hk.1.1.1.1.1)), ⟨hk.1.1.2, ⟨hk.1.2, hk.2⟩⟩⟩))).2.1 (Kd.R_F (Kd.kBL (ok' := (fun k_ => (P1_ k_ ∨ w.heap.size ≤ k_) ∧ some k_ ≠ (.slice Ao22 y398.length co22 : Value).ownBlock ∧ some k_ ≠ (.slice Ao23 y401.length co23 : Value).ownBlock ∧ k_ ≠ gb393)) (Kd.kBZ (Kd.R_apart' (Kd.R_apart' (HO397.out) (Kd.R_typed HO400.out) (by decide)) (Kd.R_typed HO403.out) (by decide)) BK393.out (by decide)) (fun k_ hk => ⟨(.inr (hk.1.1.1.1.1)), ⟨hk.1.1.2, ⟨hk.1.2, hk.2⟩⟩⟩))))) (Reps.one (show Kd.FK (Kd.slice 5 (Kd.int .u8)) _ _ t404 [.slice Ao26 t404.length co26] from (Kd.kCJ (Kd.R_reads' (Kd.kBL (ok' := (fun k_ => (P1_ k_ ∨ w.heap.size ≤ k_) ∧ some k_ ≠ (.slice Ao22 y398.length co22 : Value).ownBlock ∧ some k_ ≠ (.slice Ao23 y401.length co23 : Value).ownBlock ∧ k_ ≠ gb393)) (Kd.kBZ (Kd.R_apart' (Kd.R_apart' (HO406.out) (Kd.R_typed HO400.out) (by decide)) (Kd.R_typed HO403.out) (by decide)) BK393.out (by decide)) (fun k_ hk => ⟨(.inr (hk.1.1.1.1.1)), ⟨hk.1.1.2, ⟨hk.1.2, hk.2⟩⟩⟩))).2.1 (Kd.R_F (Kd.kBL (ok' := (fun k_ => (P1_ k_ ∨ w.heap.size ≤ k_) ∧ some k_ ≠ (.slice Ao22 y398.length co22 : Value).ownBlock ∧ some k_ ≠ (.slice Ao23 y401.length co23 : Value).ownBlock ∧ k_ ≠ gb393)) (Kd.kBZ (Kd.R_apart' (Kd.R_apart' (HO406.out) (Kd.R_typed HO400.out) (by decide)) (Kd.R_typed HO403.out) (by decide)) BK393.out (by decide)) (fun k_ hk => ⟨(.inr (hk.1.1.1.1.1)), ⟨hk.1.1.2, ⟨hk.1.2, hk.2⟩⟩⟩))))) (Reps.none _ _)))); intro v408 w27 ho28 hb hg_ hnew_; clear hg_ hnew_; (first | rw [← Ny407.out] at ho28 | (simp only [Int.reduceToNat] at ho28; rw [← Ny407.out] at ho28)); have n0_ := kzA (Kd.V_elder' (by (with_reducible repeat (first | apply Kd.kAT | apply Kd.kAS | apply Kd.kAZ)); exact HO_1.out) (Kd.N_base ho28) hb); have n1_ := kzA (Kd.kBJ (by (with_reducible repeat (first | apply Kd.kAP | apply Kd.kAO | apply Kd.kAR)); exact HO400.out) hb); have n2_ := kzA (Kd.kBJ (by (with_reducible repeat (first | apply Kd.kAP | apply Kd.kAO | apply Kd.kAR)); exact HO403.out) hb); have n3_ := kzA (Kd.N_lower ho28 (kAJ (by repeat (first | (with_reducible first | exact HB.out | apply kAB | apply kAA | apply kAC | refine kAF ?_ GE393.out) | exact HB.out)))); have n4_ := kzA (kAL (g := gb393) (o := .cells #[.int .i64 a0_0, .int .i64 a0_1, .int .i64 a0_2, .int .i64 a0_3, .int .i64 a0_4, .slice A0_5 l0_5.length c0_5] 38 (0, 0)) (by (with_reducible repeat (first | refine kAH ?_ _ | refine kAI ?_ | refine kAG ?_ _)); exact BK393.out) hb); have n5_ := kzA (kAK (by repeat (first | (with_reducible first | exact HB.out | apply kAB | apply kAA | apply kAC | refine kAF ?_ GE393.out) | exact HB.out)) hb); clear HO_1; clear HO400; clear HO403; clear BK393; clear HB; clear HO397; clear HO406; have HO_1 := n0_; have HO400 := n1_; have HO403 := n2_; have HO409 := n3_; have BK393 := n4_; have HB := n5_; clear n0_ n1_ n2_ n3_ n4_ n5_; clear hb ho28; obtain ⟨Ao29, co29, eo29⟩ := Kd.N_slice HO409.out; subst eo29) | ((with_reducible refine kAQ (f := 31) rfl ?_); refine kBI (some 45) rfl rfl Tryd.func31 (by kernel_rfl) rfl #[.slice Ao29 y407.length co29] rfl (by (try simp only [List.map_toArray, List.map_cons, List.map_nil]); first | done | rfl | (simp only [List.length_drop, List.length_take]; rfl)) ?_; (with_reducible refine (footlockerref01_Join.calls kj2 _ _ y407 t410 _ ?side1 ?side2 A14.out).mono ?_); (case side1 => repeat (first | exact (Kd.N_reads' HO409.out).2.2 | (with_reducible refine Kd.kBH ?_ _) | (with_reducible refine Kd.kBF ?_ _) | (with_reducible refine Kd.kBM ?_))); (case side2 => exact (Kd.N_reads' HO409.out).2.1); rintro e w30 ⟨v411, rfl, ho0, hb⟩; refine ⟨_, rfl, ?_⟩; have n0_ := kzA (Kd.V_elder' (by (with_reducible repeat (first | apply Kd.kAT | apply Kd.kAS | apply Kd.kAZ)); exact HO_1.out) (Kd.kBK ho0) hb); have n1_ := kzA (Kd.kBJ (by (with_reducible repeat (first | apply Kd.kAP | apply Kd.kAO | apply Kd.kAR)); exact HO400.out) hb); have n2_ := kzA (Kd.kBJ (by (with_reducible repeat (first | apply Kd.kAP | apply Kd.kAO | apply Kd.kAR)); exact HO403.out) hb); have n3_ := kzA (Kd.N_elder' (by (with_reducible repeat (first | apply Kd.kAW | apply Kd.kAV | apply Kd.kBC)); exact HO409.out) (Kd.kBK ho0) hb); have n4_ := kzA (Kd.kBO (Kd.R_newM (M := fun k_ => (w.heap.size ≤ k_)) ho0 (kAJ (by repeat (first | (with_reducible first | exact HB.out | apply kAB | apply kAA | apply kAC | refine kAF ?_ GE393.out) | exact HB.out))) (fun k_ h_ => h_)) (kAJ (by repeat (first | (with_reducible first | exact HB.out | apply kAB | apply kAA | apply kAC | refine kAF ?_ GE393.out) | exact HB.out)))); have n5_ := kzA (kAL (g := gb393) (o := .cells #[.int .i64 a0_0, .int .i64 a0_1, .int .i64 a0_2, .int .i64 a0_3, .int .i64 a0_4, .slice A0_5 l0_5.length c0_5] 38 (0, 0)) (by (with_reducible repeat (first | refine kAH ?_ _ | refine kAI ?_ | refine kAG ?_ _)); exact BK393.out) hb); have n6_ := kzA (kAK (by repeat (first | (with_reducible first | exact HB.out | apply kAB | apply kAA | apply kAC | refine kAF ?_ GE393.out) | exact HB.out)) hb); clear HO_1; clear HO400; clear HO403; clear HO409; clear BK393; clear HB; have HO_1 := n0_; have HO400 := n1_; have HO403 := n2_; have HO409 := n3_; have HO412 := n4_; have BK393 := n5_; have HB := n6_; clear n0_ n1_ n2_ n3_ n4_ n5_ n6_; (try clear hb); (try clear hb2); (try clear hk); (try clear hi); (try clear ho0)))
    go_loopg [6, 7] kj2 (fun kq v6 v7 w' => ∃ (x6_2 : List Int) (x7_2 : Int), v7 = .int .i64 x7_2 ∧ Aside0 (footlockerref24_Write.l0 kq l1 x6_2 x7_2 a0_0 a0_1 a0_2 a0_3 a0_4 l0_5 = some (r1, r2)) ∧ Aside0 (kq ≤ kj2) ∧ Aside0 (Kd.V (Kd.int .u8) 5 w' w.heap.size (fun k_ => (P1_ k_ ∨ w.heap.size ≤ k_) ∧ some k_ ≠ (v6 : Value).ownBlock ∧ k_ ≠ gb393) (.slice A1 l1.length c1) l1) ∧ Aside0 (Kd.R (Kd.int .u8) 5 w' w.heap.size (fun k_ => (w.heap.size ≤ k_)) v6 x6_2) ∧ Aside0 (w'.heap[gb393]? = some (.cells #[.int .i64 a0_0, .int .i64 a0_1, .int .i64 a0_2, .int .i64 a0_3, .int .i64 a0_4, (.slice A0_5 l0_5.length c0_5)] 38 (0, 0))) ∧ Aside0 (Below w.heap.size w w'))
    case atStart => exact ⟨(t410), (0), (by first | rfl | (simp; done) | (simp [*]; done)), H', ⟨Nat.le_refl _⟩, ⟨by (with_reducible repeat (first | apply Kd.kAT | apply Kd.kAS | apply Kd.kAZ)); exact Kd.kBV HO_1.out (fun _ hk => ⟨hk.1.1.1.1.1.1.1, ⟨hk.2, hk.1.1.1.1.1.1.2⟩⟩)⟩, ⟨by (with_reducible repeat (first | apply Kd.kAP | apply Kd.kAO | apply Kd.kAR)); exact Kd.kBL HO412.out (fun _ hk => hk.1)⟩, ⟨by (with_reducible repeat (first | refine kAH ?_ _ | refine kAI ?_ | refine kAG ?_ _)); exact BK393.out⟩, ⟨by repeat (first | (with_reducible first | exact HB.out | apply kAB | apply kAA | apply kAC | refine kAF ?_ GE393.out) | exact HB.out)⟩⟩
    case round =>
     clear H'
     try clear c1
     try clear p2
     try clear c3
     try clear c6
     try clear p6
     try clear c10
     try clear c12
     try clear c30
     try clear hcz10_0
     try clear hcz10_1
     try clear hcz10_2
     try clear hcz10_3
     try clear hcz10_4
     try clear hcz10_5
     try clear hcz17_0
     try clear hcz17_1
     try clear hcz17_2
     try clear hcz17_3
     try clear hcz17_4
     try clear hcz17_5
     try clear hcz7_0
     try clear hcz7_1
     try clear hcz7_2
     try clear hcz7_3
     try clear hcz7_4
     try clear hcz7_5
     try clear hcz9_0
     try clear hcz9_1
     try clear hcz9_2
     try clear hcz9_3
     try clear hcz9_4
     try clear hcz9_5
     try clear hfz10_0
     try clear hfz10_1
     try clear hfz10_2
     try clear hfz10_3
     try clear hfz10_4
     try clear hfz10_5
     try clear hfz17_0
     try clear hfz17_1
     try clear hfz17_2
     try clear hfz17_3
     try clear hfz17_4
     try clear hfz17_5
     try clear hfz7_0
     try clear hfz7_1
     try clear hfz7_2
     try clear hfz7_3
     try clear hfz7_4
     try clear hfz7_5
     try clear hfz9_0
     try clear hfz9_1
     try clear hfz9_2
     try clear hfz9_3
     try clear hfz9_4
     try clear hfz9_5
     try clear p2
     try clear p6
     obtain ⟨x6_2, x7_2, rfl, HA, HK2, HO_1, HO_6, BK393, HB⟩ := hrel
     cases gk with
     | zero => exact absurd HA.out (by simp [footlockerref24_Write.l0])
     | succ k2 =>
      have H := HA.out
      clear HA
      simp only [footlockerref24_Write.l0] at H
      by_cases c31 : x7_2 < (l0_5.length : Int)
      ·rw [if_pos c31] at H
       have c31b0 : decide (x7_2 < (l0_5.length : Int)) = true := decide_eq_true c31
       clear c31
       have H' := kzA H
       clear H
       have hcz32_0 : wr.cell? ⟨gb393, 0, none⟩ = some (.int .i64 a0_0) := (kAD BK393.out 0).trans rfl
       have hcz32_1 : wr.cell? ⟨gb393, 1, none⟩ = some (.int .i64 a0_1) := (kAD BK393.out 1).trans rfl
       have hcz32_2 : wr.cell? ⟨gb393, 2, none⟩ = some (.int .i64 a0_2) := (kAD BK393.out 2).trans rfl
       have hcz32_3 : wr.cell? ⟨gb393, 3, none⟩ = some (.int .i64 a0_3) := (kAD BK393.out 3).trans rfl
       have hcz32_4 : wr.cell? ⟨gb393, 4, none⟩ = some (.int .i64 a0_4) := (kAD BK393.out 4).trans rfl
       have hcz32_5 : wr.cell? ⟨gb393, 5, none⟩ = some (.slice A0_5 l0_5.length c0_5) := (kAD BK393.out 5).trans rfl
       have hfz32_0 := kAE BK393.out 0
       have hfz32_1 := kAE BK393.out 1
       have hfz32_2 := kAE BK393.out 2
       have hfz32_3 := kAE BK393.out 3
       have hfz32_4 := kAE BK393.out 4
       have hfz32_5 := kAE BK393.out 5
       go_wp2
       go_loopg [6, 8] k2 (fun kq v6 v8 w' => ∃ (x6_3 : List Int) (x8_3 : Int), v8 = .int .i64 x8_3 ∧ Aside0 (footlockerref24_Write.l1 kq l1 x6_3 x7_2 x8_3 a0_0 a0_1 a0_2 a0_3 a0_4 l0_5 = some (r1, r2)) ∧ Aside0 (kq ≤ k2) ∧ Aside0 (Kd.V (Kd.int .u8) 5 w' w.heap.size (fun k_ => (P1_ k_ ∨ w.heap.size ≤ k_) ∧ some k_ ≠ (v6 : Value).ownBlock ∧ k_ ≠ gb393) (.slice A1 l1.length c1) l1) ∧ Aside0 (Kd.R (Kd.int .u8) 5 w' w.heap.size (fun k_ => (w.heap.size ≤ k_)) v6 x6_3) ∧ Aside0 (w'.heap[gb393]? = some (.cells #[.int .i64 a0_0, .int .i64 a0_1, .int .i64 a0_2, .int .i64 a0_3, .int .i64 a0_4, (.slice A0_5 l0_5.length c0_5)] 38 (0, 0))) ∧ Aside0 (Below w.heap.size w w'))
       case atStart => exact ⟨(x6_2), (0), (by first | rfl | (simp; done) | (simp [*]; done)), H', ⟨Nat.le_refl _⟩, ⟨by (with_reducible repeat (first | apply Kd.kAT | apply Kd.kAS | apply Kd.kAZ)); exact HO_1.out⟩, ⟨by (with_reducible repeat (first | apply Kd.kAP | apply Kd.kAO | apply Kd.kAR)); exact HO_6.out⟩, ⟨by (with_reducible repeat (first | refine kAH ?_ _ | refine kAI ?_ | refine kAG ?_ _)); exact BK393.out⟩, ⟨by repeat (first | (with_reducible first | exact HB.out | apply kAB | apply kAA | apply kAC | refine kAF ?_ GE393.out) | exact HB.out)⟩⟩
       case round =>
        clear H'
        try clear c1
        try clear p2
        try clear c3
        try clear c6
        try clear p6
        try clear c10
        try clear c12
        try clear c30
        try clear c31
        try clear c31b0
        try clear c32
        try clear hcz10_0
        try clear hcz10_1
        try clear hcz10_2
        try clear hcz10_3
        try clear hcz10_4
        try clear hcz10_5
        try clear hcz17_0
        try clear hcz17_1
        try clear hcz17_2
        try clear hcz17_3
        try clear hcz17_4
        try clear hcz17_5
        try clear hcz32_0
        try clear hcz32_1
        try clear hcz32_2
        try clear hcz32_3
        try clear hcz32_4
        try clear hcz32_5
        try clear hcz7_0
        try clear hcz7_1
        try clear hcz7_2
        try clear hcz7_3
        try clear hcz7_4
        try clear hcz7_5
        try clear hcz9_0
        try clear hcz9_1
        try clear hcz9_2
        try clear hcz9_3
        try clear hcz9_4
        try clear hcz9_5
        try clear hfz10_0
        try clear hfz10_1
        try clear hfz10_2
        try clear hfz10_3
        try clear hfz10_4
        try clear hfz10_5
        try clear hfz17_0
        try clear hfz17_1
        try clear hfz17_2
        try clear hfz17_3
        try clear hfz17_4
        try clear hfz17_5
        try clear hfz32_0
        try clear hfz32_1
        try clear hfz32_2
        try clear hfz32_3
        try clear hfz32_4
        try clear hfz32_5
        try clear hfz7_0
        try clear hfz7_1
        try clear hfz7_2
        try clear hfz7_3
        try clear hfz7_4
        try clear hfz7_5
        try clear hfz9_0
        try clear hfz9_1
        try clear hfz9_2
        try clear hfz9_3
        try clear hfz9_4
        try clear hfz9_5
        try clear p2
        try clear p6
        obtain ⟨x6_3, x8_3, rfl, HA, HK3, HO_1, HO_6, BK393, HB⟩ := hrel
        cases gk with
        | zero => exact absurd HA.out (by simp [footlockerref24_Write.l1])
        | succ k3 =>
         have H := HA.out
         clear HA
         simp only [footlockerref24_Write.l1] at H
         by_cases c33 : 0 ≤ x7_2
         ·rw [if_pos c33] at H
          have c33b0 : decide (0 ≤ x7_2) = true := decide_eq_true c33
          clear c33
          by_cases c34 : x7_2 < (l0_5.length : Int)
          ·rw [if_pos c34] at H
           have c34b0 : decide (x7_2 < (l0_5.length : Int)) = true := decide_eq_true c34
           clear c34
           by_cases c35 : x8_3 < ((rd_L3 l0_5 x7_2).length : Int)
           ·rw [if_pos c35] at H
            have c35b0 : decide (x8_3 < ((rd_L3 l0_5 x7_2).length : Int)) = true := decide_eq_true c35
            clear c35
            by_cases c36 : 0 ≤ x8_3
            ·rw [if_pos c36] at H
             have c36b0 : decide (0 ≤ x8_3) = true := decide_eq_true c36
             clear c36
             replace H := Option.bind_eq_some_iff.mp H
             obtain ⟨t426, A370, H⟩ := H
             replace H : (if x6_3.length + t426.length < 140737488355328 then (footlockerref24_Write.l1 k3 l1 (x6_3 ++ t426) x7_2 (wrap64 (x8_3 + 1)) a0_0 a0_1 a0_2 a0_3 a0_4 l0_5) else (none)) = some (r1, r2) := H
             have A37 := kzA A370
             clear A370
             by_cases c38 : x6_3.length + t426.length < 140737488355328
             ·rw [if_pos c38] at H
              have LMc38 := kzA c38
              clear c38
              obtain ⟨y429, hy429⟩ : ∃ y_ : List Int, y_ = (x6_3 ++ t426) := ⟨_, rfl⟩
              replace H : (footlockerref24_Write.l1 k3 l1 y429 x7_2 (wrap64 (x8_3 + 1)) a0_0 a0_1 a0_2 a0_3 a0_4 l0_5) = some (r1, r2) := by first | (rw [hy429]; with_reducible exact H) | (have H2_ := (Option.bind_some _ _).symm.trans H; rw [hy429]; with_reducible exact H2_) | (have H2_ := (Option.bind_some _ _).symm.trans H; with_reducible exact H2_) | with_reducible exact H | (rw [hy429]; exact H) | exact H
              have Ny429 := kzA hy429
              clear hy429
              have H' := kzA H
              clear H
              have hcz39_0 : wr.cell? ⟨gb393, 0, none⟩ = some (.int .i64 a0_0) := (kAD BK393.out 0).trans rfl
              have hcz39_1 : wr.cell? ⟨gb393, 1, none⟩ = some (.int .i64 a0_1) := (kAD BK393.out 1).trans rfl
              have hcz39_2 : wr.cell? ⟨gb393, 2, none⟩ = some (.int .i64 a0_2) := (kAD BK393.out 2).trans rfl
              have hcz39_3 : wr.cell? ⟨gb393, 3, none⟩ = some (.int .i64 a0_3) := (kAD BK393.out 3).trans rfl
              have hcz39_4 : wr.cell? ⟨gb393, 4, none⟩ = some (.int .i64 a0_4) := (kAD BK393.out 4).trans rfl
              have hcz39_5 : wr.cell? ⟨gb393, 5, none⟩ = some (.slice A0_5 l0_5.length c0_5) := (kAD BK393.out 5).trans rfl
              have hfz39_0 := kAE BK393.out 0
              have hfz39_1 := kAE BK393.out 1
              have hfz39_2 := kAE BK393.out 2
              have hfz39_3 := kAE BK393.out 3
              have hfz39_4 := kAE BK393.out 4
              have hfz39_5 := kAE BK393.out 5
              have p423 : 0 ≤ (x7_2 : Int) := of_decide_eq_true (by first | (with_reducible assumption) | assumption)
              have q423 : x7_2 < (l0_5.length : Int) := of_decide_eq_true (by first | (with_reducible assumption) | assumption)
              obtain ⟨ad423, A423_0, c423_0, e423, hx423_0, hl423_0, hi423_0⟩ := at_L3 HR0_5.out x7_2 p423 q423
              cases e423
              replace hx423_0 := (HB.out.cell (World.block_lt_of_cell? w _ hx423_0)).trans hx423_0
              have HR423_0 := kzA hi423_0
              have HC423_0 := kzA hl423_0
              clear hi423_0 hl423_0
              replace p423 := eq_true p423
              replace q423 := eq_true q423
              have p424 : 0 ≤ (x7_2 : Int) := of_decide_eq_true (by first | (with_reducible assumption) | assumption)
              have q424 : x7_2 < (l0_5.length : Int) := of_decide_eq_true (by first | (with_reducible assumption) | assumption)
              obtain ⟨ad424, A424_0, c424_0, e424, hx424_0, hl424_0, hi424_0⟩ := at_L3 HR0_5.out x7_2 p424 q424
              obtain rfl : ad423 = ad424 := (by injection e424)
              replace hx424_0 := (HB.out.cell (World.block_lt_of_cell? w _ hx424_0)).trans hx424_0
              have HR424_0 := kzA hi424_0
              have HC424_0 := kzA hl424_0
              clear hi424_0 hl424_0
              replace p424 := eq_true p424
              replace q424 := eq_true q424
              have ea_ := Option.some.inj (hx423_0.symm.trans hx424_0)
              injection ea_ with ea_ en_ ec_
              subst ea_
              subst ec_
              clear en_
              have p425 : 0 ≤ (x8_3 : Int) := of_decide_eq_true (by first | (with_reducible assumption) | assumption)
              have q425 : x8_3 < ((rd_L3 l0_5 x7_2).length : Int) := of_decide_eq_true (by first | (with_reducible assumption) | assumption)
              obtain ⟨ad425, e425, hx425_0⟩ := Kd.at_int HR424_0.out x8_3 p425 q425
              cases e425
              replace hx425_0 := (HB.out.cell (World.block_lt_of_cell? w _ hx425_0)).trans hx425_0
              replace p425 := eq_true p425
              replace q425 := eq_true q425
              go_wp2_with (first | ((with_reducible refine kAQ (f := 33) rfl ?_); refine kBI (some 73) rfl rfl Tryd.func33 (by kernel_rfl) rfl #[.int .u64 (IntKind.u64.wrap (rd (rd_L3 l0_5 x7_2) x8_3)), .int .i64 4] rfl (by (try simp only [List.map_toArray, List.map_cons, List.map_nil]); first | done | rfl | (simp only [List.length_drop, List.length_take]; rfl)) ?_; (with_reducible refine (footlockerref07_Put.calls k3 (IntKind.u64.wrap (rd (rd_L3 l0_5 x7_2) x8_3)) 4 t426 _ A37.out).mono ?_); rintro e w40 ⟨v427, rfl, ho0, hb⟩; refine ⟨_, rfl, ?_⟩; have n0_ := kzA (Kd.V_elder' (by (with_reducible repeat (first | apply Kd.kAT | apply Kd.kAS | apply Kd.kAZ)); exact HO_1.out) (Kd.kBK ho0) hb); have n1_ := kzA (Kd.R_elder' (by (with_reducible repeat (first | apply Kd.kAP | apply Kd.kAO | apply Kd.kAR)); exact HO_6.out) (Kd.kBK ho0) hb); have n2_ := kzA (Kd.kBO (Kd.R_new' (Kd.R_newM (M := fun k_ => (w.heap.size ≤ k_)) ho0 (kAJ (by repeat (first | (with_reducible first | exact HB.out | apply kAB | apply kAA | apply kAC | refine kAF ?_ GE393.out) | exact HB.out))) (fun k_ h_ => h_)) (Kd.R_lt (by (with_reducible repeat (first | apply Kd.kAP | apply Kd.kAO | apply Kd.kAR)); exact HO_6.out))) (kAJ (by repeat (first | (with_reducible first | exact HB.out | apply kAB | apply kAA | apply kAC | refine kAF ?_ GE393.out) | exact HB.out)))); have n3_ := kzA (kAL (g := gb393) (o := .cells #[.int .i64 a0_0, .int .i64 a0_1, .int .i64 a0_2, .int .i64 a0_3, .int .i64 a0_4, .slice (some ad423) l0_5.length c0_5] 38 (0, 0)) (by (with_reducible repeat (first | refine kAH ?_ _ | refine kAI ?_ | refine kAG ?_ _)); exact BK393.out) hb); have n4_ := kzA (kAK (by repeat (first | (with_reducible first | exact HB.out | apply kAB | apply kAA | apply kAC | refine kAF ?_ GE393.out) | exact HB.out)) hb); clear HO_1; clear HO_6; clear BK393; clear HB; have HO_1 := n0_; have HO_6 := n1_; have HO428 := n2_; have BK393 := n3_; have HB := n4_; clear n0_ n1_ n2_ n3_ n4_; (try clear hb); (try clear hb2); (try clear hk); (try clear hi); (try clear ho0); obtain ⟨Ao42, co42, eo42⟩ := Kd.kCK HO428.out; subst eo42) | ((with_reducible refine kCA (b := .append) (xs := #[.tmp 63, .tmp 73]) rfl ?_); (try (refine kCI (by rfl) ?_; dsimp only)); at_builtin; refine Kd.R_append_rows (Kd.int .u8) (w0 := w) w.heap.size rfl (.tmp 63) (.tmp 73) 27 5 (.int .u8 0) 1 rfl Tryd.underlying27 info5 rfl (by decide) (by omega) u6 x6_3 t426 _ _ _ (fun k_ => (w.heap.size ≤ k_) ∧ some k_ ≠ (.slice Ao42 t426.length co42 : Value).ownBlock) (fun _ => False) rfl rfl ?aO ?aR (fun _ _ h => h) (fun _ h => h.elim) ?aF ?aB ?aS ?aL ?_; (case aR => repeat (first | exact (Kd.R_reads' HO428.out).2.2 | (with_reducible refine Kd.kBH ?_ _) | (with_reducible refine Kd.kBF ?_ _) | (with_reducible refine Kd.kBM ?_))); (case aB => exact (by repeat (first | (with_reducible first | exact HB.out | apply kAB | apply kAA | apply kAC | refine kAF ?_ GE393.out) | exact HB.out))); (case aF => exact (fun k_ hk => ⟨(Nat.le_trans (kAJ (by repeat (first | (with_reducible first | exact HB.out | apply kAB | apply kAA | apply kAC | refine kAF ?_ GE393.out) | exact HB.out))) hk), Kd.fresh' (Kd.R_lt (by (with_reducible repeat (first | apply Kd.kAP | apply Kd.kAO | apply Kd.kAR)); exact HO428.out)) k_ hk⟩)); (case aO => exact (by (with_reducible repeat (first | apply Kd.kAP | apply Kd.kAO | apply Kd.kAR)); exact HO_6.out)); (case aS => exact (kAJ (by repeat (first | (with_reducible first | exact HB.out | apply kAB | apply kAA | apply kAC | refine kAF ?_ GE393.out) | exact HB.out)))); (case aL => have := LMc38.out; omega); intro v430 w41 ho hb hg hat; rw [← Ny429.out] at ho; have n0_ := kzA (Kd.V_afterv (ok := (fun k_ => (P1_ k_ ∨ w.heap.size ≤ k_) ∧ some k_ ≠ (.slice Ao42 t426.length co42 : Value).ownBlock ∧ k_ ≠ gb393)) (by (with_reducible repeat (first | apply Kd.kAT | apply Kd.kAS | apply Kd.kAZ)); exact Kd.kBV HO_1.out (fun _ hk => ⟨⟨hk.1.1, ⟨hk.2, hk.1.2.2⟩⟩, hk.1.2.1⟩)) hg hat); have n1_ := kzA (blk_grown (g := gb393) (o := .cells #[.int .i64 a0_0, .int .i64 a0_1, .int .i64 a0_2, .int .i64 a0_3, .int .i64 a0_4, .slice (some ad423) l0_5.length c0_5] 38 (0, 0)) (by (with_reducible repeat (first | refine kAH ?_ _ | refine kAI ?_ | refine kAG ?_ _)); exact BK393.out) hg (Kd.R_ne HO_6.out BK393.out (by decide))); have n2_ := kzA (Kd.R_after (ok := (fun k_ => (w.heap.size ≤ k_))) (by (with_reducible repeat (first | apply Kd.kAP | apply Kd.kAO | apply Kd.kAR)); exact Kd.kBL HO428.out (fun _ hk => ⟨hk.1.1, hk.2⟩)) hg hat); have n3_ := kzA (hb); have n4_ := kzA (ho); clear HO_1; clear BK393; clear HO428; clear HB; clear HO_6; have HO_1 := n0_; have BK393 := n1_; have HO428 := n2_; have HB := n3_; have HO431 := n4_; clear n0_ n1_ n2_ n3_ n4_; clear ho hb hg hat))
              go_roundg k3
              case measure => have := HJ2.out; have := HK2.out; have := HK3.out; omega
              case rel => exact ⟨(y429), (wrap64 (x8_3 + 1)), (by first | rfl | (simp; done) | (simp [*]; done)), H', ⟨by have := HJ2.out; have := HK2.out; have := HK3.out; omega⟩, ⟨by (with_reducible repeat (first | apply Kd.kAT | apply Kd.kAS | apply Kd.kAZ)); exact Kd.kBV HO_1.out (fun _ hk => ⟨hk.1.1, ⟨hk.2, hk.1.2.2⟩⟩)⟩, ⟨by (with_reducible repeat (first | apply Kd.kAP | apply Kd.kAO | apply Kd.kAR)); exact Kd.kBL HO431.out (fun _ hk => hk.1)⟩, ⟨by (with_reducible repeat (first | refine kAH ?_ _ | refine kAI ?_ | refine kAG ?_ _)); exact BK393.out⟩, ⟨by repeat (first | (with_reducible first | exact HB.out | apply kAB | apply kAA | apply kAC | refine kAF ?_ GE393.out) | exact HB.out)⟩⟩
             ·rw [if_neg c38] at H
              exact absurd H (by simp)
            ·rw [if_neg c36] at H
             exact absurd H (by simp)
           ·rw [if_neg c35] at H
            have c35b0 : decide (x8_3 < ((rd_L3 l0_5 x7_2).length : Int)) = false := decide_eq_false c35
            clear c35
            have H' := kzA H
            clear H
            have hcz43_0 : wr.cell? ⟨gb393, 0, none⟩ = some (.int .i64 a0_0) := (kAD BK393.out 0).trans rfl
            have hcz43_1 : wr.cell? ⟨gb393, 1, none⟩ = some (.int .i64 a0_1) := (kAD BK393.out 1).trans rfl
            have hcz43_2 : wr.cell? ⟨gb393, 2, none⟩ = some (.int .i64 a0_2) := (kAD BK393.out 2).trans rfl
            have hcz43_3 : wr.cell? ⟨gb393, 3, none⟩ = some (.int .i64 a0_3) := (kAD BK393.out 3).trans rfl
            have hcz43_4 : wr.cell? ⟨gb393, 4, none⟩ = some (.int .i64 a0_4) := (kAD BK393.out 4).trans rfl
            have hcz43_5 : wr.cell? ⟨gb393, 5, none⟩ = some (.slice A0_5 l0_5.length c0_5) := (kAD BK393.out 5).trans rfl
            have hfz43_0 := kAE BK393.out 0
            have hfz43_1 := kAE BK393.out 1
            have hfz43_2 := kAE BK393.out 2
            have hfz43_3 := kAE BK393.out 3
            have hfz43_4 := kAE BK393.out 4
            have hfz43_5 := kAE BK393.out 5
            have p423 : 0 ≤ (x7_2 : Int) := of_decide_eq_true (by first | (with_reducible assumption) | assumption)
            have q423 : x7_2 < (l0_5.length : Int) := of_decide_eq_true (by first | (with_reducible assumption) | assumption)
            obtain ⟨ad423, A423_0, c423_0, e423, hx423_0, hl423_0, hi423_0⟩ := at_L3 HR0_5.out x7_2 p423 q423
            cases e423
            replace hx423_0 := (HB.out.cell (World.block_lt_of_cell? w _ hx423_0)).trans hx423_0
            have HR423_0 := kzA hi423_0
            have HC423_0 := kzA hl423_0
            clear hi423_0 hl423_0
            replace p423 := eq_true p423
            replace q423 := eq_true q423
            go_wp2
            go_roundg k3
            case measure => have := HJ2.out; have := HK2.out; have := HK3.out; omega
            case rel => exact ⟨(x6_3), (wrap64 (x7_2 + 1)), (by first | rfl | (simp; done) | (simp [*]; done)), H', ⟨by have := HJ2.out; have := HK2.out; have := HK3.out; omega⟩, ⟨by (with_reducible repeat (first | apply Kd.kAT | apply Kd.kAS | apply Kd.kAZ)); exact HO_1.out⟩, ⟨by (with_reducible repeat (first | apply Kd.kAP | apply Kd.kAO | apply Kd.kAR)); exact HO_6.out⟩, ⟨by (with_reducible repeat (first | refine kAH ?_ _ | refine kAI ?_ | refine kAG ?_ _)); exact BK393.out⟩, ⟨by repeat (first | (with_reducible first | exact HB.out | apply kAB | apply kAA | apply kAC | refine kAF ?_ GE393.out) | exact HB.out)⟩⟩
          ·rw [if_neg c34] at H
           exact absurd H (by simp)
         ·rw [if_neg c33] at H
          exact absurd H (by simp)
      ·rw [if_neg c31] at H
       have c31b0 : decide (x7_2 < (l0_5.length : Int)) = false := decide_eq_false c31
       clear c31
       replace H := Option.bind_eq_some_iff.mp H
       obtain ⟨t413, A440, H⟩ := H
       replace H : ((footlockerref07_Put.f k2 (IntKind.u64.wrap (t413)) 4).bind fun t414 => ((footlockerref01_Join.f k2 (([x6_2, t414, l1] : List (List Int)))).bind fun t420 => (some (t420, 0)))) = some (r1, r2) := H
       have A44 := kzA A440
       clear A440
       replace H := Option.bind_eq_some_iff.mp H
       obtain ⟨t414, A450, H⟩ := H
       replace H : ((footlockerref01_Join.f k2 (([x6_2, t414, l1] : List (List Int)))).bind fun t420 => (some (t420, 0))) = some (r1, r2) := H
       have A45 := kzA A450
       clear A450
       obtain ⟨y417, hy417⟩ : ∃ y_ : List (List Int), y_ = (([x6_2, t414, l1] : List (List Int))) := ⟨_, rfl⟩
       replace H : ((footlockerref01_Join.f k2 y417).bind fun t420 => (some (t420, 0))) = some (r1, r2) := by first | (rw [hy417]; with_reducible exact H) | (have H2_ := (Option.bind_some _ _).symm.trans H; rw [hy417]; with_reducible exact H2_) | (have H2_ := (Option.bind_some _ _).symm.trans H; with_reducible exact H2_) | with_reducible exact H | (rw [hy417]; exact H) | exact H
       have Ny417 := kzA hy417
       clear hy417
       replace H := Option.bind_eq_some_iff.mp H
       obtain ⟨t420, A460, H⟩ := H
       replace H : (some (t420, 0)) = some (r1, r2) := H
       have A46 := kzA A460
       clear A460
       simp only [Option.some.injEq, Prod.mk.injEq] at H
       obtain ⟨rfl, rfl⟩ := H
       have hcz47_0 : wr.cell? ⟨gb393, 0, none⟩ = some (.int .i64 a0_0) := (kAD BK393.out 0).trans rfl
       have hcz47_1 : wr.cell? ⟨gb393, 1, none⟩ = some (.int .i64 a0_1) := (kAD BK393.out 1).trans rfl
       have hcz47_2 : wr.cell? ⟨gb393, 2, none⟩ = some (.int .i64 a0_2) := (kAD BK393.out 2).trans rfl
       have hcz47_3 : wr.cell? ⟨gb393, 3, none⟩ = some (.int .i64 a0_3) := (kAD BK393.out 3).trans rfl
       have hcz47_4 : wr.cell? ⟨gb393, 4, none⟩ = some (.int .i64 a0_4) := (kAD BK393.out 4).trans rfl
       have hcz47_5 : wr.cell? ⟨gb393, 5, none⟩ = some (.slice A0_5 l0_5.length c0_5) := (kAD BK393.out 5).trans rfl
       have hfz47_0 := kAE BK393.out 0
       have hfz47_1 := kAE BK393.out 1
       have hfz47_2 := kAE BK393.out 2
       have hfz47_3 := kAE BK393.out 3
       have hfz47_4 := kAE BK393.out 4
       have hfz47_5 := kAE BK393.out 5
       obtain ⟨Ao48, co48, eo48⟩ := Kd.kCK HO_6.out
       subst eo48
       go_wp2_with (first | ((with_reducible refine kAQ (f := 34) rfl ?_); refine kBI (some 77) rfl rfl Tryd.func34 (by kernel_rfl) rfl #[.slice Ao48 x6_2.length co48] rfl (by (try simp only [List.map_toArray, List.map_cons, List.map_nil]); first | done | rfl | (simp only [List.length_drop, List.length_take]; rfl)) ?_; (with_reducible refine (footlockerref06_Sum.calls k2 _ _ x6_2 t413 _ ?side1 ?side2 A44.out).mono ?_); (case side1 => repeat (first | exact (Kd.R_reads' HO_6.out).2.2 | (with_reducible refine Kd.kBH ?_ _) | (with_reducible refine Kd.kBF ?_ _) | (with_reducible refine Kd.kBM ?_))); (case side2 => exact (Kd.R_reads' HO_6.out).2.1); rintro e w' ⟨rfl, ⟨nd, rfl⟩⟩; refine ⟨_, rfl, ?_⟩) | ((with_reducible refine kAQ (f := 33) rfl ?_); refine kBI (some 79) rfl rfl Tryd.func33 (by kernel_rfl) rfl #[.int .u64 (IntKind.u64.wrap (t413)), .int .i64 4] rfl (by (try simp only [List.map_toArray, List.map_cons, List.map_nil]); first | done | rfl | (simp only [List.length_drop, List.length_take]; rfl)) ?_; (with_reducible refine (footlockerref07_Put.calls k2 (IntKind.u64.wrap (t413)) 4 t414 _ A45.out).mono ?_); rintro e w49 ⟨v415, rfl, ho0, hb⟩; refine ⟨_, rfl, ?_⟩; have n0_ := kzA (Kd.V_elder' (by (with_reducible repeat (first | apply Kd.kAT | apply Kd.kAS | apply Kd.kAZ)); exact HO_1.out) (Kd.kBK ho0) hb); have n1_ := kzA (Kd.R_elder' (by (with_reducible repeat (first | apply Kd.kAP | apply Kd.kAO | apply Kd.kAR)); exact HO_6.out) (Kd.kBK ho0) hb); have n2_ := kzA (Kd.kBO (Kd.R_new' (Kd.R_newM (M := fun k_ => (w.heap.size ≤ k_)) ho0 (kAJ (by repeat (first | (with_reducible first | exact HB.out | apply kAB | apply kAA | apply kAC | refine kAF ?_ GE393.out) | exact HB.out))) (fun k_ h_ => h_)) (Kd.R_lt (by (with_reducible repeat (first | apply Kd.kAP | apply Kd.kAO | apply Kd.kAR)); exact HO_6.out))) (kAJ (by repeat (first | (with_reducible first | exact HB.out | apply kAB | apply kAA | apply kAC | refine kAF ?_ GE393.out) | exact HB.out)))); have n3_ := kzA (kAL (g := gb393) (o := .cells #[.int .i64 a0_0, .int .i64 a0_1, .int .i64 a0_2, .int .i64 a0_3, .int .i64 a0_4, .slice A0_5 l0_5.length c0_5] 38 (0, 0)) (by (with_reducible repeat (first | refine kAH ?_ _ | refine kAI ?_ | refine kAG ?_ _)); exact BK393.out) hb); have n4_ := kzA (kAK (by repeat (first | (with_reducible first | exact HB.out | apply kAB | apply kAA | apply kAC | refine kAF ?_ GE393.out) | exact HB.out)) hb); clear HO_1; clear HO_6; clear BK393; clear HB; have HO_1 := n0_; have HO_6 := n1_; have HO416 := n2_; have BK393 := n3_; have HB := n4_; clear n0_ n1_ n2_ n3_ n4_; (try clear hb); (try clear hb2); (try clear hk); (try clear hi); (try clear ho0); obtain ⟨Ao50, co50, eo50⟩ := Kd.kCK HO416.out; subst eo50) | ((with_reducible refine kBA (N := 81) rfl ?_); (try (refine kCI (by rfl) ?_; dsimp only)); refine Kd.N_lit (Kd.slice 5 (Kd.int .u8)) _ 27 ?hg (N' := 81) ?hd (xs := ([x6_2, t414, l1] : List (List Int))) (inner := [.slice Ao48 x6_2.length co48, .slice Ao50 t414.length co50, .slice A1 l1.length c1]) (ok := (fun k_ => (P1_ k_ ∨ w.heap.size ≤ k_) ∧ k_ ≠ gb393)) (okp := (fun k_ => (P1_ k_ ∨ w.heap.size ≤ k_) ∧ k_ ≠ gb393)) ?hr ?hp (fun _ hk => hk) ((show ∀ k_, w49.heap.size ≤ k_ → (fun k_ => (P1_ k_ ∨ w.heap.size ≤ k_) ∧ k_ ≠ gb393) k_ from fun k_ hk => ⟨(.inr (Nat.le_trans (kAJ (by repeat (first | (with_reducible first | exact HB.out | apply kAB | apply kAA | apply kAC | refine kAF ?_ GE393.out) | exact HB.out))) hk)), Kd.freshB (g := gb393) (o := .cells #[.int .i64 a0_0, .int .i64 a0_1, .int .i64 a0_2, .int .i64 a0_3, .int .i64 a0_4, .slice A0_5 l0_5.length c0_5] 38 (0, 0)) (by (with_reducible repeat (first | refine kAH ?_ _ | refine kAI ?_ | refine kAG ?_ _)); exact BK393.out) k_ hk⟩) _ (Nat.le_refl _)) (Below.refl _ _) (Nat.le_refl _) (by simp) ?_; (case hd => rfl); (case hg => rfl); (case hr => first | (go_simp; done) | (go_simp; rfl)); (case hp => exact (Reps.one (show Kd.FK (Kd.slice 5 (Kd.int .u8)) _ _ x6_2 [.slice Ao48 x6_2.length co48] from (Kd.kCJ (Kd.R_reads' (Kd.kBL (ok' := (fun k_ => (P1_ k_ ∨ w.heap.size ≤ k_) ∧ k_ ≠ gb393)) (Kd.kBZ (HO_6.out) BK393.out (by decide)) (fun k_ hk => ⟨(.inr (hk.1.1)), hk.2⟩))).2.1 (Kd.R_F (Kd.kBL (ok' := (fun k_ => (P1_ k_ ∨ w.heap.size ≤ k_) ∧ k_ ≠ gb393)) (Kd.kBZ (HO_6.out) BK393.out (by decide)) (fun k_ hk => ⟨(.inr (hk.1.1)), hk.2⟩))))) (Reps.one (show Kd.FK (Kd.slice 5 (Kd.int .u8)) _ _ t414 [.slice Ao50 t414.length co50] from (Kd.kCJ (Kd.R_reads' (Kd.kBL (ok' := (fun k_ => (P1_ k_ ∨ w.heap.size ≤ k_) ∧ k_ ≠ gb393)) (Kd.kBZ (HO416.out) BK393.out (by decide)) (fun k_ hk => ⟨(.inr (hk.1.1.1)), hk.2⟩))).2.1 (Kd.R_F (Kd.kBL (ok' := (fun k_ => (P1_ k_ ∨ w.heap.size ≤ k_) ∧ k_ ≠ gb393)) (Kd.kBZ (HO416.out) BK393.out (by decide)) (fun k_ hk => ⟨(.inr (hk.1.1.1)), hk.2⟩))))) (Reps.one (show Kd.FK (Kd.slice 5 (Kd.int .u8)) _ _ l1 [.slice A1 l1.length c1] from (Kd.kCJ (Kd.V_reads' (Kd.kBV (ok' := (fun k_ => (P1_ k_ ∨ w.heap.size ≤ k_) ∧ k_ ≠ gb393)) (HO_1.out) (fun k_ hk => ⟨hk.1.1, hk.1.2.2⟩))).2.1 (Kd.V_F (Kd.kBV (ok' := (fun k_ => (P1_ k_ ∨ w.heap.size ≤ k_) ∧ k_ ≠ gb393)) (HO_1.out) (fun k_ hk => ⟨hk.1.1, hk.1.2.2⟩))))) (Reps.none _ _))))); intro v418 w51 ho52 hb hg_ hnew_; clear hg_ hnew_; (first | rw [← Ny417.out] at ho52 | (simp only [Int.reduceToNat] at ho52; rw [← Ny417.out] at ho52)); have n0_ := kzA (Kd.V_elder' (by (with_reducible repeat (first | apply Kd.kAT | apply Kd.kAS | apply Kd.kAZ)); exact HO_1.out) (Kd.N_base ho52) hb); have n1_ := kzA (Kd.N_lower ho52 (kAJ (by repeat (first | (with_reducible first | exact HB.out | apply kAB | apply kAA | apply kAC | refine kAF ?_ GE393.out) | exact HB.out)))); have n2_ := kzA (kAL (g := gb393) (o := .cells #[.int .i64 a0_0, .int .i64 a0_1, .int .i64 a0_2, .int .i64 a0_3, .int .i64 a0_4, .slice A0_5 l0_5.length c0_5] 38 (0, 0)) (by (with_reducible repeat (first | refine kAH ?_ _ | refine kAI ?_ | refine kAG ?_ _)); exact BK393.out) hb); have n3_ := kzA (kAK (by repeat (first | (with_reducible first | exact HB.out | apply kAB | apply kAA | apply kAC | refine kAF ?_ GE393.out) | exact HB.out)) hb); clear HO_1; clear BK393; clear HB; clear HO416; clear HO_6; have HO_1 := n0_; have HO419 := n1_; have BK393 := n2_; have HB := n3_; clear n0_ n1_ n2_ n3_; clear hb ho52; obtain ⟨Ao53, co53, eo53⟩ := Kd.N_slice HO419.out; subst eo53) | ((with_reducible refine kAQ (f := 31) rfl ?_); refine kBI (some 82) rfl rfl Tryd.func31 (by kernel_rfl) rfl #[.slice Ao53 y417.length co53] rfl (by (try simp only [List.map_toArray, List.map_cons, List.map_nil]); first | done | rfl | (simp only [List.length_drop, List.length_take]; rfl)) ?_; (with_reducible refine (footlockerref01_Join.calls k2 _ _ y417 t420 _ ?side1 ?side2 A46.out).mono ?_); (case side1 => repeat (first | exact (Kd.N_reads' HO419.out).2.2 | (with_reducible refine Kd.kBH ?_ _) | (with_reducible refine Kd.kBF ?_ _) | (with_reducible refine Kd.kBM ?_))); (case side2 => exact (Kd.N_reads' HO419.out).2.1); rintro e w54 ⟨v421, rfl, ho0, hb⟩; refine ⟨_, rfl, ?_⟩; have n0_ := kzA (Kd.V_elder' (by (with_reducible repeat (first | apply Kd.kAT | apply Kd.kAS | apply Kd.kAZ)); exact HO_1.out) (Kd.kBK ho0) hb); have n1_ := kzA (Kd.N_elder' (by (with_reducible repeat (first | apply Kd.kAW | apply Kd.kAV | apply Kd.kBC)); exact HO419.out) (Kd.kBK ho0) hb); have n2_ := kzA (Kd.kBO (Kd.R_newM (M := fun k_ => (w.heap.size ≤ k_)) ho0 (kAJ (by repeat (first | (with_reducible first | exact HB.out | apply kAB | apply kAA | apply kAC | refine kAF ?_ GE393.out) | exact HB.out))) (fun k_ h_ => h_)) (kAJ (by repeat (first | (with_reducible first | exact HB.out | apply kAB | apply kAA | apply kAC | refine kAF ?_ GE393.out) | exact HB.out)))); have n3_ := kzA (kAL (g := gb393) (o := .cells #[.int .i64 a0_0, .int .i64 a0_1, .int .i64 a0_2, .int .i64 a0_3, .int .i64 a0_4, .slice A0_5 l0_5.length c0_5] 38 (0, 0)) (by (with_reducible repeat (first | refine kAH ?_ _ | refine kAI ?_ | refine kAG ?_ _)); exact BK393.out) hb); have n4_ := kzA (kAK (by repeat (first | (with_reducible first | exact HB.out | apply kAB | apply kAA | apply kAC | refine kAF ?_ GE393.out) | exact HB.out)) hb); clear HO_1; clear HO419; clear BK393; clear HB; have HO_1 := n0_; have HO419 := n1_; have HO422 := n2_; have BK393 := n3_; have HB := n4_; clear n0_ n1_ n2_ n3_ n4_; (try clear hb); (try clear hb2); (try clear hk); (try clear hi); (try clear ho0)))
       go_ret2
       exact ⟨_, by first | rfl | (simp [kAN, kAM] <;> rfl) | (simp [*, kAN, kAM] <;> rfl), by (with_reducible repeat (first | apply Kd.kAP | apply Kd.kAO | apply Kd.kAR)); exact Kd.kBL HO422.out (fun _ hk => hk.1), by repeat (first | (with_reducible first | exact HB.out | apply kAB | apply kAA | apply kAC | refine kAF ?_ GE393.out) | exact HB.out)⟩
def footlockerref24_Head.f (k : Nat) (a0_0 : Int) (a0_1 : Int) (a0_2 : Int) (a0_3 : Int) : Option (Int) := (footlockerref23_Blocks.f k a0_0 a0_1 a0_2 a0_3).bind fun t433 => (some (wrap64 (24 + (wrap64 ((wrap64 (4 * (wrap64 (a0_0 + a0_1)))) * t433)))))
def footlockerref24_Head.T1 : Bool × List (List Nat × List Nat) := (true, [([], []), ([0], [0]), ([], []), ([2], [2]), ([1, 3], [1, 3]), ([4], [4]), ([], []), ([6], [6]), ([5, 7], [5, 7]), ([8], [8]), ([9, 7, 0, 1, 2, 3, 4, 5, 6, 7, 8, 9], [9])])
def footlockerref24_Head.B1 : List Nat := [0, 1, 0, 4, 15, 31, 0, 64, 255, 511, 1023]
theorem footlockerref24_Head.tab1 : rtab .any (opsOf Tryd.f16 1) = footlockerref24_Head.T1 := by kernel_rfl
theorem footlockerref24_Head.bits1 : waitsOk footlockerref24_Head.T1.2 footlockerref24_Head.B1 = true := by kernel_rfl
set_option maxHeartbeats 8000000 in
set_option maxRecDepth 100000 in
theorem footlockerref24_Head.calls (k : Nat) (a0_0 : Int) (a0_1 : Int) (a0_2 : Int) (a0_3 : Int) (r : Int) (w : World) (h : footlockerref24_Head.f k a0_0 a0_1 a0_2 a0_3 = some r) :
  Calls Tryd.prog 16 #[.agg #[.int .i64 a0_0, .int .i64 a0_1, .int .i64 a0_2, .int .i64 a0_3]] w fun e w' => e = .returned (.int .i64 r) ∧ Below w.heap.size w w' := by
 have hu36 := Tryd.underlying36
 have HB := kzA (Below.refl w.heap.size w)
 have H : ((footlockerref23_Blocks.f k a0_0 a0_1 a0_2 a0_3).bind fun t433 => (some (wrap64 (24 + (wrap64 ((wrap64 (4 * (wrap64 (a0_0 + a0_1)))) * t433)))))) = some r := h
 clear h
 replace H := Option.bind_eq_some_iff.mp H
 obtain ⟨t433, A20, H⟩ := H
 replace H : (some (wrap64 (24 + (wrap64 ((wrap64 (4 * (wrap64 (a0_0 + a0_1)))) * t433))))) = some r := H
 have A2 := kzA A20
 clear A20
 obtain rfl := Option.some.inj H
 go_enter Tryd.func16, Tryd.ntmps16
 try go_wp2_with (first | ((with_reducible refine kBA (N := 1) rfl ?_); refine kBD ?hg (N := 1) ?hd (cs := #[.int .i64 a0_0, .int .i64 a0_1, .int .i64 a0_2, .int .i64 a0_3]) (t := 36) ?hr ?_; (case hd => rfl); (case hg => rfl); (case hr => first | (go_simp; done) | (go_simp; rfl)); intro gb432 hg w3 hbox hb; have n0_ := kzA (kAK (by repeat (first | (with_reducible first | exact HB.out | apply kAB | apply kAA | apply kAC) | exact HB.out)) hb); have n1_ := kzA (hbox); have n2_ := kzA ((by rw [hg]; exact (kAJ (by repeat (first | (with_reducible first | exact HB.out | apply kAB | apply kAA | apply kAC) | exact HB.out))) : w.heap.size ≤ gb432)); have n3_ := kzA ((by rw [hg]; exact (kAJ (by repeat (first | (with_reducible first | exact HB.out | apply kAB | apply kAA | apply kAC) | exact HB.out))) : w.heap.size ≤ gb432)); clear HB; have HB := n0_; have BK432 := n1_; have GW432 := n2_; have GE432 := n3_; clear n0_ n1_ n2_ n3_; clear hb hbox hg))
 have n0_ := kzA (kAI BK432.out)
 have n1_ := kzA (kAC HB.out)
 clear BK432
 clear HB
 have BK432 := n0_
 have HB := n1_
 clear n0_ n1_
 refine start_ (n := 11) (S := fun w' => w'.cell? ⟨gb432, 0, none⟩ = some (.int .i64 a0_0) ∧ w'.cell? ⟨gb432, 1, none⟩ = some (.int .i64 a0_1) ∧ w'.cell? ⟨gb432, 2, none⟩ = some (.int .i64 a0_2) ∧ w'.cell? ⟨gb432, 3, none⟩ = some (.int .i64 a0_3)) (ds := []) #[false, false, false, false, false, false, false, false, false, false, false] (by kernel_rfl) rfl rfl ⟨(kAD BK432.out 0).trans rfl, (kAD BK432.out 1).trans rfl, (kAD BK432.out 2).trans rfl, (kAD BK432.out 3).trans rfl⟩ (fun hHeld => ?_); refine with_tabW footlockerref24_Head.tab1 footlockerref24_Head.bits1 (fun HT_ HW_ => ?_)
 generalize w3.drew = w4 at BK432 HB hHeld ⊢
 refine kBN (i := 0) (N := some 3) (v := ?_) (a' := ?_) #[true, false, false, false, false, false, false, false, false, false, false] rfl rfl (kBG HT_.out (by kernel_rfl)) (fun _ _ _ h => h) (Or.inl ⟨by rfl, ?_⟩) ?_ ?_
 rotate_left
 ·intro w'
  go_simp
  with_reducible rfl
 rotate_left
 ·simp only [Act.put, kzB, kzC, kzD, kAX, kAY]
  rfl
 refine kBN (i := 2) (N := some 5) (v := ?_) (a' := ?_) #[true, false, true, false, false, false, false, false, false, false, false] rfl rfl (kBG HT_.out (by kernel_rfl)) (fun _ _ _ h => h) (Or.inl ⟨by rfl, ?_⟩) ?_ ?_
 rotate_left
 ·intro w'
  go_simp
  with_reducible rfl
 rotate_left
 ·simp only [Act.put, kzB, kzC, kzD, kAX, kAY]
  rfl
 refine take_ (i := 1) (N := some 4) (v := ?_) (a' := ?_) #[true, true, true, false, false, false, false, false, false, false, false] rfl rfl (kBX HT_.out HW_.out (by kernel_rfl)) (fun _ _ _ h => h) (Or.inl ⟨by rfl, ?_⟩) hHeld ?_ ?_
 rotate_left
 ·rintro w' ⟨s0, s1, s2, s3⟩
  go_simp
  with_reducible rfl
 rotate_left
 ·simp only [Act.put, kzB, kzC, kzD, kAX, kAY]
  rfl
 refine take_ (i := 3) (N := some 6) (v := ?_) (a' := ?_) #[true, true, true, true, false, false, false, false, false, false, false] rfl rfl (kBX HT_.out HW_.out (by kernel_rfl)) (fun _ _ _ h => h) (Or.inl ⟨by rfl, ?_⟩) hHeld ?_ ?_
 rotate_left
 ·rintro w' ⟨s0, s1, s2, s3⟩
  go_simp
  with_reducible rfl
 rotate_left
 ·simp only [Act.put, kzB, kzC, kzD, kAX, kAY]
  rfl
 refine kBN (i := 4) (N := some 7) (v := ?_) (a' := ?_) #[true, true, true, true, true, false, false, false, false, false, false] rfl rfl (kBG HT_.out (by kernel_rfl)) (fun _ _ _ h => h) (Or.inl ⟨by rfl, ?_⟩) ?_ ?_
 rotate_left
 ·intro w'
  go_simp
  with_reducible rfl
 rotate_left
 ·simp only [Act.put, kzB, kzC, kzD, kAX, kAY]
  rfl
 refine kBN (i := 5) (N := some 8) (v := ?_) (a' := ?_) #[true, true, true, true, true, true, false, false, false, false, false] rfl rfl (kBG HT_.out (by kernel_rfl)) (fun _ _ _ h => h) (Or.inl ⟨by rfl, ?_⟩) ?_ ?_
 rotate_left
 ·intro w'
  go_simp
  with_reducible rfl
 rotate_left
 ·simp only [Act.put, kzB, kzC, kzD, kAX, kAY]
  rfl
 refine take_ (i := 6) (N := some 9) (v := ?_) (a' := ?_) #[true, true, true, true, true, true, true, false, false, false, false] rfl rfl (kBX HT_.out HW_.out (by kernel_rfl)) (fun _ _ _ h => h) (Or.inl ⟨by rfl, ?_⟩) hHeld ?_ ?_
 rotate_left
 ·rintro w' ⟨s0, s1, s2, s3⟩
  go_simp
  with_reducible rfl
 rotate_left
 ·simp only [Act.put, kzB, kzC, kzD, kAX, kAY]
  rfl
 refine one_ (i := 7) (N := some 10) #[true, true, true, true, true, true, true, true, false, false, false] rfl rfl (one_of HT_.out (by kernel_rfl)) (by decide) (fun K hK => ?_)
 refine goes_ Tryd.func38 (by kernel_rfl) rfl #[.agg #[.int .i64 a0_0, .int .i64 a0_1, .int .i64 a0_2, .int .i64 a0_3]] (by rfl) rfl rfl (by (try simp only [List.map_toArray, List.map_cons, List.map_nil]); first | done | rfl | (simp only [List.length_drop, List.length_take]; rfl)) ?_
 with_reducible refine (footlockerref23_Blocks.calls k a0_0 a0_1 a0_2 a0_3 t433 _ A2.out).mono ?_
 rintro e w5 ⟨rfl, hb⟩
 refine ⟨_, rfl, ?_⟩
 have n0_ := kzA (kAL (g := gb432) (o := .cells #[.int .i64 a0_0, .int .i64 a0_1, .int .i64 a0_2, .int .i64 a0_3] 36 (0, 0)) (by (with_reducible repeat (first | refine kAH ?_ _ | refine kAI ?_ | refine kAG ?_ _)); exact BK432.out) hb)
 have n1_ := kzA (kAK (by repeat (first | (with_reducible first | exact HB.out | apply kAB | apply kAA | apply kAC | refine kAF ?_ GE432.out) | exact HB.out)) hb)
 clear BK432
 clear HB
 have BK432 := n0_
 have HB := n1_
 clear n0_ n1_
 (try clear hb)
 (try clear hb2)
 (try clear hk)
 (try clear hi)
 refine hK.out _ _ ⟨(kAD BK432.out 0).trans rfl, (kAD BK432.out 1).trans rfl, (kAD BK432.out 2).trans rfl, (kAD BK432.out 3).trans rfl⟩ (fun hHeld => ?_)
 clear hK K
 refine norm_ (a' := ?_) ?_ ?_
 rotate_left
 ·show Act.put _ (some 10) _ = _
  simp only [Act.put, kzB, kzC, kzD, kAX, kAY]
  rfl
 refine kBN (i := 8) (N := some 11) (v := ?_) (a' := ?_) #[true, true, true, true, true, true, true, true, true, false, false] rfl rfl (kBG HT_.out (by kernel_rfl)) (fun _ _ _ h => h) (Or.inl ⟨by rfl, ?_⟩) ?_ ?_
 rotate_left
 ·intro w'
  go_simp
  with_reducible rfl
 rotate_left
 ·simp only [Act.put, kzB, kzC, kzD, kAX, kAY]
  rfl
 refine kBN (i := 9) (N := some 12) (v := ?_) (a' := ?_) #[true, true, true, true, true, true, true, true, true, true, false] rfl rfl (kBG HT_.out (by kernel_rfl)) (fun _ _ _ h => h) (Or.inl ⟨by rfl, ?_⟩) ?_ ?_
 rotate_left
 ·intro w'
  go_simp
  with_reducible rfl
 rotate_left
 ·simp only [Act.put, kzB, kzC, kzD, kAX, kAY]
  rfl
 refine kBN (i := 10) (N := some 2) (v := ?_) (a' := ?_) #[true, true, true, true, true, true, true, true, true, true, true] rfl rfl (kBG HT_.out (by kernel_rfl)) (fun _ _ _ h => h) (Or.inl ⟨by rfl, ?_⟩) ?_ ?_
 rotate_left
 ·intro w'
  go_simp
  with_reducible rfl
 rotate_left
 ·simp only [Act.put, kzB, kzC, kzD, kAX, kAY]
  rfl
 refine done_ (done_of HT_.out (by kernel_rfl)) ?_
 try go_wp2
 go_ret
 exact ⟨by first | rfl | (simp [kAN, kAM] <;> rfl) | (simp [*, kAN, kAM] <;> rfl), by repeat (first | (with_reducible first | exact HB.out | apply kAB | apply kAA | apply kAC | refine kAF ?_ GE432.out) | exact HB.out)⟩
end Go.Proofs.YtoamamnbapilhaaDoor.X
