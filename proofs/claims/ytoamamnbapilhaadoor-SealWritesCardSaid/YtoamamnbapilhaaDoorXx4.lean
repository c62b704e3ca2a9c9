import Derived.Test.YtoamamnbapilhaaDoorXx0
import Derived.Test.YtoamamnbapilhaaDoorXx2
import Derived.Test.YtoamamnbapilhaaDoorXx3
namespace Go.Proofs.YtoamamnbapilhaaDoor.X
open Go.RowKit Go.Proofs.YtoamamnbapilhaaDoorW.PrintWords Go.Proofs.YtoamamnbapilhaaDoorW.PrintLast Go.Proofs.YtoamamnbapilhaaDoorW.PrintMore
attribute [local go_sem] max2_int min2_int max_two min_two max_three min_three max_four min_four
set_option linter.unusedVariables false
set_option linter.unusedSimpArgs false
mutual
def seal_Write.j0 : Nat → List Int → Bool → Int → Int → Int → Int → Int → List (List Int) → Option (List Int × Int)
 | 0, _, _, _, _, _, _, _, _ => none
 | k + 1, x1, x19, x136000, x136001, x136002, x136003, x136004, x136005 => if x19 = true then (some (([] : List Int), 1)) else ((seal_lay_int.f k (([1, x136000, x136001, x136004] : List Int)) 2).bind fun t144 => ((seal_lay_int.f k (([x136002, x136003] : List Int)) 4).bind fun t150 => ((slices_Concat_byte_byte.f k (([(([70, 76, 82, 86] : List Int)), t144, t150] : List (List Int)))).bind fun t156 => (seal_Write.l0 k x1 t156 x136005 (x136005.length : Int) 0))))
def seal_Write.l0 : Nat → List Int → List Int → List (List Int) → Int → Int → Option (List Int × Int)
 | 0, _, _, _, _, _ => none
 | k + 1, x1, x6, x44, x45, x46 => if x46 < x45 then (if 0 ≤ x46 then (if x46 < (x44.length : Int) then ((seal_lay_uint32.f k (rd_L3 x44 x46) 4).bind fun t160 => (if x6.length + t160.length < 140737488355328 then (seal_Write.l0 k x1 (x6 ++ t160) x44 x45 (wrap64 (x46 + 1))) else (none))) else (none)) else (none)) else ((crc_Sum.f x6).bind fun t166 => ((little_Put.f k (IntKind.u64.wrap (t166)) 4).bind fun t167 => ((slices_Concat_byte_byte.f k (([x6, t167, x1] : List (List Int)))).bind fun t173 => (some (t173, 0)))))
end
def seal_Write.f (k : Nat) (a0_0 : Int) (a0_1 : Int) (a0_2 : Int) (a0_3 : Int) (a0_4 : Int) (l0_5 : List (List Int)) (l1 : List Int) : Option (List Int × Int) := (seal_right.f a0_0 a0_1 a0_2 a0_3 a0_4 l0_5).bind fun t136 => (if t136 = true then ((stripe_Long.f a0_0 a0_1 a0_2 a0_3).bind fun t137 => (seal_Write.j0 k l1 ((l1.length : Int) != t137) a0_0 a0_1 a0_2 a0_3 a0_4 l0_5)) else (seal_Write.j0 k l1 true a0_0 a0_1 a0_2 a0_3 a0_4 l0_5))
theorem seal_Write.mono_l : ∀ k, (∀ y0 y1 y2 y3 y4 y5 y6 y7, LeO (seal_Write.j0 k y0 y1 y2 y3 y4 y5 y6 y7) (seal_Write.j0 (k + 1) y0 y1 y2 y3 y4 y5 y6 y7)) ∧ (∀ y0 y1 y2 y3 y4, LeO (seal_Write.l0 k y0 y1 y2 y3 y4) (seal_Write.l0 (k + 1) y0 y1 y2 y3 y4))
 | 0 => ⟨fun _ _ _ _ _ _ _ _ r h => by simp [seal_Write.j0] at h, fun _ _ _ _ _ r h => by simp [seal_Write.l0] at h⟩
 | k + 1 => by
  obtain ⟨ih0, ih1⟩ := seal_Write.mono_l k
  refine ⟨?_, ?_⟩
  ·intro y0 y1 y2 y3 y4 y5 y6 y7
   unfold seal_Write.j0
   repeat' first
   | (with_reducible exact ih0 _ _ _ _ _ _ _ _)
   | (with_reducible exact ih1 _ _ _ _ _)
   | (with_reducible exact little_Put.mono _ _ _)
   | (with_reducible exact seal_lay_int.mono _ _ _)
   | (with_reducible exact seal_lay_uint32.mono _ _ _)
   | (with_reducible exact slices_Concat_byte_byte.mono _ _)
   | (with_reducible exact LeO.refl _)
   | (with_reducible exact LeO.none _)
   | (with_reducible refine LeO.ite ?_ ?_)
   | (with_reducible refine LeO.bind ?_ (fun _ => ?_))
   | exact ih0 _ _ _ _ _ _ _ _
   | exact ih1 _ _ _ _ _
   | exact little_Put.mono _ _ _
   | exact seal_lay_int.mono _ _ _
   | exact seal_lay_uint32.mono _ _ _
   | exact slices_Concat_byte_byte.mono _ _
   | exact LeO.none _
   | refine LeO.ite ?_ ?_
   | refine LeO.bind ?_ (fun _ => ?_)
  ·intro y0 y1 y2 y3 y4
   unfold seal_Write.l0
   repeat' first
   | (with_reducible exact ih0 _ _ _ _ _ _ _ _)
   | (with_reducible exact ih1 _ _ _ _ _)
   | (with_reducible exact little_Put.mono _ _ _)
   | (with_reducible exact seal_lay_int.mono _ _ _)
   | (with_reducible exact seal_lay_uint32.mono _ _ _)
   | (with_reducible exact slices_Concat_byte_byte.mono _ _)
   | (with_reducible exact LeO.refl _)
   | (with_reducible exact LeO.none _)
   | (with_reducible refine LeO.ite ?_ ?_)
   | (with_reducible refine LeO.bind ?_ (fun _ => ?_))
   | exact ih0 _ _ _ _ _ _ _ _
   | exact ih1 _ _ _ _ _
   | exact little_Put.mono _ _ _
   | exact seal_lay_int.mono _ _ _
   | exact seal_lay_uint32.mono _ _ _
   | exact slices_Concat_byte_byte.mono _ _
   | exact LeO.none _
   | refine LeO.ite ?_ ?_
   | refine LeO.bind ?_ (fun _ => ?_)
theorem seal_Write.mono : ∀ a0 a1 a2 a3 a4 a5 a6 k, LeO (seal_Write.f k a0 a1 a2 a3 a4 a5 a6) (seal_Write.f (k + 1) a0 a1 a2 a3 a4 a5 a6) := by
 intro a0 a1 a2 a3 a4 a5 a6 k
 obtain ⟨ih0, ih1⟩ := seal_Write.mono_l k
 unfold seal_Write.f
 repeat' first
   | (with_reducible exact ih0 _ _ _ _ _ _ _ _)
   | (with_reducible exact ih1 _ _ _ _ _)
   | (with_reducible exact little_Put.mono _ _ _)
   | (with_reducible exact seal_lay_int.mono _ _ _)
   | (with_reducible exact seal_lay_uint32.mono _ _ _)
   | (with_reducible exact slices_Concat_byte_byte.mono _ _)
   | (with_reducible exact LeO.refl _)
   | (with_reducible exact LeO.none _)
   | (with_reducible refine LeO.ite ?_ ?_)
   | (with_reducible refine LeO.bind ?_ (fun _ => ?_))
   | exact ih0 _ _ _ _ _ _ _ _
   | exact ih1 _ _ _ _ _
   | exact little_Put.mono _ _ _
   | exact seal_lay_int.mono _ _ _
   | exact seal_lay_uint32.mono _ _ _
   | exact slices_Concat_byte_byte.mono _ _
   | exact LeO.none _
   | refine LeO.ite ?_ ?_
   | refine LeO.bind ?_ (fun _ => ?_)
def seal_Write.T4 : Bool × List (List Nat × List Nat) := (true, [([], []), ([], []), ([1], [1]), ([2], [2]), ([], []), ([4], [4]), ([5], [5]), ([], []), ([7], [7]), ([3, 6, 8], [3, 6, 8]), ([9], [9]), ([], []), ([11], [11]), ([12], [12]), ([], []), ([14], [14]), ([15], [15]), ([13, 16], [13, 16]), ([17, 10], [17]), ([0, 10, 18], [0, 10, 18]), ([19, 18], [19]), ([20, 20, 0, 1, 2, 3, 4, 5, 6, 7, 8, 9, 10, 11, 12, 13, 14, 15, 16, 17, 18, 19, 20], [0, 20])])
def seal_Write.B4 : List Nat := [0, 0, 2, 6, 0, 16, 48, 0, 128, 510, 1022, 0, 2048, 6144, 0, 16384, 49152, 129024, 262142, 524287, 1048575, 2097151]
theorem seal_Write.tab4 : rtab .any (opsOf Tryd.f9 4) = seal_Write.T4 := by kernel_rfl
theorem seal_Write.bits4 : waitsOk seal_Write.T4.2 seal_Write.B4 = true := by kernel_rfl
set_option maxHeartbeats 8000000 in
set_option maxRecDepth 100000 in
theorem seal_Write.calls (k : Nat) (a0_0 : Int) (a0_1 : Int) (a0_2 : Int) (a0_3 : Int) (a0_4 : Int) (A0_5 : Option Addr) (c0_5 : Nat) (l0_5 : List (List Int)) (P1_ : Nat → Prop) (A1 : Option Addr) (c1 : Nat) (l1 : List Int) (r1 : List Int) (r2 : Int) (w : World) (hG : Glob w) (hr0_5 : Kd.C (Kd.slice 54 (Kd.int .u32)) w A0_5 l0_5.length l0_5) (hc0_5 : l0_5.length ≤ c0_5) (hs1 : Kd.V (Kd.int .u8) 5 w w.heap.size (fun k_ => P1_ k_) (.slice A1 l1.length c1) l1) (h : seal_Write.f k a0_0 a0_1 a0_2 a0_3 a0_4 l0_5 l1 = some (r1, r2)) :
  Calls Tryd.prog 9 #[.agg #[.int .i64 a0_0, .int .i64 a0_1, .int .i64 a0_2, .int .i64 a0_3, .int .i64 a0_4, .slice A0_5 l0_5.length c0_5], .slice A1 l1.length c1] w fun e w' => ∃ v0_ : Value, e = .returned (.tuple #[v0_, .int .i64 r2]) ∧ Kd.R (Kd.int .u8) 5 w' w.heap.size (fun k_ => (w.heap.size ≤ k_)) v0_ r1 ∧ Below w.heap.size w w' := by
 have hu26 := Tryd.underlying26
 have hu23 := Tryd.underlying23
 have HR0_5 := kzA hr0_5
 have HC0_5 := kzA hc0_5
 clear hr0_5 hc0_5
 have HO1 := kzA (show Kd.V (Kd.int .u8) 5 w w.heap.size (fun k_ => (P1_ k_ ∨ w.heap.size ≤ k_)) (.slice A1 l1.length c1) l1 from Kd.kBV hs1 (fun k_ hk => .inl hk))
 have HB := kzA (Below.refl w.heap.size w)
 have H : ((seal_right.f a0_0 a0_1 a0_2 a0_3 a0_4 l0_5).bind fun t136 => (if t136 = true then ((stripe_Long.f a0_0 a0_1 a0_2 a0_3).bind fun t137 => (seal_Write.j0 k l1 ((l1.length : Int) != t137) a0_0 a0_1 a0_2 a0_3 a0_4 l0_5)) else (seal_Write.j0 k l1 true a0_0 a0_1 a0_2 a0_3 a0_4 l0_5))) = some (r1, r2) := h
 clear h
 have HC3 := kzA H
 clear H
 go_enter Tryd.func9, Tryd.ntmps9
 go_upto_region 1 with (first | ((with_reducible refine kBA (N := 2) rfl ?_); (try (refine kCI (by rfl) ?_; dsimp only)); refine kBD ?hg (N := 2) ?hd (cs := #[.int .i64 a0_0, .int .i64 a0_1, .int .i64 a0_2, .int .i64 a0_3, .int .i64 a0_4, .slice A0_5 l0_5.length c0_5]) (t := 26) ?hr ?_; (case hd => rfl); (case hg => rfl); (case hr => first | (go_simp; done) | (go_simp; rfl)); intro gb135 hg w4 hbox hb; have n0_ := kzA (Kd.kCD (Kd.V_elderB (by (with_reducible repeat (first | apply Kd.kAT | apply Kd.kAS | apply Kd.kAZ)); exact HO1.out) gb135 (Nat.le_of_eq hg.symm)) hb); have n1_ := kzA (kAK (by repeat (first | (with_reducible first | exact HB.out | apply kAB | apply kAA | apply kAC) | exact HB.out)) hb); have n2_ := kzA (hbox); have n3_ := kzA ((by rw [hg]; exact (kAJ (by repeat (first | (with_reducible first | exact HB.out | apply kAB | apply kAA | apply kAC) | exact HB.out))) : w.heap.size ≤ gb135)); have n4_ := kzA ((by rw [hg]; exact (kAJ (by repeat (first | (with_reducible first | exact HB.out | apply kAB | apply kAA | apply kAC) | exact HB.out))) : w.heap.size ≤ gb135)); clear HO1; clear HB; have HO1 := n0_; have HB := n1_; have BK135 := n2_; have GW135 := n3_; have GE135 := n4_; clear n0_ n1_ n2_ n3_ n4_; clear hb hbox hg))
 (try simp only [Act.put, kzB, kzC, kzD])
 go_cut [19] (fun v19 wc => ∃ (kq : Nat) (x19_2 : Bool), v19 = .bool x19_2 ∧ Aside0 (seal_Write.j0 kq l1 x19_2 a0_0 a0_1 a0_2 a0_3 a0_4 l0_5 = some (r1, r2)) ∧ Aside0 (kq ≤ k) ∧ Aside0 (Kd.V (Kd.int .u8) 5 wc w.heap.size (fun k_ => (P1_ k_ ∨ w.heap.size ≤ k_) ∧ k_ ≠ gb135) (.slice A1 l1.length c1) l1) ∧ Aside0 (wc.heap[gb135]? = some (.cells #[.int .i64 a0_0, .int .i64 a0_1, .int .i64 a0_2, .int .i64 a0_3, .int .i64 a0_4, (.slice A0_5 l0_5.length c0_5)] 26 (0, 0))) ∧ Aside0 (Below w.heap.size w wc))
 case first =>
  have H := HC3.out
  clear HC3
  replace H := Option.bind_eq_some_iff.mp H
  obtain ⟨t136, A50, H⟩ := H
  replace H : (if t136 = true then ((stripe_Long.f a0_0 a0_1 a0_2 a0_3).bind fun t137 => (seal_Write.j0 k l1 ((l1.length : Int) != t137) a0_0 a0_1 a0_2 a0_3 a0_4 l0_5)) else (seal_Write.j0 k l1 true a0_0 a0_1 a0_2 a0_3 a0_4 l0_5)) = some (r1, r2) := H
  have A5 := kzA A50
  clear A50
  by_cases c6 : t136 = true
  ·subst c6
   have H1 : ((stripe_Long.f a0_0 a0_1 a0_2 a0_3).bind fun t137 => (seal_Write.j0 k l1 ((l1.length : Int) != t137) a0_0 a0_1 a0_2 a0_3 a0_4 l0_5)) = some (r1, r2) := by rw [if_pos rfl] at H; exact H
   clear H
   have H := H1
   clear H1
   replace H := Option.bind_eq_some_iff.mp H
   obtain ⟨t137, A70, H⟩ := H
   replace H : (seal_Write.j0 k l1 ((l1.length : Int) != t137) a0_0 a0_1 a0_2 a0_3 a0_4 l0_5) = some (r1, r2) := H
   have A7 := kzA A70
   clear A70
   have H' := kzA H
   clear H
   have hcz8_0 : w4.cell? ⟨gb135, 0, none⟩ = some (.int .i64 a0_0) := (kAD BK135.out 0).trans rfl
   have hcz8_1 : w4.cell? ⟨gb135, 1, none⟩ = some (.int .i64 a0_1) := (kAD BK135.out 1).trans rfl
   have hcz8_2 : w4.cell? ⟨gb135, 2, none⟩ = some (.int .i64 a0_2) := (kAD BK135.out 2).trans rfl
   have hcz8_3 : w4.cell? ⟨gb135, 3, none⟩ = some (.int .i64 a0_3) := (kAD BK135.out 3).trans rfl
   have hcz8_4 : w4.cell? ⟨gb135, 4, none⟩ = some (.int .i64 a0_4) := (kAD BK135.out 4).trans rfl
   have hcz8_5 : w4.cell? ⟨gb135, 5, none⟩ = some (.slice A0_5 l0_5.length c0_5) := (kAD BK135.out 5).trans rfl
   have hfz8_0 := kAE BK135.out 0
   have hfz8_1 := kAE BK135.out 1
   have hfz8_2 := kAE BK135.out 2
   have hfz8_3 := kAE BK135.out 3
   have hfz8_4 := kAE BK135.out 4
   have hfz8_5 := kAE BK135.out 5
   go_wp2_with (first | ((with_reducible refine kAQ (f := 23) rfl ?_); refine kBI (some 10) rfl rfl Tryd.func23 (by kernel_rfl) rfl #[.agg #[.int .i64 a0_0, .int .i64 a0_1, .int .i64 a0_2, .int .i64 a0_3, .int .i64 a0_4, .slice A0_5 l0_5.length c0_5]] rfl (by (try simp only [List.map_toArray, List.map_cons, List.map_nil]); first | done | rfl | (simp only [List.length_drop, List.length_take]; rfl)) ?_; (with_reducible refine (seal_right.calls a0_0 a0_1 a0_2 a0_3 a0_4 _ _ l0_5 true _ ?side1 ?side2 A5.out).mono ?_); (case side1 => repeat (first | exact (Kd.kCG HR0_5.out HB.out) | (with_reducible refine Kd.kBH ?_ _) | (with_reducible refine Kd.kBF ?_ _) | (with_reducible refine Kd.kBM ?_))); (case side2 => exact HC0_5.out); rintro e w9 ⟨rfl, hb⟩; refine ⟨_, rfl, ?_⟩; have n0_ := kzA (Kd.kCD (by (with_reducible repeat (first | apply Kd.kAT | apply Kd.kAS | apply Kd.kAZ)); exact HO1.out) hb); have n1_ := kzA (kAL (g := gb135) (o := .cells #[.int .i64 a0_0, .int .i64 a0_1, .int .i64 a0_2, .int .i64 a0_3, .int .i64 a0_4, .slice A0_5 l0_5.length c0_5] 26 (0, 0)) (by (with_reducible repeat (first | refine kAH ?_ _ | refine kAI ?_ | refine kAG ?_ _)); exact BK135.out) hb); have n2_ := kzA (kAK (by repeat (first | (with_reducible first | exact HB.out | apply kAB | apply kAA | apply kAC | refine kAF ?_ GE135.out) | exact HB.out)) hb); clear HO1; clear BK135; clear HB; have HO1 := n0_; have BK135 := n1_; have HB := n2_; clear n0_ n1_ n2_; (try clear hb); (try clear hb2); (try clear hk); (try clear hi); have hcz10_0 : w9.cell? ⟨gb135, 0, none⟩ = some (.int .i64 a0_0) := (kAD BK135.out 0).trans rfl; have hcz10_1 : w9.cell? ⟨gb135, 1, none⟩ = some (.int .i64 a0_1) := (kAD BK135.out 1).trans rfl; have hcz10_2 : w9.cell? ⟨gb135, 2, none⟩ = some (.int .i64 a0_2) := (kAD BK135.out 2).trans rfl; have hcz10_3 : w9.cell? ⟨gb135, 3, none⟩ = some (.int .i64 a0_3) := (kAD BK135.out 3).trans rfl; have hcz10_4 : w9.cell? ⟨gb135, 4, none⟩ = some (.int .i64 a0_4) := (kAD BK135.out 4).trans rfl; have hcz10_5 : w9.cell? ⟨gb135, 5, none⟩ = some (.slice A0_5 l0_5.length c0_5) := (kAD BK135.out 5).trans rfl; have hfz10_0 := kAE BK135.out 0; have hfz10_1 := kAE BK135.out 1; have hfz10_2 := kAE BK135.out 2; have hfz10_3 := kAE BK135.out 3; have hfz10_4 := kAE BK135.out 4; have hfz10_5 := kAE BK135.out 5) | (go_at_call 24; (with_reducible refine (stripe_Long.calls a0_0 a0_1 a0_2 a0_3 t137 _ A7.out).mono ?_); rintro e w11 ⟨rfl, hb⟩; have n0_ := kzA (Kd.kCD (by (with_reducible repeat (first | apply Kd.kAT | apply Kd.kAS | apply Kd.kAZ)); exact HO1.out) hb); have n1_ := kzA (kAL (g := gb135) (o := .cells #[.int .i64 a0_0, .int .i64 a0_1, .int .i64 a0_2, .int .i64 a0_3, .int .i64 a0_4, .slice A0_5 l0_5.length c0_5] 26 (0, 0)) (by (with_reducible repeat (first | refine kAH ?_ _ | refine kAI ?_ | refine kAG ?_ _)); exact BK135.out) hb); have n2_ := kzA (kAK (by repeat (first | (with_reducible first | exact HB.out | apply kAB | apply kAA | apply kAC | refine kAF ?_ GE135.out) | exact HB.out)) hb); clear HO1; clear BK135; clear HB; have HO1 := n0_; have BK135 := n1_; have HB := n2_; clear n0_ n1_ n2_; (try clear hb); (try clear hb2); (try clear hk); (try clear hi)))
   go_meet
   case rel => exact ⟨_, (((l1.length : Int) != t137)), (by first | rfl | (simp; done) | (simp [*]; done)), H', ⟨by first | omega | exact Nat.le_refl _⟩, ⟨by (with_reducible repeat (first | apply Kd.kAT | apply Kd.kAS | apply Kd.kAZ)); exact HO1.out⟩, ⟨by (with_reducible repeat (first | refine kAH ?_ _ | refine kAI ?_ | refine kAG ?_ _)); exact BK135.out⟩, ⟨by repeat (first | (with_reducible first | exact HB.out | apply kAB | apply kAA | apply kAC | refine kAF ?_ GE135.out) | exact HB.out)⟩⟩
  ·replace c6 := Bool.eq_false_iff.mpr c6
   subst c6
   have H1 : (seal_Write.j0 k l1 true a0_0 a0_1 a0_2 a0_3 a0_4 l0_5) = some (r1, r2) := by rw [if_neg (show ¬ (false = true) by decide)] at H; exact H
   clear H
   have H := H1
   clear H1
   have H' := kzA H
   clear H
   have hcz12_0 : w4.cell? ⟨gb135, 0, none⟩ = some (.int .i64 a0_0) := (kAD BK135.out 0).trans rfl
   have hcz12_1 : w4.cell? ⟨gb135, 1, none⟩ = some (.int .i64 a0_1) := (kAD BK135.out 1).trans rfl
   have hcz12_2 : w4.cell? ⟨gb135, 2, none⟩ = some (.int .i64 a0_2) := (kAD BK135.out 2).trans rfl
   have hcz12_3 : w4.cell? ⟨gb135, 3, none⟩ = some (.int .i64 a0_3) := (kAD BK135.out 3).trans rfl
   have hcz12_4 : w4.cell? ⟨gb135, 4, none⟩ = some (.int .i64 a0_4) := (kAD BK135.out 4).trans rfl
   have hcz12_5 : w4.cell? ⟨gb135, 5, none⟩ = some (.slice A0_5 l0_5.length c0_5) := (kAD BK135.out 5).trans rfl
   have hfz12_0 := kAE BK135.out 0
   have hfz12_1 := kAE BK135.out 1
   have hfz12_2 := kAE BK135.out 2
   have hfz12_3 := kAE BK135.out 3
   have hfz12_4 := kAE BK135.out 4
   have hfz12_5 := kAE BK135.out 5
   go_wp2_with (first | ((with_reducible refine kAQ (f := 23) rfl ?_); refine kBI (some 10) rfl rfl Tryd.func23 (by kernel_rfl) rfl #[.agg #[.int .i64 a0_0, .int .i64 a0_1, .int .i64 a0_2, .int .i64 a0_3, .int .i64 a0_4, .slice A0_5 l0_5.length c0_5]] rfl (by (try simp only [List.map_toArray, List.map_cons, List.map_nil]); first | done | rfl | (simp only [List.length_drop, List.length_take]; rfl)) ?_; (with_reducible refine (seal_right.calls a0_0 a0_1 a0_2 a0_3 a0_4 _ _ l0_5 false _ ?side1 ?side2 A5.out).mono ?_); (case side1 => repeat (first | exact (Kd.kCG HR0_5.out HB.out) | (with_reducible refine Kd.kBH ?_ _) | (with_reducible refine Kd.kBF ?_ _) | (with_reducible refine Kd.kBM ?_))); (case side2 => exact HC0_5.out); rintro e w13 ⟨rfl, hb⟩; refine ⟨_, rfl, ?_⟩; have n0_ := kzA (Kd.kCD (by (with_reducible repeat (first | apply Kd.kAT | apply Kd.kAS | apply Kd.kAZ)); exact HO1.out) hb); have n1_ := kzA (kAL (g := gb135) (o := .cells #[.int .i64 a0_0, .int .i64 a0_1, .int .i64 a0_2, .int .i64 a0_3, .int .i64 a0_4, .slice A0_5 l0_5.length c0_5] 26 (0, 0)) (by (with_reducible repeat (first | refine kAH ?_ _ | refine kAI ?_ | refine kAG ?_ _)); exact BK135.out) hb); have n2_ := kzA (kAK (by repeat (first | (with_reducible first | exact HB.out | apply kAB | apply kAA | apply kAC | refine kAF ?_ GE135.out) | exact HB.out)) hb); clear HO1; clear BK135; clear HB; have HO1 := n0_; have BK135 := n1_; have HB := n2_; clear n0_ n1_ n2_; (try clear hb); (try clear hb2); (try clear hk); (try clear hi)))
   go_meet
   case rel => exact ⟨_, (true), (by first | rfl | (simp; done) | (simp [*]; done)), H', ⟨by first | omega | exact Nat.le_refl _⟩, ⟨by (with_reducible repeat (first | apply Kd.kAT | apply Kd.kAS | apply Kd.kAZ)); exact HO1.out⟩, ⟨by (with_reducible repeat (first | refine kAH ?_ _ | refine kAI ?_ | refine kAG ?_ _)); exact BK135.out⟩, ⟨by repeat (first | (with_reducible first | exact HB.out | apply kAB | apply kAA | apply kAC | refine kAF ?_ GE135.out) | exact HB.out)⟩⟩
 case rest =>
  clear HC3
  try clear c1
  try clear c2
  try clear p2
  try clear c6
  try clear c9
  try clear hcz10_0
  try clear hcz10_1
  try clear hcz10_2
  try clear hcz10_3
  try clear hcz10_4
  try clear hcz10_5
  try clear hcz12_0
  try clear hcz12_1
  try clear hcz12_2
  try clear hcz12_3
  try clear hcz12_4
  try clear hcz12_5
  try clear hcz8_0
  try clear hcz8_1
  try clear hcz8_2
  try clear hcz8_3
  try clear hcz8_4
  try clear hcz8_5
  try clear hfz10_0
  try clear hfz10_1
  try clear hfz10_2
  try clear hfz10_3
  try clear hfz10_4
  try clear hfz10_5
  try clear hfz12_0
  try clear hfz12_1
  try clear hfz12_2
  try clear hfz12_3
  try clear hfz12_4
  try clear hfz12_5
  try clear hfz8_0
  try clear hfz8_1
  try clear hfz8_2
  try clear hfz8_3
  try clear hfz8_4
  try clear hfz8_5
  obtain ⟨kq, x19_2, rfl, HA, HJ2, HO_1, BK135, HB⟩ := hcut
  cases kq with
  | zero => exact absurd HA.out (by simp [seal_Write.j0])
  | succ kj2 =>
   have H := HA.out
   clear HA
   simp only [seal_Write.j0] at H
   by_cases c14 : x19_2 = true
   ·subst c14
    have H1 : (some (([] : List Int), 1)) = some (r1, r2) := by rw [if_pos rfl] at H; exact H
    clear H
    have H := H1
    clear H1
    simp only [Option.some.injEq, Prod.mk.injEq] at H
    obtain ⟨rfl, rfl⟩ := H
    go_wp2
    go_ret2
    exact ⟨_, by first | rfl | (simp [kAN, kAM] <;> rfl) | (simp [*, kAN, kAM] <;> rfl), by first | exact Kd.R_nil _ _ _ _ _ | exact Kd.N_nil _ _ _ _ _ | exact Kd.V_nil _ _ _ _ _ | exact Kd.Q_nil _ _ _ _ _ | exact Kd.S_nil _ _ _ _ _, by repeat (first | (with_reducible first | exact HB.out | apply kAB | apply kAA | apply kAC | refine kAF ?_ GE135.out) | exact HB.out)⟩
   ·replace c14 := Bool.eq_false_iff.mpr c14
    subst c14
    have H1 : ((seal_lay_int.f kj2 (([1, a0_0, a0_1, a0_4] : List Int)) 2).bind fun t144 => ((seal_lay_int.f kj2 (([a0_2, a0_3] : List Int)) 4).bind fun t150 => ((slices_Concat_byte_byte.f kj2 (([(([70, 76, 82, 86] : List Int)), t144, t150] : List (List Int)))).bind fun t156 => (seal_Write.l0 kj2 l1 t156 l0_5 (l0_5.length : Int) 0)))) = some (r1, r2) := by rw [if_neg (show ¬ (false = true) by decide)] at H; exact H
    clear H
    have H := H1
    clear H1
    obtain ⟨y138, hy138⟩ : ∃ y_ : List Int, y_ = (([70, 76, 82, 86] : List Int)) := ⟨_, rfl⟩
    replace H : ((seal_lay_int.f kj2 (([1, a0_0, a0_1, a0_4] : List Int)) 2).bind fun t144 => ((seal_lay_int.f kj2 (([a0_2, a0_3] : List Int)) 4).bind fun t150 => ((slices_Concat_byte_byte.f kj2 (([y138, t144, t150] : List (List Int)))).bind fun t156 => (seal_Write.l0 kj2 l1 t156 l0_5 (l0_5.length : Int) 0)))) = some (r1, r2) := by first | (rw [hy138]; with_reducible exact H) | (have H2_ := (Option.bind_some _ _).symm.trans H; rw [hy138]; with_reducible exact H2_) | (have H2_ := (Option.bind_some _ _).symm.trans H; with_reducible exact H2_) | with_reducible exact H | (rw [hy138]; exact H) | exact H
    have Ny138 := kzA hy138
    clear hy138
    obtain ⟨y141, hy141⟩ : ∃ y_ : List Int, y_ = (([1, a0_0, a0_1, a0_4] : List Int)) := ⟨_, rfl⟩
    replace H : ((seal_lay_int.f kj2 y141 2).bind fun t144 => ((seal_lay_int.f kj2 (([a0_2, a0_3] : List Int)) 4).bind fun t150 => ((slices_Concat_byte_byte.f kj2 (([y138, t144, t150] : List (List Int)))).bind fun t156 => (seal_Write.l0 kj2 l1 t156 l0_5 (l0_5.length : Int) 0)))) = some (r1, r2) := by first | (rw [hy141]; with_reducible exact H) | (have H2_ := (Option.bind_some _ _).symm.trans H; rw [hy141]; with_reducible exact H2_) | (have H2_ := (Option.bind_some _ _).symm.trans H; with_reducible exact H2_) | with_reducible exact H | (rw [hy141]; exact H) | exact H
    have Ny141 := kzA hy141
    clear hy141
    replace H := Option.bind_eq_some_iff.mp H
    obtain ⟨t144, A150, H⟩ := H
    replace H : ((seal_lay_int.f kj2 (([a0_2, a0_3] : List Int)) 4).bind fun t150 => ((slices_Concat_byte_byte.f kj2 (([y138, t144, t150] : List (List Int)))).bind fun t156 => (seal_Write.l0 kj2 l1 t156 l0_5 (l0_5.length : Int) 0))) = some (r1, r2) := H
    have A15 := kzA A150
    clear A150
    obtain ⟨y147, hy147⟩ : ∃ y_ : List Int, y_ = (([a0_2, a0_3] : List Int)) := ⟨_, rfl⟩
    replace H : ((seal_lay_int.f kj2 y147 4).bind fun t150 => ((slices_Concat_byte_byte.f kj2 (([y138, t144, t150] : List (List Int)))).bind fun t156 => (seal_Write.l0 kj2 l1 t156 l0_5 (l0_5.length : Int) 0))) = some (r1, r2) := by first | (rw [hy147]; with_reducible exact H) | (have H2_ := (Option.bind_some _ _).symm.trans H; rw [hy147]; with_reducible exact H2_) | (have H2_ := (Option.bind_some _ _).symm.trans H; with_reducible exact H2_) | with_reducible exact H | (rw [hy147]; exact H) | exact H
    have Ny147 := kzA hy147
    clear hy147
    replace H := Option.bind_eq_some_iff.mp H
    obtain ⟨t150, A160, H⟩ := H
    replace H : ((slices_Concat_byte_byte.f kj2 (([y138, t144, t150] : List (List Int)))).bind fun t156 => (seal_Write.l0 kj2 l1 t156 l0_5 (l0_5.length : Int) 0)) = some (r1, r2) := H
    have A16 := kzA A160
    clear A160
    obtain ⟨y153, hy153⟩ : ∃ y_ : List (List Int), y_ = (([y138, t144, t150] : List (List Int))) := ⟨_, rfl⟩
    replace H : ((slices_Concat_byte_byte.f kj2 y153).bind fun t156 => (seal_Write.l0 kj2 l1 t156 l0_5 (l0_5.length : Int) 0)) = some (r1, r2) := by first | (rw [hy153]; with_reducible exact H) | (have H2_ := (Option.bind_some _ _).symm.trans H; rw [hy153]; with_reducible exact H2_) | (have H2_ := (Option.bind_some _ _).symm.trans H; with_reducible exact H2_) | with_reducible exact H | (rw [hy153]; exact H) | exact H
    have Ny153 := kzA hy153
    clear hy153
    replace H := Option.bind_eq_some_iff.mp H
    obtain ⟨t156, A170, H⟩ := H
    replace H : (seal_Write.l0 kj2 l1 t156 l0_5 (l0_5.length : Int) 0) = some (r1, r2) := H
    have A17 := kzA A170
    clear A170
    have H' := kzA H
    clear H
    try go_wp2_with (first | ((with_reducible refine kBA (N := 20) rfl ?_); (try (refine kCI (by rfl) ?_; dsimp only)); refine Kd.V_lit (Kd.int .u8) _ 5 ?hg (N := 20) ?hd (xs := ([70, 76, 82, 86] : List Int)) (inner := [.int .u8 70, .int .u8 76, .int .u8 82, .int .u8 86]) (ok := fun k_ => wc.heap.size ≤ k_) (okp := fun _ => False) ?hr ?hp (fun _ hk => hk.elim) (Nat.le_refl _) (Below.refl _ _) (Nat.le_refl _) (by simp) ?_; (case hd => rfl); (case hg => rfl); (case hr => first | (go_simp; done) | (go_simp; rfl)); (case hp => exact (Reps.one (show Kd.M (Kd.int .u8) _ _ _ 70 [.int .u8 70] from rfl) (Reps.one (show Kd.M (Kd.int .u8) _ _ _ 76 [.int .u8 76] from rfl) (Reps.one (show Kd.M (Kd.int .u8) _ _ _ 82 [.int .u8 82] from rfl) (Reps.one (show Kd.M (Kd.int .u8) _ _ _ 86 [.int .u8 86] from rfl) (Reps.none _ _)))))); intro v139 w18 ho19 hb hg_ hnew_; clear hg_ hnew_; (first | rw [← Ny138.out] at ho19 | (simp only [Int.reduceToNat] at ho19; rw [← Ny138.out] at ho19)); have n0_ := kzA (Kd.kCD (by (with_reducible repeat (first | apply Kd.kAT | apply Kd.kAS | apply Kd.kAZ)); exact HO_1.out) hb); have n1_ := kzA (Kd.V_lower (Kd.kBV (ok' := fun k_ => (P1_ k_ ∨ w.heap.size ≤ k_) ∧ k_ ≠ gb135) ho19 (fun k_ hk_ => ⟨(.inr (Nat.le_trans (kAJ (by repeat (first | (with_reducible first | exact HB.out | apply kAB | apply kAA | apply kAC | refine kAF ?_ GE135.out) | exact HB.out))) hk_)), (Kd.freshB (g := gb135) (o := .cells #[.int .i64 a0_0, .int .i64 a0_1, .int .i64 a0_2, .int .i64 a0_3, .int .i64 a0_4, .slice A0_5 l0_5.length c0_5] 26 (0, 0)) (by (with_reducible repeat (first | refine kAH ?_ _ | refine kAI ?_ | refine kAG ?_ _)); exact BK135.out) k_ hk_)⟩)) (kAJ (by repeat (first | (with_reducible first | exact HB.out | apply kAB | apply kAA | apply kAC | refine kAF ?_ GE135.out) | exact HB.out)))); have n2_ := kzA (kAL (g := gb135) (o := .cells #[.int .i64 a0_0, .int .i64 a0_1, .int .i64 a0_2, .int .i64 a0_3, .int .i64 a0_4, .slice A0_5 l0_5.length c0_5] 26 (0, 0)) (by (with_reducible repeat (first | refine kAH ?_ _ | refine kAI ?_ | refine kAG ?_ _)); exact BK135.out) hb); have n3_ := kzA (kAK (by repeat (first | (with_reducible first | exact HB.out | apply kAB | apply kAA | apply kAC | refine kAF ?_ GE135.out) | exact HB.out)) hb); clear HO_1; clear BK135; clear HB; have HO_1 := n0_; have HO140 := n1_; have BK135 := n2_; have HB := n3_; clear n0_ n1_ n2_ n3_; clear hb ho19))
    have n0_ := kzA (Kd.kAZ HO_1.out)
    have n1_ := kzA (Kd.kAZ HO140.out)
    have n2_ := kzA (kAI BK135.out)
    have n3_ := kzA (kAC HB.out)
    clear HO_1
    clear HO140
    clear BK135
    clear HB
    have HO_1 := n0_
    have HO140 := n1_
    have BK135 := n2_
    have HB := n3_
    clear n0_ n1_ n2_ n3_
    refine start_ (n := 22) (S := fun w' => w'.cell? ⟨gb135, 0, none⟩ = some (.int .i64 a0_0) ∧ w'.cell? ⟨gb135, 1, none⟩ = some (.int .i64 a0_1) ∧ w'.cell? ⟨gb135, 2, none⟩ = some (.int .i64 a0_2) ∧ w'.cell? ⟨gb135, 3, none⟩ = some (.int .i64 a0_3) ∧ w'.cell? ⟨gb135, 4, none⟩ = some (.int .i64 a0_4) ∧ w'.cell? ⟨gb135, 5, none⟩ = some (.slice A0_5 l0_5.length c0_5)) (ds := []) #[false, false, false, false, false, false, false, false, false, false, false, false, false, false, false, false, false, false, false, false, false, false] (by kernel_rfl) rfl rfl ⟨(kAD BK135.out 0).trans rfl, (kAD BK135.out 1).trans rfl, (kAD BK135.out 2).trans rfl, (kAD BK135.out 3).trans rfl, (kAD BK135.out 4).trans rfl, (kAD BK135.out 5).trans rfl⟩ (fun hHeld => ?_); refine with_tabW seal_Write.tab4 seal_Write.bits4 (fun HT_ HW_ => ?_)
    generalize w18.drew = w20 at HO_1 HO140 BK135 HB hHeld ⊢
    refine kBN (i := 0) (N := some 22) (v := ?_) (a' := ?_) #[true, false, false, false, false, false, false, false, false, false, false, false, false, false, false, false, false, false, false, false, false, false] rfl rfl (kBG HT_.out (by kernel_rfl)) (fun _ _ _ h => h) (Or.inl ⟨by rfl, ?_⟩) ?_ ?_
    rotate_left
    ·intro w'
     go_simp
     with_reducible rfl
    rotate_left
    ·simp only [Act.put, kzB, kzC, kzD, kAX, kAY]
     rfl
    refine kBN (i := 1) (N := some 23) (v := ?_) (a' := ?_) #[true, true, false, false, false, false, false, false, false, false, false, false, false, false, false, false, false, false, false, false, false, false] rfl rfl (kBG HT_.out (by kernel_rfl)) (fun _ _ _ h => h) (Or.inl ⟨by rfl, ?_⟩) ?_ ?_
    rotate_left
    ·intro w'
     go_simp
     with_reducible rfl
    rotate_left
    ·simp only [Act.put, kzB, kzC, kzD, kAX, kAY]
     rfl
    refine kBN (i := 2) (N := some 24) (v := ?_) (a' := ?_) #[true, true, true, false, false, false, false, false, false, false, false, false, false, false, false, false, false, false, false, false, false, false] rfl rfl (kBG HT_.out (by kernel_rfl)) (fun _ _ _ h => h) (Or.inl ⟨by rfl, ?_⟩) ?_ ?_
    rotate_left
    ·intro w'
     go_simp
     with_reducible rfl
    rotate_left
    ·simp only [Act.put, kzB, kzC, kzD, kAX, kAY]
     rfl
    refine kBN (i := 4) (N := some 26) (v := ?_) (a' := ?_) #[true, true, true, false, true, false, false, false, false, false, false, false, false, false, false, false, false, false, false, false, false, false] rfl rfl (kBG HT_.out (by kernel_rfl)) (fun _ _ _ h => h) (Or.inl ⟨by rfl, ?_⟩) ?_ ?_
    rotate_left
    ·intro w'
     go_simp
     with_reducible rfl
    rotate_left
    ·simp only [Act.put, kzB, kzC, kzD, kAX, kAY]
     rfl
    refine kBN (i := 5) (N := some 27) (v := ?_) (a' := ?_) #[true, true, true, false, true, true, false, false, false, false, false, false, false, false, false, false, false, false, false, false, false, false] rfl rfl (kBG HT_.out (by kernel_rfl)) (fun _ _ _ h => h) (Or.inl ⟨by rfl, ?_⟩) ?_ ?_
    rotate_left
    ·intro w'
     go_simp
     with_reducible rfl
    rotate_left
    ·simp only [Act.put, kzB, kzC, kzD, kAX, kAY]
     rfl
    refine kBN (i := 7) (N := some 29) (v := ?_) (a' := ?_) #[true, true, true, false, true, true, false, true, false, false, false, false, false, false, false, false, false, false, false, false, false, false] rfl rfl (kBG HT_.out (by kernel_rfl)) (fun _ _ _ h => h) (Or.inl ⟨by rfl, ?_⟩) ?_ ?_
    rotate_left
    ·intro w'
     go_simp
     with_reducible rfl
    rotate_left
    ·simp only [Act.put, kzB, kzC, kzD, kAX, kAY]
     rfl
    refine kBN (i := 11) (N := some 33) (v := ?_) (a' := ?_) #[true, true, true, false, true, true, false, true, false, false, false, true, false, false, false, false, false, false, false, false, false, false] rfl rfl (kBG HT_.out (by kernel_rfl)) (fun _ _ _ h => h) (Or.inl ⟨by rfl, ?_⟩) ?_ ?_
    rotate_left
    ·intro w'
     go_simp
     with_reducible rfl
    rotate_left
    ·simp only [Act.put, kzB, kzC, kzD, kAX, kAY]
     rfl
    refine kBN (i := 12) (N := some 34) (v := ?_) (a' := ?_) #[true, true, true, false, true, true, false, true, false, false, false, true, true, false, false, false, false, false, false, false, false, false] rfl rfl (kBG HT_.out (by kernel_rfl)) (fun _ _ _ h => h) (Or.inl ⟨by rfl, ?_⟩) ?_ ?_
    rotate_left
    ·intro w'
     go_simp
     with_reducible rfl
    rotate_left
    ·simp only [Act.put, kzB, kzC, kzD, kAX, kAY]
     rfl
    refine kBN (i := 14) (N := some 36) (v := ?_) (a' := ?_) #[true, true, true, false, true, true, false, true, false, false, false, true, true, false, true, false, false, false, false, false, false, false] rfl rfl (kBG HT_.out (by kernel_rfl)) (fun _ _ _ h => h) (Or.inl ⟨by rfl, ?_⟩) ?_ ?_
    rotate_left
    ·intro w'
     go_simp
     with_reducible rfl
    rotate_left
    ·simp only [Act.put, kzB, kzC, kzD, kAX, kAY]
     rfl
    refine kBN (i := 15) (N := some 37) (v := ?_) (a' := ?_) #[true, true, true, false, true, true, false, true, false, false, false, true, true, false, true, true, false, false, false, false, false, false] rfl rfl (kBG HT_.out (by kernel_rfl)) (fun _ _ _ h => h) (Or.inl ⟨by rfl, ?_⟩) ?_ ?_
    rotate_left
    ·intro w'
     go_simp
     with_reducible rfl
    rotate_left
    ·simp only [Act.put, kzB, kzC, kzD, kAX, kAY]
     rfl
    refine take_ (i := 3) (N := some 25) (v := ?_) (a' := ?_) #[true, true, true, true, true, true, false, true, false, false, false, true, true, false, true, true, false, false, false, false, false, false] rfl rfl (kBX HT_.out HW_.out (by kernel_rfl)) (fun _ _ _ h => h) (Or.inl ⟨by rfl, ?_⟩) hHeld ?_ ?_
    rotate_left
    ·rintro w' ⟨s0, s1, s2, s3, s4, s5⟩
     go_simp
     with_reducible rfl
    rotate_left
    ·simp only [Act.put, kzB, kzC, kzD, kAX, kAY]
     rfl
    refine take_ (i := 6) (N := some 28) (v := ?_) (a' := ?_) #[true, true, true, true, true, true, true, true, false, false, false, true, true, false, true, true, false, false, false, false, false, false] rfl rfl (kBX HT_.out HW_.out (by kernel_rfl)) (fun _ _ _ h => h) (Or.inl ⟨by rfl, ?_⟩) hHeld ?_ ?_
    rotate_left
    ·rintro w' ⟨s0, s1, s2, s3, s4, s5⟩
     go_simp
     with_reducible rfl
    rotate_left
    ·simp only [Act.put, kzB, kzC, kzD, kAX, kAY]
     rfl
    refine take_ (i := 8) (N := some 30) (v := ?_) (a' := ?_) #[true, true, true, true, true, true, true, true, true, false, false, true, true, false, true, true, false, false, false, false, false, false] rfl rfl (kBX HT_.out HW_.out (by kernel_rfl)) (fun _ _ _ h => h) (Or.inl ⟨by rfl, ?_⟩) hHeld ?_ ?_
    rotate_left
    ·rintro w' ⟨s0, s1, s2, s3, s4, s5⟩
     go_simp
     with_reducible rfl
    rotate_left
    ·simp only [Act.put, kzB, kzC, kzD, kAX, kAY]
     rfl
    refine take_ (i := 13) (N := some 35) (v := ?_) (a' := ?_) #[true, true, true, true, true, true, true, true, true, false, false, true, true, true, true, true, false, false, false, false, false, false] rfl rfl (kBX HT_.out HW_.out (by kernel_rfl)) (fun _ _ _ h => h) (Or.inl ⟨by rfl, ?_⟩) hHeld ?_ ?_
    rotate_left
    ·rintro w' ⟨s0, s1, s2, s3, s4, s5⟩
     go_simp
     with_reducible rfl
    rotate_left
    ·simp only [Act.put, kzB, kzC, kzD, kAX, kAY]
     rfl
    refine take_ (i := 16) (N := some 38) (v := ?_) (a' := ?_) #[true, true, true, true, true, true, true, true, true, false, false, true, true, true, true, true, true, false, false, false, false, false] rfl rfl (kBX HT_.out HW_.out (by kernel_rfl)) (fun _ _ _ h => h) (Or.inl ⟨by rfl, ?_⟩) hHeld ?_ ?_
    rotate_left
    ·rintro w' ⟨s0, s1, s2, s3, s4, s5⟩
     go_simp
     with_reducible rfl
    rotate_left
    ·simp only [Act.put, kzB, kzC, kzD, kAX, kAY]
     rfl
    refine join_ (σ := Value × Value × Value) 4 #[true, true, true, true, true, true, true, true, true, true, true, true, true, true, true, true, true, true, false, false, false, false] (fun s_ => [(31, s_.1), (32, s_.2.1), (39, s_.2.2)]) (fun s_ w' => (w'.cell? ⟨gb135, 0, none⟩ = some (.int .i64 a0_0) ∧ w'.cell? ⟨gb135, 1, none⟩ = some (.int .i64 a0_1) ∧ w'.cell? ⟨gb135, 2, none⟩ = some (.int .i64 a0_2) ∧ w'.cell? ⟨gb135, 3, none⟩ = some (.int .i64 a0_3) ∧ w'.cell? ⟨gb135, 4, none⟩ = some (.int .i64 a0_4) ∧ w'.cell? ⟨gb135, 5, none⟩ = some (.slice A0_5 l0_5.length c0_5)) ∧ (Kd.V (Kd.int .u8) 5 w' w.heap.size (fun k_ => (P1_ k_ ∨ w.heap.size ≤ k_) ∧ some k_ ≠ (s_.1 : Value).ownBlock ∧ some k_ ≠ (s_.2.1 : Value).ownBlock ∧ some k_ ≠ (s_.2.2 : Value).ownBlock ∧ k_ ≠ gb135) v139 y138) ∧ (Kd.R (Kd.int .i64) 3 w' w.heap.size (fun k_ => (w.heap.size ≤ k_) ∧ some k_ ≠ (s_.2.2 : Value).ownBlock) s_.1 y141) ∧ (Kd.R (Kd.int .u8) 5 w' w.heap.size (fun k_ => (w.heap.size ≤ k_)) s_.2.1 t144) ∧ (Kd.R (Kd.int .i64) 3 w' w.heap.size (fun k_ => (w.heap.size ≤ k_) ∧ some k_ ≠ (s_.1 : Value).ownBlock) s_.2.2 y147) ∧ (Kd.V (Kd.int .u8) 5 w' w.heap.size (fun k_ => (P1_ k_ ∨ w.heap.size ≤ k_) ∧ some k_ ≠ (s_.1 : Value).ownBlock ∧ some k_ ≠ (s_.2.1 : Value).ownBlock ∧ some k_ ≠ (s_.2.2 : Value).ownBlock ∧ k_ ≠ gb135) (.slice A1 l1.length c1) l1) ∧ (w'.heap[gb135]? = some (.cells #[.int .i64 a0_0, .int .i64 a0_1, .int .i64 a0_2, .int .i64 a0_3, .int .i64 a0_4, .slice A0_5 l0_5.length c0_5] 26 (0, 0))) ∧ (Below w.heap.size w w')) ?_ ?_
    rotate_left
    ·intro hCont
     refine two_ (i := 9) (j := 17) (Ni := some 31) (Nj := some 39) #[true, true, true, true, true, true, true, true, true, true, false, true, true, true, true, true, true, false, false, false, false, false] #[true, true, true, true, true, true, true, true, true, false, false, true, true, true, true, true, true, true, false, false, false, false] rfl rfl rfl rfl (two_of HT_.out (by kernel_rfl)) (by decide) (by decide) (fun K hK => ?_) (fun K hK => ?_)
     ·skip
      refine Kd.R_lit_step (Kd.int .i64) _ 3 ?hg (N := 31) ?hd (xs := ([1, a0_0, a0_1, a0_4] : List Int)) (inner := [.int .i64 1, .int .i64 a0_0, .int .i64 a0_1, .int .i64 a0_4]) (ok := fun _ => True) (okp := fun _ => True) ?hr ?hp (fun _ hk => hk) trivial (Below.refl _ _) (Nat.le_refl _) (by simp) ?_; (case hd => rfl); (case hg => rfl); (case hr => first | (go_simp; done) | (go_simp; rfl)); (case hp => exact (Reps.one (show Kd.M (Kd.int .i64) _ _ _ 1 [.int .i64 1] from rfl) (Reps.one (show Kd.M (Kd.int .i64) _ _ _ a0_0 [.int .i64 a0_0] from rfl) (Reps.one (show Kd.M (Kd.int .i64) _ _ _ a0_1 [.int .i64 a0_1] from rfl) (Reps.one (show Kd.M (Kd.int .i64) _ _ _ a0_4 [.int .i64 a0_4] from rfl) (Reps.none _ _))))))
      intro v142 w21 ho22 hb hg_ hnew_
      clear hg_ hnew_
      (first | rw [← Ny141.out] at ho22 | (simp only [Int.reduceToNat] at ho22; rw [← Ny141.out] at ho22))
      have n0_ := kzA (Kd.V_elder' (by (with_reducible repeat (first | apply Kd.kAT | apply Kd.kAS | apply Kd.kAZ)); exact HO_1.out) (Kd.kBK ho22) hb)
      have n1_ := kzA (Kd.V_elder' (by (with_reducible repeat (first | apply Kd.kAT | apply Kd.kAS | apply Kd.kAZ)); exact HO140.out) (Kd.kBK ho22) hb)
      have n2_ := kzA (Kd.kBO (Kd.R_newM (M := fun k_ => (w.heap.size ≤ k_)) ho22 (kAJ (by repeat (first | (with_reducible first | exact HB.out | apply kAB | apply kAA | apply kAC | refine kAF ?_ GE135.out) | exact HB.out))) (fun k_ h_ => h_)) (kAJ (by repeat (first | (with_reducible first | exact HB.out | apply kAB | apply kAA | apply kAC | refine kAF ?_ GE135.out) | exact HB.out))))
      have n3_ := kzA (kAL (g := gb135) (o := .cells #[.int .i64 a0_0, .int .i64 a0_1, .int .i64 a0_2, .int .i64 a0_3, .int .i64 a0_4, .slice A0_5 l0_5.length c0_5] 26 (0, 0)) (by (with_reducible repeat (first | refine kAH ?_ _ | refine kAI ?_ | refine kAG ?_ _)); exact BK135.out) hb)
      have n4_ := kzA (kAK (by repeat (first | (with_reducible first | exact HB.out | apply kAB | apply kAA | apply kAC | refine kAF ?_ GE135.out) | exact HB.out)) hb)
      clear HO_1
      clear HO140
      clear BK135
      clear HB
      have HO_1 := n0_
      have HO140 := n1_
      have HO143 := n2_
      have BK135 := n3_
      have HB := n4_
      clear n0_ n1_ n2_ n3_ n4_
      clear hb ho22
      obtain ⟨Ao23, co23, eo23⟩ := Kd.kCK HO143.out
      (first | subst eo23 | (injection eo23 with f1_ f2_ f3_; have f4_ := f1_.symm; have f5_ := f3_.symm; clear f1_ f2_ f3_; subst f4_; subst f5_))
      refine hK.out _ _ ⟨(kAD BK135.out 0).trans rfl, (kAD BK135.out 1).trans rfl, (kAD BK135.out 2).trans rfl, (kAD BK135.out 3).trans rfl, (kAD BK135.out 4).trans rfl, (kAD BK135.out 5).trans rfl⟩ (fun hHeld => ?_)
      clear hK K
      refine norm_ (a' := ?_) ?_ ?_
      rotate_left
      ·show Act.put _ (some 31) _ = _
       simp only [Act.put, kzB, kzC, kzD, kAX, kAY]
       rfl
      refine two_ (i := 10) (j := 17) (Ni := some 32) (Nj := some 39) #[true, true, true, true, true, true, true, true, true, true, true, true, true, true, true, true, true, false, false, false, false, false] #[true, true, true, true, true, true, true, true, true, true, false, true, true, true, true, true, true, true, false, false, false, false] rfl rfl rfl rfl (two_of HT_.out (by kernel_rfl)) (by decide) (by decide) (fun K hK => ?_) (fun K hK => ?_)
      ·skip
       refine goes_ Tryd.func26 (by kernel_rfl) rfl #[.slice Ao23 y141.length co23, .int .i64 2] (by rfl) rfl rfl (by (try simp only [List.map_toArray, List.map_cons, List.map_nil]); first | done | rfl | (simp only [List.length_drop, List.length_take]; rfl)) ?_
       with_reducible refine (seal_lay_int.calls kj2 _ _ y141 2 t144 _ ?side1 ?side2 A15.out).mono ?_
       (case side1 => repeat (first | exact (Kd.R_reads' HO143.out).2.2 | (with_reducible refine Kd.kBH ?_ _) | (with_reducible refine Kd.kBF ?_ _) | (with_reducible refine Kd.kBM ?_)))
       (case side2 => exact (Kd.R_reads' HO143.out).2.1)
       rintro e w24 ⟨v145, rfl, ho0, hb⟩
       refine ⟨_, rfl, ?_⟩
       have n0_ := kzA (Kd.V_elder' (by (with_reducible repeat (first | apply Kd.kAT | apply Kd.kAS | apply Kd.kAZ)); exact HO_1.out) (Kd.kBK ho0) hb)
       have n1_ := kzA (Kd.V_elder' (by (with_reducible repeat (first | apply Kd.kAT | apply Kd.kAS | apply Kd.kAZ)); exact HO140.out) (Kd.kBK ho0) hb)
       have n2_ := kzA (Kd.kBJ (by (with_reducible repeat (first | apply Kd.kAP | apply Kd.kAO | apply Kd.kAR)); exact HO143.out) hb)
       have n3_ := kzA (Kd.kBO (Kd.R_newM (M := fun k_ => (w.heap.size ≤ k_)) ho0 (kAJ (by repeat (first | (with_reducible first | exact HB.out | apply kAB | apply kAA | apply kAC | refine kAF ?_ GE135.out) | exact HB.out))) (fun k_ h_ => h_)) (kAJ (by repeat (first | (with_reducible first | exact HB.out | apply kAB | apply kAA | apply kAC | refine kAF ?_ GE135.out) | exact HB.out))))
       have n4_ := kzA (kAL (g := gb135) (o := .cells #[.int .i64 a0_0, .int .i64 a0_1, .int .i64 a0_2, .int .i64 a0_3, .int .i64 a0_4, .slice A0_5 l0_5.length c0_5] 26 (0, 0)) (by (with_reducible repeat (first | refine kAH ?_ _ | refine kAI ?_ | refine kAG ?_ _)); exact BK135.out) hb)
       have n5_ := kzA (kAK (by repeat (first | (with_reducible first | exact HB.out | apply kAB | apply kAA | apply kAC | refine kAF ?_ GE135.out) | exact HB.out)) hb)
       clear HO_1
       clear HO140
       clear HO143
       clear BK135
       clear HB
       have HO_1 := n0_
       have HO140 := n1_
       have HO143 := n2_
       have HO146 := n3_
       have BK135 := n4_
       have HB := n5_
       clear n0_ n1_ n2_ n3_ n4_ n5_
       (try clear hb)
       (try clear hb2)
       (try clear hk)
       (try clear hi)
       (try clear ho0)
       refine hK.out _ _ ⟨(kAD BK135.out 0).trans rfl, (kAD BK135.out 1).trans rfl, (kAD BK135.out 2).trans rfl, (kAD BK135.out 3).trans rfl, (kAD BK135.out 4).trans rfl, (kAD BK135.out 5).trans rfl⟩ (fun hHeld => ?_)
       clear hK K
       refine norm_ (a' := ?_) ?_ ?_
       rotate_left
       ·show Act.put _ (some 32) _ = _
        simp only [Act.put, kzB, kzC, kzD, kAX, kAY]
        rfl
       refine one_ (i := 17) (N := some 39) #[true, true, true, true, true, true, true, true, true, true, true, true, true, true, true, true, true, true, false, false, false, false] rfl rfl (one_of HT_.out (by kernel_rfl)) (by decide) (fun K hK => ?_)
       refine Kd.R_lit_step (Kd.int .i64) _ 3 ?hg (N := 39) ?hd (xs := ([a0_2, a0_3] : List Int)) (inner := [.int .i64 a0_2, .int .i64 a0_3]) (ok := fun _ => True) (okp := fun _ => True) ?hr ?hp (fun _ hk => hk) trivial (Below.refl _ _) (Nat.le_refl _) (by simp) ?_; (case hd => rfl); (case hg => rfl); (case hr => first | (go_simp; done) | (go_simp; rfl)); (case hp => exact (Reps.one (show Kd.M (Kd.int .i64) _ _ _ a0_2 [.int .i64 a0_2] from rfl) (Reps.one (show Kd.M (Kd.int .i64) _ _ _ a0_3 [.int .i64 a0_3] from rfl) (Reps.none _ _))))
       intro v148 w25 ho26 hb hg_ hnew_
       clear hg_ hnew_
       (first | rw [← Ny147.out] at ho26 | (simp only [Int.reduceToNat] at ho26; rw [← Ny147.out] at ho26))
       have n0_ := kzA (Kd.V_elder' (by (with_reducible repeat (first | apply Kd.kAT | apply Kd.kAS | apply Kd.kAZ)); exact HO_1.out) (Kd.kBK ho26) hb)
       have n1_ := kzA (Kd.V_elder' (by (with_reducible repeat (first | apply Kd.kAT | apply Kd.kAS | apply Kd.kAZ)); exact HO140.out) (Kd.kBK ho26) hb)
       have n2_ := kzA (Kd.R_elder' (by (with_reducible repeat (first | apply Kd.kAP | apply Kd.kAO | apply Kd.kAR)); exact HO143.out) (Kd.kBK ho26) hb)
       have n3_ := kzA (Kd.kBJ (by (with_reducible repeat (first | apply Kd.kAP | apply Kd.kAO | apply Kd.kAR)); exact HO146.out) hb)
       have n4_ := kzA (Kd.kBO (Kd.R_new' (Kd.R_newM (M := fun k_ => (w.heap.size ≤ k_)) ho26 (kAJ (by repeat (first | (with_reducible first | exact HB.out | apply kAB | apply kAA | apply kAC | refine kAF ?_ GE135.out) | exact HB.out))) (fun k_ h_ => h_)) (Kd.R_lt (by (with_reducible repeat (first | apply Kd.kAP | apply Kd.kAO | apply Kd.kAR)); exact HO143.out))) (kAJ (by repeat (first | (with_reducible first | exact HB.out | apply kAB | apply kAA | apply kAC | refine kAF ?_ GE135.out) | exact HB.out))))
       have n5_ := kzA (kAL (g := gb135) (o := .cells #[.int .i64 a0_0, .int .i64 a0_1, .int .i64 a0_2, .int .i64 a0_3, .int .i64 a0_4, .slice A0_5 l0_5.length c0_5] 26 (0, 0)) (by (with_reducible repeat (first | refine kAH ?_ _ | refine kAI ?_ | refine kAG ?_ _)); exact BK135.out) hb)
       have n6_ := kzA (kAK (by repeat (first | (with_reducible first | exact HB.out | apply kAB | apply kAA | apply kAC | refine kAF ?_ GE135.out) | exact HB.out)) hb)
       clear HO_1
       clear HO140
       clear HO143
       clear HO146
       clear BK135
       clear HB
       have HO_1 := n0_
       have HO140 := n1_
       have HO143 := n2_
       have HO146 := n3_
       have HO149 := n4_
       have BK135 := n5_
       have HB := n6_
       clear n0_ n1_ n2_ n3_ n4_ n5_ n6_
       clear hb ho26
       refine hK.out _ _ ⟨(kAD BK135.out 0).trans rfl, (kAD BK135.out 1).trans rfl, (kAD BK135.out 2).trans rfl, (kAD BK135.out 3).trans rfl, (kAD BK135.out 4).trans rfl, (kAD BK135.out 5).trans rfl⟩ (fun hHeld => ?_)
       clear hK K
       refine norm_ (a' := ?_) ?_ ?_
       rotate_left
       ·show Act.put _ (some 39) _ = _
        simp only [Act.put, kzB, kzC, kzD, kAX, kAY]
        rfl
       exact norm_ (by simp only [putAll, Act.put, kzB, kzC, kzD]) (hCont (.slice Ao23 y141.length co23, v145, v148) _ ⟨hHeld, (by (with_reducible repeat (first | apply Kd.kAT | apply Kd.kAS | apply Kd.kAZ)); exact Kd.kBV HO140.out (fun _ hk => ⟨hk.1.1.1.1, ⟨hk.1.1.2, ⟨hk.1.2, ⟨hk.2, hk.1.1.1.2⟩⟩⟩⟩)), (by (with_reducible repeat (first | apply Kd.kAP | apply Kd.kAO | apply Kd.kAR)); exact Kd.kBL HO143.out (fun _ hk => ⟨hk.1.1, hk.2⟩)), (by (with_reducible repeat (first | apply Kd.kAP | apply Kd.kAO | apply Kd.kAR)); exact Kd.kBL HO146.out (fun _ hk => hk.1)), (by (with_reducible repeat (first | apply Kd.kAP | apply Kd.kAO | apply Kd.kAR)); exact Kd.kBL HO149.out (fun _ hk => ⟨hk.1.1, hk.2⟩)), (by (with_reducible repeat (first | apply Kd.kAT | apply Kd.kAS | apply Kd.kAZ)); exact Kd.kBV HO_1.out (fun _ hk => ⟨hk.1.1.1.1, ⟨hk.1.1.2, ⟨hk.1.2, ⟨hk.2, hk.1.1.1.2⟩⟩⟩⟩)), (by (with_reducible repeat (first | refine kAH ?_ _ | refine kAI ?_ | refine kAG ?_ _)); exact BK135.out), (by repeat (first | (with_reducible first | exact HB.out | apply kAB | apply kAA | apply kAC | refine kAF ?_ GE135.out) | exact HB.out))⟩)
      ·skip
       refine Kd.R_lit_step (Kd.int .i64) _ 3 ?hg (N := 39) ?hd (xs := ([a0_2, a0_3] : List Int)) (inner := [.int .i64 a0_2, .int .i64 a0_3]) (ok := fun _ => True) (okp := fun _ => True) ?hr ?hp (fun _ hk => hk) trivial (Below.refl _ _) (Nat.le_refl _) (by simp) ?_; (case hd => rfl); (case hg => rfl); (case hr => first | (go_simp; done) | (go_simp; rfl)); (case hp => exact (Reps.one (show Kd.M (Kd.int .i64) _ _ _ a0_2 [.int .i64 a0_2] from rfl) (Reps.one (show Kd.M (Kd.int .i64) _ _ _ a0_3 [.int .i64 a0_3] from rfl) (Reps.none _ _))))
       intro v148 w23 ho24 hb hg_ hnew_
       clear hg_ hnew_
       (first | rw [← Ny147.out] at ho24 | (simp only [Int.reduceToNat] at ho24; rw [← Ny147.out] at ho24))
       have n0_ := kzA (Kd.V_elder' (by (with_reducible repeat (first | apply Kd.kAT | apply Kd.kAS | apply Kd.kAZ)); exact HO_1.out) (Kd.kBK ho24) hb)
       have n1_ := kzA (Kd.V_elder' (by (with_reducible repeat (first | apply Kd.kAT | apply Kd.kAS | apply Kd.kAZ)); exact HO140.out) (Kd.kBK ho24) hb)
       have n2_ := kzA (Kd.R_elder' (by (with_reducible repeat (first | apply Kd.kAP | apply Kd.kAO | apply Kd.kAR)); exact HO143.out) (Kd.kBK ho24) hb)
       have n3_ := kzA (Kd.kBO (Kd.R_new' (Kd.R_newM (M := fun k_ => (w.heap.size ≤ k_)) ho24 (kAJ (by repeat (first | (with_reducible first | exact HB.out | apply kAB | apply kAA | apply kAC | refine kAF ?_ GE135.out) | exact HB.out))) (fun k_ h_ => h_)) (Kd.R_lt (by (with_reducible repeat (first | apply Kd.kAP | apply Kd.kAO | apply Kd.kAR)); exact HO143.out))) (kAJ (by repeat (first | (with_reducible first | exact HB.out | apply kAB | apply kAA | apply kAC | refine kAF ?_ GE135.out) | exact HB.out))))
       have n4_ := kzA (kAL (g := gb135) (o := .cells #[.int .i64 a0_0, .int .i64 a0_1, .int .i64 a0_2, .int .i64 a0_3, .int .i64 a0_4, .slice A0_5 l0_5.length c0_5] 26 (0, 0)) (by (with_reducible repeat (first | refine kAH ?_ _ | refine kAI ?_ | refine kAG ?_ _)); exact BK135.out) hb)
       have n5_ := kzA (kAK (by repeat (first | (with_reducible first | exact HB.out | apply kAB | apply kAA | apply kAC | refine kAF ?_ GE135.out) | exact HB.out)) hb)
       clear HO_1
       clear HO140
       clear HO143
       clear BK135
       clear HB
       have HO_1 := n0_
       have HO140 := n1_
       have HO143 := n2_
       have HO149 := n3_
       have BK135 := n4_
       have HB := n5_
       clear n0_ n1_ n2_ n3_ n4_ n5_
       clear hb ho24
       obtain ⟨Ao25, co25, eo25⟩ := Kd.kCK HO143.out
       (first | subst eo25 | (injection eo25 with f1_ f2_ f3_; have f4_ := f1_.symm; have f5_ := f3_.symm; clear f1_ f2_ f3_; subst f4_; subst f5_))
       refine hK.out _ _ ⟨(kAD BK135.out 0).trans rfl, (kAD BK135.out 1).trans rfl, (kAD BK135.out 2).trans rfl, (kAD BK135.out 3).trans rfl, (kAD BK135.out 4).trans rfl, (kAD BK135.out 5).trans rfl⟩ (fun hHeld => ?_)
       clear hK K
       refine norm_ (a' := ?_) ?_ ?_
       rotate_left
       ·show Act.put _ (some 39) _ = _
        simp only [Act.put, kzB, kzC, kzD, kAX, kAY]
        rfl
       refine one_ (i := 10) (N := some 32) #[true, true, true, true, true, true, true, true, true, true, true, true, true, true, true, true, true, true, false, false, false, false] rfl rfl (one_of HT_.out (by kernel_rfl)) (by decide) (fun K hK => ?_)
       refine goes_ Tryd.func26 (by kernel_rfl) rfl #[.slice Ao25 y141.length co25, .int .i64 2] (by rfl) rfl rfl (by (try simp only [List.map_toArray, List.map_cons, List.map_nil]); first | done | rfl | (simp only [List.length_drop, List.length_take]; rfl)) ?_
       with_reducible refine (seal_lay_int.calls kj2 _ _ y141 2 t144 _ ?side1 ?side2 A15.out).mono ?_
       (case side1 => repeat (first | exact (Kd.R_reads' HO143.out).2.2 | (with_reducible refine Kd.kBH ?_ _) | (with_reducible refine Kd.kBF ?_ _) | (with_reducible refine Kd.kBM ?_)))
       (case side2 => exact (Kd.R_reads' HO143.out).2.1)
       rintro e w26 ⟨v145, rfl, ho0, hb⟩
       refine ⟨_, rfl, ?_⟩
       have n0_ := kzA (Kd.V_elder' (by (with_reducible repeat (first | apply Kd.kAT | apply Kd.kAS | apply Kd.kAZ)); exact HO_1.out) (Kd.kBK ho0) hb)
       have n1_ := kzA (Kd.V_elder' (by (with_reducible repeat (first | apply Kd.kAT | apply Kd.kAS | apply Kd.kAZ)); exact HO140.out) (Kd.kBK ho0) hb)
       have n2_ := kzA (Kd.kBJ (by (with_reducible repeat (first | apply Kd.kAP | apply Kd.kAO | apply Kd.kAR)); exact HO143.out) hb)
       have n3_ := kzA (Kd.kBJ (by (with_reducible repeat (first | apply Kd.kAP | apply Kd.kAO | apply Kd.kAR)); exact HO149.out) hb)
       have n4_ := kzA (Kd.kBO (Kd.R_newM (M := fun k_ => (w.heap.size ≤ k_)) ho0 (kAJ (by repeat (first | (with_reducible first | exact HB.out | apply kAB | apply kAA | apply kAC | refine kAF ?_ GE135.out) | exact HB.out))) (fun k_ h_ => h_)) (kAJ (by repeat (first | (with_reducible first | exact HB.out | apply kAB | apply kAA | apply kAC | refine kAF ?_ GE135.out) | exact HB.out))))
       have n5_ := kzA (kAL (g := gb135) (o := .cells #[.int .i64 a0_0, .int .i64 a0_1, .int .i64 a0_2, .int .i64 a0_3, .int .i64 a0_4, .slice A0_5 l0_5.length c0_5] 26 (0, 0)) (by (with_reducible repeat (first | refine kAH ?_ _ | refine kAI ?_ | refine kAG ?_ _)); exact BK135.out) hb)
       have n6_ := kzA (kAK (by repeat (first | (with_reducible first | exact HB.out | apply kAB | apply kAA | apply kAC | refine kAF ?_ GE135.out) | exact HB.out)) hb)
       clear HO_1
       clear HO140
       clear HO143
       clear HO149
       clear BK135
       clear HB
       have HO_1 := n0_
       have HO140 := n1_
       have HO143 := n2_
       have HO149 := n3_
       have HO146 := n4_
       have BK135 := n5_
       have HB := n6_
       clear n0_ n1_ n2_ n3_ n4_ n5_ n6_
       (try clear hb)
       (try clear hb2)
       (try clear hk)
       (try clear hi)
       (try clear ho0)
       refine hK.out _ _ ⟨(kAD BK135.out 0).trans rfl, (kAD BK135.out 1).trans rfl, (kAD BK135.out 2).trans rfl, (kAD BK135.out 3).trans rfl, (kAD BK135.out 4).trans rfl, (kAD BK135.out 5).trans rfl⟩ (fun hHeld => ?_)
       clear hK K
       refine norm_ (a' := ?_) ?_ ?_
       rotate_left
       ·show Act.put _ (some 32) _ = _
        simp only [Act.put, kzB, kzC, kzD, kAX, kAY]
        rfl
       exact norm_ (by simp only [putAll, Act.put, kzB, kzC, kzD]) (hCont (.slice Ao25 y141.length co25, v145, v148) _ ⟨hHeld, (by (with_reducible repeat (first | apply Kd.kAT | apply Kd.kAS | apply Kd.kAZ)); exact Kd.kBV HO140.out (fun _ hk => ⟨hk.1.1.1.1, ⟨hk.1.1.2, ⟨hk.2, ⟨hk.1.2, hk.1.1.1.2⟩⟩⟩⟩)), (by (with_reducible repeat (first | apply Kd.kAP | apply Kd.kAO | apply Kd.kAR)); exact Kd.kBL HO143.out (fun _ hk => ⟨hk.1.1, hk.2⟩)), (by (with_reducible repeat (first | apply Kd.kAP | apply Kd.kAO | apply Kd.kAR)); exact Kd.kBL HO146.out (fun _ hk => hk.1)), (by (with_reducible repeat (first | apply Kd.kAP | apply Kd.kAO | apply Kd.kAR)); exact Kd.kBL HO149.out (fun _ hk => ⟨hk.1.1, hk.2⟩)), (by (with_reducible repeat (first | apply Kd.kAT | apply Kd.kAS | apply Kd.kAZ)); exact Kd.kBV HO_1.out (fun _ hk => ⟨hk.1.1.1.1, ⟨hk.1.1.2, ⟨hk.2, ⟨hk.1.2, hk.1.1.1.2⟩⟩⟩⟩)), (by (with_reducible repeat (first | refine kAH ?_ _ | refine kAI ?_ | refine kAG ?_ _)); exact BK135.out), (by repeat (first | (with_reducible first | exact HB.out | apply kAB | apply kAA | apply kAC | refine kAF ?_ GE135.out) | exact HB.out))⟩)
     ·skip
      refine Kd.R_lit_step (Kd.int .i64) _ 3 ?hg (N := 39) ?hd (xs := ([a0_2, a0_3] : List Int)) (inner := [.int .i64 a0_2, .int .i64 a0_3]) (ok := fun _ => True) (okp := fun _ => True) ?hr ?hp (fun _ hk => hk) trivial (Below.refl _ _) (Nat.le_refl _) (by simp) ?_; (case hd => rfl); (case hg => rfl); (case hr => first | (go_simp; done) | (go_simp; rfl)); (case hp => exact (Reps.one (show Kd.M (Kd.int .i64) _ _ _ a0_2 [.int .i64 a0_2] from rfl) (Reps.one (show Kd.M (Kd.int .i64) _ _ _ a0_3 [.int .i64 a0_3] from rfl) (Reps.none _ _))))
      intro v148 w21 ho22 hb hg_ hnew_
      clear hg_ hnew_
      (first | rw [← Ny147.out] at ho22 | (simp only [Int.reduceToNat] at ho22; rw [← Ny147.out] at ho22))
      have n0_ := kzA (Kd.V_elder' (by (with_reducible repeat (first | apply Kd.kAT | apply Kd.kAS | apply Kd.kAZ)); exact HO_1.out) (Kd.kBK ho22) hb)
      have n1_ := kzA (Kd.V_elder' (by (with_reducible repeat (first | apply Kd.kAT | apply Kd.kAS | apply Kd.kAZ)); exact HO140.out) (Kd.kBK ho22) hb)
      have n2_ := kzA (Kd.kBO (Kd.R_newM (M := fun k_ => (w.heap.size ≤ k_)) ho22 (kAJ (by repeat (first | (with_reducible first | exact HB.out | apply kAB | apply kAA | apply kAC | refine kAF ?_ GE135.out) | exact HB.out))) (fun k_ h_ => h_)) (kAJ (by repeat (first | (with_reducible first | exact HB.out | apply kAB | apply kAA | apply kAC | refine kAF ?_ GE135.out) | exact HB.out))))
      have n3_ := kzA (kAL (g := gb135) (o := .cells #[.int .i64 a0_0, .int .i64 a0_1, .int .i64 a0_2, .int .i64 a0_3, .int .i64 a0_4, .slice A0_5 l0_5.length c0_5] 26 (0, 0)) (by (with_reducible repeat (first | refine kAH ?_ _ | refine kAI ?_ | refine kAG ?_ _)); exact BK135.out) hb)
      have n4_ := kzA (kAK (by repeat (first | (with_reducible first | exact HB.out | apply kAB | apply kAA | apply kAC | refine kAF ?_ GE135.out) | exact HB.out)) hb)
      clear HO_1
      clear HO140
      clear BK135
      clear HB
      have HO_1 := n0_
      have HO140 := n1_
      have HO149 := n2_
      have BK135 := n3_
      have HB := n4_
      clear n0_ n1_ n2_ n3_ n4_
      clear hb ho22
      refine hK.out _ _ ⟨(kAD BK135.out 0).trans rfl, (kAD BK135.out 1).trans rfl, (kAD BK135.out 2).trans rfl, (kAD BK135.out 3).trans rfl, (kAD BK135.out 4).trans rfl, (kAD BK135.out 5).trans rfl⟩ (fun hHeld => ?_)
      clear hK K
      refine norm_ (a' := ?_) ?_ ?_
      rotate_left
      ·show Act.put _ (some 39) _ = _
       simp only [Act.put, kzB, kzC, kzD, kAX, kAY]
       rfl
      refine one_ (i := 9) (N := some 31) #[true, true, true, true, true, true, true, true, true, true, false, true, true, true, true, true, true, true, false, false, false, false] rfl rfl (one_of HT_.out (by kernel_rfl)) (by decide) (fun K hK => ?_)
      refine Kd.R_lit_step (Kd.int .i64) _ 3 ?hg (N := 31) ?hd (xs := ([1, a0_0, a0_1, a0_4] : List Int)) (inner := [.int .i64 1, .int .i64 a0_0, .int .i64 a0_1, .int .i64 a0_4]) (ok := fun _ => True) (okp := fun _ => True) ?hr ?hp (fun _ hk => hk) trivial (Below.refl _ _) (Nat.le_refl _) (by simp) ?_; (case hd => rfl); (case hg => rfl); (case hr => first | (go_simp; done) | (go_simp; rfl)); (case hp => exact (Reps.one (show Kd.M (Kd.int .i64) _ _ _ 1 [.int .i64 1] from rfl) (Reps.one (show Kd.M (Kd.int .i64) _ _ _ a0_0 [.int .i64 a0_0] from rfl) (Reps.one (show Kd.M (Kd.int .i64) _ _ _ a0_1 [.int .i64 a0_1] from rfl) (Reps.one (show Kd.M (Kd.int .i64) _ _ _ a0_4 [.int .i64 a0_4] from rfl) (Reps.none _ _))))))
      intro v142 w23 ho24 hb hg_ hnew_
      clear hg_ hnew_
      (first | rw [← Ny141.out] at ho24 | (simp only [Int.reduceToNat] at ho24; rw [← Ny141.out] at ho24))
      have n0_ := kzA (Kd.V_elder' (by (with_reducible repeat (first | apply Kd.kAT | apply Kd.kAS | apply Kd.kAZ)); exact HO_1.out) (Kd.kBK ho24) hb)
      have n1_ := kzA (Kd.V_elder' (by (with_reducible repeat (first | apply Kd.kAT | apply Kd.kAS | apply Kd.kAZ)); exact HO140.out) (Kd.kBK ho24) hb)
      have n2_ := kzA (Kd.R_elder' (by (with_reducible repeat (first | apply Kd.kAP | apply Kd.kAO | apply Kd.kAR)); exact HO149.out) (Kd.kBK ho24) hb)
      have n3_ := kzA (Kd.kBO (Kd.R_new' (Kd.R_newM (M := fun k_ => (w.heap.size ≤ k_)) ho24 (kAJ (by repeat (first | (with_reducible first | exact HB.out | apply kAB | apply kAA | apply kAC | refine kAF ?_ GE135.out) | exact HB.out))) (fun k_ h_ => h_)) (Kd.R_lt (by (with_reducible repeat (first | apply Kd.kAP | apply Kd.kAO | apply Kd.kAR)); exact HO149.out))) (kAJ (by repeat (first | (with_reducible first | exact HB.out | apply kAB | apply kAA | apply kAC | refine kAF ?_ GE135.out) | exact HB.out))))
      have n4_ := kzA (kAL (g := gb135) (o := .cells #[.int .i64 a0_0, .int .i64 a0_1, .int .i64 a0_2, .int .i64 a0_3, .int .i64 a0_4, .slice A0_5 l0_5.length c0_5] 26 (0, 0)) (by (with_reducible repeat (first | refine kAH ?_ _ | refine kAI ?_ | refine kAG ?_ _)); exact BK135.out) hb)
      have n5_ := kzA (kAK (by repeat (first | (with_reducible first | exact HB.out | apply kAB | apply kAA | apply kAC | refine kAF ?_ GE135.out) | exact HB.out)) hb)
      clear HO_1
      clear HO140
      clear HO149
      clear BK135
      clear HB
      have HO_1 := n0_
      have HO140 := n1_
      have HO149 := n2_
      have HO143 := n3_
      have BK135 := n4_
      have HB := n5_
      clear n0_ n1_ n2_ n3_ n4_ n5_
      clear hb ho24
      obtain ⟨Ao25, co25, eo25⟩ := Kd.kCK HO143.out
      (first | subst eo25 | (injection eo25 with f1_ f2_ f3_; have f4_ := f1_.symm; have f5_ := f3_.symm; clear f1_ f2_ f3_; subst f4_; subst f5_))
      refine hK.out _ _ ⟨(kAD BK135.out 0).trans rfl, (kAD BK135.out 1).trans rfl, (kAD BK135.out 2).trans rfl, (kAD BK135.out 3).trans rfl, (kAD BK135.out 4).trans rfl, (kAD BK135.out 5).trans rfl⟩ (fun hHeld => ?_)
      clear hK K
      refine norm_ (a' := ?_) ?_ ?_
      rotate_left
      ·show Act.put _ (some 31) _ = _
       simp only [Act.put, kzB, kzC, kzD, kAX, kAY]
       rfl
      refine one_ (i := 10) (N := some 32) #[true, true, true, true, true, true, true, true, true, true, true, true, true, true, true, true, true, true, false, false, false, false] rfl rfl (one_of HT_.out (by kernel_rfl)) (by decide) (fun K hK => ?_)
      refine goes_ Tryd.func26 (by kernel_rfl) rfl #[.slice Ao25 y141.length co25, .int .i64 2] (by rfl) rfl rfl (by (try simp only [List.map_toArray, List.map_cons, List.map_nil]); first | done | rfl | (simp only [List.length_drop, List.length_take]; rfl)) ?_
      with_reducible refine (seal_lay_int.calls kj2 _ _ y141 2 t144 _ ?side1 ?side2 A15.out).mono ?_
      (case side1 => repeat (first | exact (Kd.R_reads' HO143.out).2.2 | (with_reducible refine Kd.kBH ?_ _) | (with_reducible refine Kd.kBF ?_ _) | (with_reducible refine Kd.kBM ?_)))
      (case side2 => exact (Kd.R_reads' HO143.out).2.1)
      rintro e w26 ⟨v145, rfl, ho0, hb⟩
      refine ⟨_, rfl, ?_⟩
      have n0_ := kzA (Kd.V_elder' (by (with_reducible repeat (first | apply Kd.kAT | apply Kd.kAS | apply Kd.kAZ)); exact HO_1.out) (Kd.kBK ho0) hb)
      have n1_ := kzA (Kd.V_elder' (by (with_reducible repeat (first | apply Kd.kAT | apply Kd.kAS | apply Kd.kAZ)); exact HO140.out) (Kd.kBK ho0) hb)
      have n2_ := kzA (Kd.kBJ (by (with_reducible repeat (first | apply Kd.kAP | apply Kd.kAO | apply Kd.kAR)); exact HO149.out) hb)
      have n3_ := kzA (Kd.kBJ (by (with_reducible repeat (first | apply Kd.kAP | apply Kd.kAO | apply Kd.kAR)); exact HO143.out) hb)
      have n4_ := kzA (Kd.kBO (Kd.R_newM (M := fun k_ => (w.heap.size ≤ k_)) ho0 (kAJ (by repeat (first | (with_reducible first | exact HB.out | apply kAB | apply kAA | apply kAC | refine kAF ?_ GE135.out) | exact HB.out))) (fun k_ h_ => h_)) (kAJ (by repeat (first | (with_reducible first | exact HB.out | apply kAB | apply kAA | apply kAC | refine kAF ?_ GE135.out) | exact HB.out))))
      have n5_ := kzA (kAL (g := gb135) (o := .cells #[.int .i64 a0_0, .int .i64 a0_1, .int .i64 a0_2, .int .i64 a0_3, .int .i64 a0_4, .slice A0_5 l0_5.length c0_5] 26 (0, 0)) (by (with_reducible repeat (first | refine kAH ?_ _ | refine kAI ?_ | refine kAG ?_ _)); exact BK135.out) hb)
      have n6_ := kzA (kAK (by repeat (first | (with_reducible first | exact HB.out | apply kAB | apply kAA | apply kAC | refine kAF ?_ GE135.out) | exact HB.out)) hb)
      clear HO_1
      clear HO140
      clear HO149
      clear HO143
      clear BK135
      clear HB
      have HO_1 := n0_
      have HO140 := n1_
      have HO149 := n2_
      have HO143 := n3_
      have HO146 := n4_
      have BK135 := n5_
      have HB := n6_
      clear n0_ n1_ n2_ n3_ n4_ n5_ n6_
      (try clear hb)
      (try clear hb2)
      (try clear hk)
      (try clear hi)
      (try clear ho0)
      refine hK.out _ _ ⟨(kAD BK135.out 0).trans rfl, (kAD BK135.out 1).trans rfl, (kAD BK135.out 2).trans rfl, (kAD BK135.out 3).trans rfl, (kAD BK135.out 4).trans rfl, (kAD BK135.out 5).trans rfl⟩ (fun hHeld => ?_)
      clear hK K
      refine norm_ (a' := ?_) ?_ ?_
      rotate_left
      ·show Act.put _ (some 32) _ = _
       simp only [Act.put, kzB, kzC, kzD, kAX, kAY]
       rfl
      exact norm_ (by simp only [putAll, Act.put, kzB, kzC, kzD]) (hCont (.slice Ao25 y141.length co25, v145, v148) _ ⟨hHeld, (by (with_reducible repeat (first | apply Kd.kAT | apply Kd.kAS | apply Kd.kAZ)); exact Kd.kBV HO140.out (fun _ hk => ⟨hk.1.1.1.1, ⟨hk.1.2, ⟨hk.2, ⟨hk.1.1.2, hk.1.1.1.2⟩⟩⟩⟩)), (by (with_reducible repeat (first | apply Kd.kAP | apply Kd.kAO | apply Kd.kAR)); exact Kd.kBL HO143.out (fun _ hk => ⟨hk.1.1, hk.2⟩)), (by (with_reducible repeat (first | apply Kd.kAP | apply Kd.kAO | apply Kd.kAR)); exact Kd.kBL HO146.out (fun _ hk => hk.1)), (by (with_reducible repeat (first | apply Kd.kAP | apply Kd.kAO | apply Kd.kAR)); exact Kd.kBL HO149.out (fun _ hk => ⟨hk.1.1, hk.2⟩)), (by (with_reducible repeat (first | apply Kd.kAT | apply Kd.kAS | apply Kd.kAZ)); exact Kd.kBV HO_1.out (fun _ hk => ⟨hk.1.1.1.1, ⟨hk.1.2, ⟨hk.2, ⟨hk.1.1.2, hk.1.1.1.2⟩⟩⟩⟩)), (by (with_reducible repeat (first | refine kAH ?_ _ | refine kAI ?_ | refine kAG ?_ _)); exact BK135.out), (by repeat (first | (with_reducible first | exact HB.out | apply kAB | apply kAA | apply kAC | refine kAF ?_ GE135.out) | exact HB.out))⟩)
    rintro ⟨v142, v145, v148⟩ w27 ⟨hS_, h0_, h1_, h2_, h3_, h4_, h5_, h6_⟩
    have n0_ : Aside0 (Kd.V (Kd.int .u8) 5 w27 w.heap.size (fun k_ => (P1_ k_ ∨ w.heap.size ≤ k_) ∧ some k_ ≠ (v142 : Value).ownBlock ∧ some k_ ≠ (v145 : Value).ownBlock ∧ some k_ ≠ (v148 : Value).ownBlock ∧ k_ ≠ gb135) v139 y138) := ⟨h0_⟩
    have n1_ : Aside0 (Kd.R (Kd.int .i64) 3 w27 w.heap.size (fun k_ => (w.heap.size ≤ k_) ∧ some k_ ≠ (v148 : Value).ownBlock) v142 y141) := ⟨h1_⟩
    have n2_ : Aside0 (Kd.R (Kd.int .u8) 5 w27 w.heap.size (fun k_ => (w.heap.size ≤ k_)) v145 t144) := ⟨h2_⟩
    have n3_ : Aside0 (Kd.R (Kd.int .i64) 3 w27 w.heap.size (fun k_ => (w.heap.size ≤ k_) ∧ some k_ ≠ (v142 : Value).ownBlock) v148 y147) := ⟨h3_⟩
    have n4_ : Aside0 (Kd.V (Kd.int .u8) 5 w27 w.heap.size (fun k_ => (P1_ k_ ∨ w.heap.size ≤ k_) ∧ some k_ ≠ (v142 : Value).ownBlock ∧ some k_ ≠ (v145 : Value).ownBlock ∧ some k_ ≠ (v148 : Value).ownBlock ∧ k_ ≠ gb135) (.slice A1 l1.length c1) l1) := ⟨h4_⟩
    have n5_ : Aside0 (w27.heap[gb135]? = some (.cells #[.int .i64 a0_0, .int .i64 a0_1, .int .i64 a0_2, .int .i64 a0_3, .int .i64 a0_4, .slice A0_5 l0_5.length c0_5] 26 (0, 0))) := ⟨h5_⟩
    have n6_ : Aside0 (Below w.heap.size w w27) := ⟨h6_⟩
    clear HO_1
    clear HO140
    clear BK135
    clear HB
    clear h0_ h1_ h2_ h3_ h4_ h5_ h6_
    have HO140 := n0_
    have HO143 := n1_
    have HO146 := n2_
    have HO149 := n3_
    have HO_1 := n4_
    have BK135 := n5_
    have HB := n6_
    clear n0_ n1_ n2_ n3_ n4_ n5_ n6_
    have hHeld : w27.cell? ⟨gb135, 0, none⟩ = some (.int .i64 a0_0) ∧ w27.cell? ⟨gb135, 1, none⟩ = some (.int .i64 a0_1) ∧ w27.cell? ⟨gb135, 2, none⟩ = some (.int .i64 a0_2) ∧ w27.cell? ⟨gb135, 3, none⟩ = some (.int .i64 a0_3) ∧ w27.cell? ⟨gb135, 4, none⟩ = some (.int .i64 a0_4) ∧ w27.cell? ⟨gb135, 5, none⟩ = some (.slice A0_5 l0_5.length c0_5) := hS_
    obtain ⟨Ao28, co28, eo28⟩ := Kd.kCK HO149.out
    (first | subst eo28 | (injection eo28 with f1_ f2_ f3_; have f4_ := f1_.symm; have f5_ := f3_.symm; clear f1_ f2_ f3_; subst f4_; subst f5_))
    refine norm_ (a' := ?_) ?_ ?_
    rotate_left
    ·simp only [putAll, Act.put, kzB, kzC, kzD]
     rfl
    refine one_ (i := 18) (N := some 40) #[true, true, true, true, true, true, true, true, true, true, true, true, true, true, true, true, true, true, true, false, false, false] rfl rfl (one_of HT_.out (by kernel_rfl)) (by decide) (fun K hK => ?_)
    refine goes_ Tryd.func26 (by kernel_rfl) rfl #[.slice Ao28 y147.length co28, .int .i64 4] (by rfl) rfl rfl (by (try simp only [List.map_toArray, List.map_cons, List.map_nil]); first | done | rfl | (simp only [List.length_drop, List.length_take]; rfl)) ?_
    with_reducible refine (seal_lay_int.calls kj2 _ _ y147 4 t150 _ ?side1 ?side2 A16.out).mono ?_
    (case side1 => repeat (first | exact (Kd.R_reads' HO149.out).2.2 | (with_reducible refine Kd.kBH ?_ _) | (with_reducible refine Kd.kBF ?_ _) | (with_reducible refine Kd.kBM ?_)))
    (case side2 => exact (Kd.R_reads' HO149.out).2.1)
    rintro e w29 ⟨v151, rfl, ho0, hb⟩
    refine ⟨_, rfl, ?_⟩
    have n0_ := kzA (Kd.V_elder' (by (with_reducible repeat (first | apply Kd.kAT | apply Kd.kAS | apply Kd.kAZ)); exact HO_1.out) (Kd.kBK ho0) hb)
    have n1_ := kzA (Kd.V_elder' (by (with_reducible repeat (first | apply Kd.kAT | apply Kd.kAS | apply Kd.kAZ)); exact HO140.out) (Kd.kBK ho0) hb)
    have n2_ := kzA (Kd.kBJ (by (with_reducible repeat (first | apply Kd.kAP | apply Kd.kAO | apply Kd.kAR)); exact HO143.out) hb)
    have n3_ := kzA (Kd.R_elder' (by (with_reducible repeat (first | apply Kd.kAP | apply Kd.kAO | apply Kd.kAR)); exact HO146.out) (Kd.kBK ho0) hb)
    have n4_ := kzA (Kd.kBJ (by (with_reducible repeat (first | apply Kd.kAP | apply Kd.kAO | apply Kd.kAR)); exact HO149.out) hb)
    have n5_ := kzA (Kd.kBO (Kd.R_new' (Kd.R_newM (M := fun k_ => (w.heap.size ≤ k_)) ho0 (kAJ (by repeat (first | (with_reducible first | exact HB.out | apply kAB | apply kAA | apply kAC | refine kAF ?_ GE135.out) | exact HB.out))) (fun k_ h_ => h_)) (Kd.R_lt (by (with_reducible repeat (first | apply Kd.kAP | apply Kd.kAO | apply Kd.kAR)); exact HO146.out))) (kAJ (by repeat (first | (with_reducible first | exact HB.out | apply kAB | apply kAA | apply kAC | refine kAF ?_ GE135.out) | exact HB.out))))
    have n6_ := kzA (kAL (g := gb135) (o := .cells #[.int .i64 a0_0, .int .i64 a0_1, .int .i64 a0_2, .int .i64 a0_3, .int .i64 a0_4, .slice A0_5 l0_5.length c0_5] 26 (0, 0)) (by (with_reducible repeat (first | refine kAH ?_ _ | refine kAI ?_ | refine kAG ?_ _)); exact BK135.out) hb)
    have n7_ := kzA (kAK (by repeat (first | (with_reducible first | exact HB.out | apply kAB | apply kAA | apply kAC | refine kAF ?_ GE135.out) | exact HB.out)) hb)
    clear HO_1
    clear HO140
    clear HO143
    clear HO146
    clear HO149
    clear BK135
    clear HB
    have HO_1 := n0_
    have HO140 := n1_
    have HO143 := n2_
    have HO146 := n3_
    have HO149 := n4_
    have HO152 := n5_
    have BK135 := n6_
    have HB := n7_
    clear n0_ n1_ n2_ n3_ n4_ n5_ n6_ n7_
    (try clear hb)
    (try clear hb2)
    (try clear hk)
    (try clear hi)
    (try clear ho0)
    obtain ⟨Ao30, co30, eo30⟩ := Kd.V_slice HO140.out
    (first | subst eo30 | (injection eo30 with f1_ f2_ f3_; have f4_ := f1_.symm; have f5_ := f3_.symm; clear f1_ f2_ f3_; subst f4_; subst f5_))
    obtain ⟨Ao31, co31, eo31⟩ := Kd.kCK HO146.out
    (first | subst eo31 | (injection eo31 with f1_ f2_ f3_; have f4_ := f1_.symm; have f5_ := f3_.symm; clear f1_ f2_ f3_; subst f4_; subst f5_))
    obtain ⟨Ao32, co32, eo32⟩ := Kd.kCK HO152.out
    (first | subst eo32 | (injection eo32 with f1_ f2_ f3_; have f4_ := f1_.symm; have f5_ := f3_.symm; clear f1_ f2_ f3_; subst f4_; subst f5_))
    refine hK.out _ _ ⟨(kAD BK135.out 0).trans rfl, (kAD BK135.out 1).trans rfl, (kAD BK135.out 2).trans rfl, (kAD BK135.out 3).trans rfl, (kAD BK135.out 4).trans rfl, (kAD BK135.out 5).trans rfl⟩ (fun hHeld => ?_)
    clear hK K
    refine norm_ (a' := ?_) ?_ ?_
    rotate_left
    ·show Act.put _ (some 40) _ = _
     simp only [Act.put, kzB, kzC, kzD, kAX, kAY]
     rfl
    refine one_ (i := 19) (N := some 41) #[true, true, true, true, true, true, true, true, true, true, true, true, true, true, true, true, true, true, true, true, false, false] rfl rfl (one_of HT_.out (by kernel_rfl)) (by decide) (fun K hK => ?_)
    refine Kd.N_lit_step (Kd.slice 5 (Kd.int .u8)) _ 27 ?hg (N' := 41) ?hd (xs := ([y138, t144, t150] : List (List Int))) (inner := [.slice Ao30 y138.length co30, .slice Ao31 t144.length co31, .slice Ao32 t150.length co32]) (ok := (fun k_ => (P1_ k_ ∨ w.heap.size ≤ k_) ∧ some k_ ≠ (v142 : Value).ownBlock ∧ some k_ ≠ (.slice Ao28 y147.length co28 : Value).ownBlock ∧ k_ ≠ gb135)) (okp := (fun k_ => (P1_ k_ ∨ w.heap.size ≤ k_) ∧ some k_ ≠ (v142 : Value).ownBlock ∧ some k_ ≠ (.slice Ao28 y147.length co28 : Value).ownBlock ∧ k_ ≠ gb135)) ?hr ?hp (fun _ hk => hk) ((show ∀ k_, w29.heap.size ≤ k_ → (fun k_ => (P1_ k_ ∨ w.heap.size ≤ k_) ∧ some k_ ≠ (v142 : Value).ownBlock ∧ some k_ ≠ (.slice Ao28 y147.length co28 : Value).ownBlock ∧ k_ ≠ gb135) k_ from fun k_ hk => ⟨(.inr (Nat.le_trans (kAJ (by repeat (first | (with_reducible first | exact HB.out | apply kAB | apply kAA | apply kAC | refine kAF ?_ GE135.out) | exact HB.out))) hk)), Kd.fresh' (Kd.R_lt (by (with_reducible repeat (first | apply Kd.kAP | apply Kd.kAO | apply Kd.kAR)); exact HO143.out)) k_ hk, Kd.fresh' (Kd.R_lt (by (with_reducible repeat (first | apply Kd.kAP | apply Kd.kAO | apply Kd.kAR)); exact HO149.out)) k_ hk, Kd.freshB (g := gb135) (o := .cells #[.int .i64 a0_0, .int .i64 a0_1, .int .i64 a0_2, .int .i64 a0_3, .int .i64 a0_4, .slice A0_5 l0_5.length c0_5] 26 (0, 0)) (by (with_reducible repeat (first | refine kAH ?_ _ | refine kAI ?_ | refine kAG ?_ _)); exact BK135.out) k_ hk⟩) _ (Nat.le_refl _)) (Below.refl _ _) (Nat.le_refl _) (by simp) ?_; (case hd => rfl); (case hg => rfl); (case hr => first | (go_simp; done) | (go_simp; rfl)); (case hp => exact (Reps.one (show Kd.FK (Kd.slice 5 (Kd.int .u8)) _ _ y138 [.slice Ao30 y138.length co30] from (Kd.kCJ (Kd.V_reads' (Kd.kBV (ok' := (fun k_ => (P1_ k_ ∨ w.heap.size ≤ k_) ∧ some k_ ≠ (v142 : Value).ownBlock ∧ some k_ ≠ (.slice Ao28 y147.length co28 : Value).ownBlock ∧ k_ ≠ gb135)) (HO140.out) (fun k_ hk => ⟨hk.1.1, ⟨hk.1.2.1, ⟨hk.1.2.2.2.1, hk.1.2.2.2.2⟩⟩⟩))).2.1 (Kd.V_F (Kd.kBV (ok' := (fun k_ => (P1_ k_ ∨ w.heap.size ≤ k_) ∧ some k_ ≠ (v142 : Value).ownBlock ∧ some k_ ≠ (.slice Ao28 y147.length co28 : Value).ownBlock ∧ k_ ≠ gb135)) (HO140.out) (fun k_ hk => ⟨hk.1.1, ⟨hk.1.2.1, ⟨hk.1.2.2.2.1, hk.1.2.2.2.2⟩⟩⟩))))) (Reps.one (show Kd.FK (Kd.slice 5 (Kd.int .u8)) _ _ t144 [.slice Ao31 t144.length co31] from (Kd.kCJ (Kd.R_reads' (Kd.kBL (ok' := (fun k_ => (P1_ k_ ∨ w.heap.size ≤ k_) ∧ some k_ ≠ (v142 : Value).ownBlock ∧ some k_ ≠ (.slice Ao28 y147.length co28 : Value).ownBlock ∧ k_ ≠ gb135)) (Kd.kBZ (Kd.R_apart' (Kd.R_apart' (HO146.out) (Kd.R_typed HO143.out) (by decide)) (Kd.R_typed HO149.out) (by decide)) BK135.out (by decide)) (fun k_ hk => ⟨(.inr (hk.1.1.1.1)), ⟨hk.1.1.2, ⟨hk.1.2, hk.2⟩⟩⟩))).2.1 (Kd.R_F (Kd.kBL (ok' := (fun k_ => (P1_ k_ ∨ w.heap.size ≤ k_) ∧ some k_ ≠ (v142 : Value).ownBlock ∧ some k_ ≠ (.slice Ao28 y147.length co28 : Value).ownBlock ∧ k_ ≠ gb135)) (Kd.kBZ (Kd.R_apart' (Kd.R_apart' (HO146.out) (Kd.R_typed HO143.out) (by decide)) (Kd.R_typed HO149.out) (by decide)) BK135.out (by decide)) (fun k_ hk => ⟨(.inr (hk.1.1.1.1)), ⟨hk.1.1.2, ⟨hk.1.2, hk.2⟩⟩⟩))))) (Reps.one (show Kd.FK (Kd.slice 5 (Kd.int .u8)) _ _ t150 [.slice Ao32 t150.length co32] from (Kd.kCJ (Kd.R_reads' (Kd.kBL (ok' := (fun k_ => (P1_ k_ ∨ w.heap.size ≤ k_) ∧ some k_ ≠ (v142 : Value).ownBlock ∧ some k_ ≠ (.slice Ao28 y147.length co28 : Value).ownBlock ∧ k_ ≠ gb135)) (Kd.kBZ (Kd.R_apart' (Kd.R_apart' (HO152.out) (Kd.R_typed HO143.out) (by decide)) (Kd.R_typed HO149.out) (by decide)) BK135.out (by decide)) (fun k_ hk => ⟨(.inr (hk.1.1.1.1.1)), ⟨hk.1.1.2, ⟨hk.1.2, hk.2⟩⟩⟩))).2.1 (Kd.R_F (Kd.kBL (ok' := (fun k_ => (P1_ k_ ∨ w.heap.size ≤ k_) ∧ some k_ ≠ (v142 : Value).ownBlock ∧ some k_ ≠ (.slice Ao28 y147.length co28 : Value).ownBlock ∧ k_ ≠ gb135)) (Kd.kBZ (Kd.R_apart' (Kd.R_apart' (HO152.out) (Kd.R_typed HO143.out) (by decide)) (Kd.R_typed HO149.out) (by decide)) BK135.out (by decide)) (fun k_ hk => ⟨(.inr (hk.1.1.1.1.1)), ⟨hk.1.1.2, ⟨hk.1.2, hk.2⟩⟩⟩))))) (Reps.none _ _)))))
    intro v154 w33 ho34 hb hg_ hnew_
    clear hg_ hnew_
    (first | rw [← Ny153.out] at ho34 | (simp only [Int.reduceToNat] at ho34; rw [← Ny153.out] at ho34))
    have n0_ := kzA (Kd.V_elder' (by (with_reducible repeat (first | apply Kd.kAT | apply Kd.kAS | apply Kd.kAZ)); exact HO_1.out) (Kd.N_base ho34) hb)
    have n1_ := kzA (Kd.V_elder' (by (with_reducible repeat (first | apply Kd.kAT | apply Kd.kAS | apply Kd.kAZ)); exact HO140.out) (Kd.N_base ho34) hb)
    have n2_ := kzA (Kd.kBJ (by (with_reducible repeat (first | apply Kd.kAP | apply Kd.kAO | apply Kd.kAR)); exact HO143.out) hb)
    have n3_ := kzA (Kd.kBJ (by (with_reducible repeat (first | apply Kd.kAP | apply Kd.kAO | apply Kd.kAR)); exact HO149.out) hb)
    have n4_ := kzA (Kd.N_lower ho34 (kAJ (by repeat (first | (with_reducible first | exact HB.out | apply kAB | apply kAA | apply kAC | refine kAF ?_ GE135.out) | exact HB.out))))
    have n5_ := kzA (kAL (g := gb135) (o := .cells #[.int .i64 a0_0, .int .i64 a0_1, .int .i64 a0_2, .int .i64 a0_3, .int .i64 a0_4, .slice A0_5 l0_5.length c0_5] 26 (0, 0)) (by (with_reducible repeat (first | refine kAH ?_ _ | refine kAI ?_ | refine kAG ?_ _)); exact BK135.out) hb)
    have n6_ := kzA (kAK (by repeat (first | (with_reducible first | exact HB.out | apply kAB | apply kAA | apply kAC | refine kAF ?_ GE135.out) | exact HB.out)) hb)
    clear HO_1
    clear HO140
    clear HO143
    clear HO149
    clear BK135
    clear HB
    clear HO146
    clear HO152
    have HO_1 := n0_
    have HO140 := n1_
    have HO143 := n2_
    have HO149 := n3_
    have HO155 := n4_
    have BK135 := n5_
    have HB := n6_
    clear n0_ n1_ n2_ n3_ n4_ n5_ n6_
    clear hb ho34
    obtain ⟨Ao35, co35, eo35⟩ := Kd.N_slice HO155.out
    (first | subst eo35 | (injection eo35 with f1_ f2_ f3_; have f4_ := f1_.symm; have f5_ := f3_.symm; clear f1_ f2_ f3_; subst f4_; subst f5_))
    refine hK.out _ _ ⟨(kAD BK135.out 0).trans rfl, (kAD BK135.out 1).trans rfl, (kAD BK135.out 2).trans rfl, (kAD BK135.out 3).trans rfl, (kAD BK135.out 4).trans rfl, (kAD BK135.out 5).trans rfl⟩ (fun hHeld => ?_)
    clear hK K
    refine norm_ (a' := ?_) ?_ ?_
    rotate_left
    ·show Act.put _ (some 41) _ = _
     simp only [Act.put, kzB, kzC, kzD, kAX, kAY]
     rfl
    refine one_ (i := 20) (N := some 42) #[true, true, true, true, true, true, true, true, true, true, true, true, true, true, true, true, true, true, true, true, true, false] rfl rfl (one_of HT_.out (by kernel_rfl)) (by decide) (fun K hK => ?_)
    refine goes_ Tryd.func25 (by kernel_rfl) rfl #[.slice Ao35 y153.length co35] (by rfl) rfl rfl (by (try simp only [List.map_toArray, List.map_cons, List.map_nil]); first | done | rfl | (simp only [List.length_drop, List.length_take]; rfl)) ?_
    with_reducible refine (slices_Concat_byte_byte.calls kj2 _ _ y153 t156 _ ?side1 ?side2 A17.out).mono ?_
    (case side1 => repeat (first | exact (Kd.N_reads' HO155.out).2.2 | (with_reducible refine Kd.kBH ?_ _) | (with_reducible refine Kd.kBF ?_ _) | (with_reducible refine Kd.kBM ?_)))
    (case side2 => exact (Kd.N_reads' HO155.out).2.1)
    rintro e w36 ⟨v157, rfl, ho0, hb⟩
    refine ⟨_, rfl, ?_⟩
    have n0_ := kzA (Kd.V_elder' (by (with_reducible repeat (first | apply Kd.kAT | apply Kd.kAS | apply Kd.kAZ)); exact HO_1.out) (Kd.kBK ho0) hb)
    have n1_ := kzA (Kd.V_elder' (by (with_reducible repeat (first | apply Kd.kAT | apply Kd.kAS | apply Kd.kAZ)); exact HO140.out) (Kd.kBK ho0) hb)
    have n2_ := kzA (Kd.kBJ (by (with_reducible repeat (first | apply Kd.kAP | apply Kd.kAO | apply Kd.kAR)); exact HO143.out) hb)
    have n3_ := kzA (Kd.kBJ (by (with_reducible repeat (first | apply Kd.kAP | apply Kd.kAO | apply Kd.kAR)); exact HO149.out) hb)
    have n4_ := kzA (Kd.N_elder' (by (with_reducible repeat (first | apply Kd.kAW | apply Kd.kAV | apply Kd.kBC)); exact HO155.out) (Kd.kBK ho0) hb)
    have n5_ := kzA (Kd.kBO (Kd.R_newM (M := fun k_ => (w.heap.size ≤ k_)) ho0 (kAJ (by repeat (first | (with_reducible first | exact HB.out | apply kAB | apply kAA | apply kAC | refine kAF ?_ GE135.out) | exact HB.out))) (fun k_ h_ => h_)) (kAJ (by repeat (first | (with_reducible first | exact HB.out | apply kAB | apply kAA | apply kAC | refine kAF ?_ GE135.out) | exact HB.out))))
    have n6_ := kzA (kAL (g := gb135) (o := .cells #[.int .i64 a0_0, .int .i64 a0_1, .int .i64 a0_2, .int .i64 a0_3, .int .i64 a0_4, .slice A0_5 l0_5.length c0_5] 26 (0, 0)) (by (with_reducible repeat (first | refine kAH ?_ _ | refine kAI ?_ | refine kAG ?_ _)); exact BK135.out) hb)
    have n7_ := kzA (kAK (by repeat (first | (with_reducible first | exact HB.out | apply kAB | apply kAA | apply kAC | refine kAF ?_ GE135.out) | exact HB.out)) hb)
    clear HO_1
    clear HO140
    clear HO143
    clear HO149
    clear HO155
    clear BK135
    clear HB
    have HO_1 := n0_
    have HO140 := n1_
    have HO143 := n2_
    have HO149 := n3_
    have HO155 := n4_
    have HO158 := n5_
    have BK135 := n6_
    have HB := n7_
    clear n0_ n1_ n2_ n3_ n4_ n5_ n6_ n7_
    (try clear hb)
    (try clear hb2)
    (try clear hk)
    (try clear hi)
    (try clear ho0)
    refine hK.out _ _ ⟨(kAD BK135.out 0).trans rfl, (kAD BK135.out 1).trans rfl, (kAD BK135.out 2).trans rfl, (kAD BK135.out 3).trans rfl, (kAD BK135.out 4).trans rfl, (kAD BK135.out 5).trans rfl⟩ (fun hHeld => ?_)
    clear hK K
    refine norm_ (a' := ?_) ?_ ?_
    rotate_left
    ·show Act.put _ (some 42) _ = _
     simp only [Act.put, kzB, kzC, kzD, kAX, kAY]
     rfl
    refine kBN (i := 21) (N := some 6) (v := ?_) (a' := ?_) #[true, true, true, true, true, true, true, true, true, true, true, true, true, true, true, true, true, true, true, true, true, true] rfl rfl (kBG HT_.out (by kernel_rfl)) (fun _ _ _ h => h) (Or.inl ⟨by rfl, ?_⟩) ?_ ?_
    rotate_left
    ·intro w'
     go_simp
     with_reducible rfl
    rotate_left
    ·simp only [Act.put, kzB, kzC, kzD, kAX, kAY]
     rfl
    refine done_ (done_of HT_.out (by kernel_rfl)) ?_
    have hcz37_0 : w36.cell? ⟨gb135, 0, none⟩ = some (.int .i64 a0_0) := (kAD BK135.out 0).trans rfl
    have hcz37_1 : w36.cell? ⟨gb135, 1, none⟩ = some (.int .i64 a0_1) := (kAD BK135.out 1).trans rfl
    have hcz37_2 : w36.cell? ⟨gb135, 2, none⟩ = some (.int .i64 a0_2) := (kAD BK135.out 2).trans rfl
    have hcz37_3 : w36.cell? ⟨gb135, 3, none⟩ = some (.int .i64 a0_3) := (kAD BK135.out 3).trans rfl
    have hcz37_4 : w36.cell? ⟨gb135, 4, none⟩ = some (.int .i64 a0_4) := (kAD BK135.out 4).trans rfl
    have hcz37_5 : w36.cell? ⟨gb135, 5, none⟩ = some (.slice A0_5 l0_5.length c0_5) := (kAD BK135.out 5).trans rfl
    have hfz37_0 := kAE BK135.out 0
    have hfz37_1 := kAE BK135.out 1
    have hfz37_2 := kAE BK135.out 2
    have hfz37_3 := kAE BK135.out 3
    have hfz37_4 := kAE BK135.out 4
    have hfz37_5 := kAE BK135.out 5
    try go_wp2
    go_loopg [6, 46] kj2 (fun kq v6 v46 w' => ∃ (x6_2 : List Int) (x46_2 : Int), v46 = .int .i64 x46_2 ∧ Aside0 (seal_Write.l0 kq l1 x6_2 l0_5 (l0_5.length : Int) x46_2 = some (r1, r2)) ∧ Aside0 (kq ≤ kj2) ∧ Aside0 (Kd.V (Kd.int .u8) 5 w' w.heap.size (fun k_ => (P1_ k_ ∨ w.heap.size ≤ k_) ∧ some k_ ≠ (v6 : Value).ownBlock ∧ k_ ≠ gb135) (.slice A1 l1.length c1) l1) ∧ Aside0 (Kd.R (Kd.int .u8) 5 w' w.heap.size (fun k_ => (w.heap.size ≤ k_)) v6 x6_2) ∧ Aside0 (w'.heap[gb135]? = some (.cells #[.int .i64 a0_0, .int .i64 a0_1, .int .i64 a0_2, .int .i64 a0_3, .int .i64 a0_4, (.slice A0_5 l0_5.length c0_5)] 26 (0, 0))) ∧ Aside0 (Below w.heap.size w w'))
    case atStart => exact ⟨(t156), (0), (by first | rfl | (simp; done) | (simp [*]; done)), H', ⟨Nat.le_refl _⟩, ⟨by (with_reducible repeat (first | apply Kd.kAT | apply Kd.kAS | apply Kd.kAZ)); exact Kd.kBV HO_1.out (fun _ hk => ⟨hk.1.1.1.1, ⟨hk.2, hk.1.1.1.2.2.2.2⟩⟩)⟩, ⟨by (with_reducible repeat (first | apply Kd.kAP | apply Kd.kAO | apply Kd.kAR)); exact Kd.kBL HO158.out (fun _ hk => hk.1)⟩, ⟨by (with_reducible repeat (first | refine kAH ?_ _ | refine kAI ?_ | refine kAG ?_ _)); exact BK135.out⟩, ⟨by repeat (first | (with_reducible first | exact HB.out | apply kAB | apply kAA | apply kAC | refine kAF ?_ GE135.out) | exact HB.out)⟩⟩
    case round =>
     clear H'
     try clear c1
     try clear c2
     try clear p2
     try clear c25
     try clear c26
     try clear hcz37_0
     try clear hcz37_1
     try clear hcz37_2
     try clear hcz37_3
     try clear hcz37_4
     try clear hcz37_5
     try clear hfz37_0
     try clear hfz37_1
     try clear hfz37_2
     try clear hfz37_3
     try clear hfz37_4
     try clear hfz37_5
     obtain ⟨x6_2, x46_2, rfl, HA, HK2, HO_1, HO_6, BK135, HB⟩ := hrel
     cases gk with
     | zero => exact absurd HA.out (by simp [seal_Write.l0])
     | succ k2 =>
      have H := HA.out
      clear HA
      simp only [seal_Write.l0] at H
      by_cases c38 : x46_2 < (l0_5.length : Int)
      ·rw [if_pos c38] at H
       have c38b0 : decide (x46_2 < (l0_5.length : Int)) = true := decide_eq_true c38
       clear c38
       by_cases c39 : 0 ≤ x46_2
       ·rw [if_pos c39] at H
        have c39b0 : decide (0 ≤ x46_2) = true := decide_eq_true c39
        clear c39
        by_cases c40 : x46_2 < (l0_5.length : Int)
        ·rw [if_pos c40] at H
         have c40b0 : decide (x46_2 < (l0_5.length : Int)) = true := decide_eq_true c40
         clear c40
         replace H := Option.bind_eq_some_iff.mp H
         obtain ⟨t160, A410, H⟩ := H
         replace H : (if x6_2.length + t160.length < 140737488355328 then (seal_Write.l0 k2 l1 (x6_2 ++ t160) l0_5 (l0_5.length : Int) (wrap64 (x46_2 + 1))) else (none)) = some (r1, r2) := H
         have A41 := kzA A410
         clear A410
         by_cases c42 : x6_2.length + t160.length < 140737488355328
         ·rw [if_pos c42] at H
          have LMc42 := kzA c42
          clear c42
          obtain ⟨y163, hy163⟩ : ∃ y_ : List Int, y_ = (x6_2 ++ t160) := ⟨_, rfl⟩
          replace H : (seal_Write.l0 k2 l1 y163 l0_5 (l0_5.length : Int) (wrap64 (x46_2 + 1))) = some (r1, r2) := by first | (rw [hy163]; with_reducible exact H) | (have H2_ := (Option.bind_some _ _).symm.trans H; rw [hy163]; with_reducible exact H2_) | (have H2_ := (Option.bind_some _ _).symm.trans H; with_reducible exact H2_) | with_reducible exact H | (rw [hy163]; exact H) | exact H
          have Ny163 := kzA hy163
          clear hy163
          have H' := kzA H
          clear H
          have p159 : 0 ≤ (x46_2 : Int) := of_decide_eq_true (by first | (with_reducible assumption) | assumption)
          have q159 : x46_2 < (l0_5.length : Int) := of_decide_eq_true (by first | (with_reducible assumption) | assumption)
          obtain ⟨ad159, A159_0, c159_0, e159, hx159_0, hl159_0, hi159_0⟩ := at_L3 HR0_5.out x46_2 p159 q159
          cases e159
          replace hx159_0 := (HB.out.cell (World.block_lt_of_cell? w _ hx159_0)).trans hx159_0
          have HR159_0 := kzA hi159_0
          have HC159_0 := kzA hl159_0
          clear hi159_0 hl159_0
          replace p159 := eq_true p159
          replace q159 := eq_true q159
          go_wp2_with (first | ((with_reducible refine kAQ (f := 27) rfl ?_); refine kBI (some 52) rfl rfl Tryd.func27 (by kernel_rfl) rfl #[.slice A159_0 (rd_L3 l0_5 x46_2).length c159_0, .int .i64 4] rfl (by (try simp only [List.map_toArray, List.map_cons, List.map_nil]); first | done | rfl | (simp only [List.length_drop, List.length_take]; rfl)) ?_; (with_reducible refine (seal_lay_uint32.calls k2 _ _ (rd_L3 l0_5 x46_2) 4 t160 _ ?side1 ?side2 A41.out).mono ?_); (case side1 => repeat (first | exact (Kd.kCG HR159_0.out HB.out) | (with_reducible refine Kd.kBH ?_ _) | (with_reducible refine Kd.kBF ?_ _) | (with_reducible refine Kd.kBM ?_))); (case side2 => exact HC159_0.out); rintro e w43 ⟨v161, rfl, ho0, hb⟩; refine ⟨_, rfl, ?_⟩; have n0_ := kzA (Kd.V_elder' (by (with_reducible repeat (first | apply Kd.kAT | apply Kd.kAS | apply Kd.kAZ)); exact HO_1.out) (Kd.kBK ho0) hb); have n1_ := kzA (Kd.R_elder' (by (with_reducible repeat (first | apply Kd.kAP | apply Kd.kAO | apply Kd.kAR)); exact HO_6.out) (Kd.kBK ho0) hb); have n2_ := kzA (Kd.kBO (Kd.R_new' (Kd.R_newM (M := fun k_ => (w.heap.size ≤ k_)) ho0 (kAJ (by repeat (first | (with_reducible first | exact HB.out | apply kAB | apply kAA | apply kAC | refine kAF ?_ GE135.out) | exact HB.out))) (fun k_ h_ => h_)) (Kd.R_lt (by (with_reducible repeat (first | apply Kd.kAP | apply Kd.kAO | apply Kd.kAR)); exact HO_6.out))) (kAJ (by repeat (first | (with_reducible first | exact HB.out | apply kAB | apply kAA | apply kAC | refine kAF ?_ GE135.out) | exact HB.out)))); have n3_ := kzA (kAL (g := gb135) (o := .cells #[.int .i64 a0_0, .int .i64 a0_1, .int .i64 a0_2, .int .i64 a0_3, .int .i64 a0_4, .slice (some ad159) l0_5.length c0_5] 26 (0, 0)) (by (with_reducible repeat (first | refine kAH ?_ _ | refine kAI ?_ | refine kAG ?_ _)); exact BK135.out) hb); have n4_ := kzA (kAK (by repeat (first | (with_reducible first | exact HB.out | apply kAB | apply kAA | apply kAC | refine kAF ?_ GE135.out) | exact HB.out)) hb); clear HO_1; clear HO_6; clear BK135; clear HB; have HO_1 := n0_; have HO_6 := n1_; have HO162 := n2_; have BK135 := n3_; have HB := n4_; clear n0_ n1_ n2_ n3_ n4_; (try clear hb); (try clear hb2); (try clear hk); (try clear hi); (try clear ho0); obtain ⟨Ao45, co45, eo45⟩ := Kd.kCK HO162.out; subst eo45) | ((with_reducible refine kCA (b := .append) (xs := #[.tmp 50, .tmp 52]) rfl ?_); (try (refine kCI (by rfl) ?_; dsimp only)); at_builtin; refine Kd.R_append_rows (Kd.int .u8) (w0 := w) w.heap.size rfl (.tmp 50) (.tmp 52) 27 5 (.int .u8 0) 1 rfl Tryd.underlying27 info5 rfl (by decide) (by omega) u6 x6_2 t160 _ _ _ (fun k_ => (w.heap.size ≤ k_) ∧ some k_ ≠ (.slice Ao45 t160.length co45 : Value).ownBlock) (fun _ => False) rfl rfl ?aO ?aR (fun _ _ h => h) (fun _ h => h.elim) ?aF ?aB ?aS ?aL ?_; (case aR => repeat (first | exact (Kd.R_reads' HO162.out).2.2 | (with_reducible refine Kd.kBH ?_ _) | (with_reducible refine Kd.kBF ?_ _) | (with_reducible refine Kd.kBM ?_))); (case aB => exact (by repeat (first | (with_reducible first | exact HB.out | apply kAB | apply kAA | apply kAC | refine kAF ?_ GE135.out) | exact HB.out))); (case aF => exact (fun k_ hk => ⟨(Nat.le_trans (kAJ (by repeat (first | (with_reducible first | exact HB.out | apply kAB | apply kAA | apply kAC | refine kAF ?_ GE135.out) | exact HB.out))) hk), Kd.fresh' (Kd.R_lt (by (with_reducible repeat (first | apply Kd.kAP | apply Kd.kAO | apply Kd.kAR)); exact HO162.out)) k_ hk⟩)); (case aO => exact (by (with_reducible repeat (first | apply Kd.kAP | apply Kd.kAO | apply Kd.kAR)); exact HO_6.out)); (case aS => exact (kAJ (by repeat (first | (with_reducible first | exact HB.out | apply kAB | apply kAA | apply kAC | refine kAF ?_ GE135.out) | exact HB.out)))); (case aL => have := LMc42.out; omega); intro v164 w44 ho hb hg hat; rw [← Ny163.out] at ho; have n0_ := kzA (Kd.V_afterv (ok := (fun k_ => (P1_ k_ ∨ w.heap.size ≤ k_) ∧ some k_ ≠ (.slice Ao45 t160.length co45 : Value).ownBlock ∧ k_ ≠ gb135)) (by (with_reducible repeat (first | apply Kd.kAT | apply Kd.kAS | apply Kd.kAZ)); exact Kd.kBV HO_1.out (fun _ hk => ⟨⟨hk.1.1, ⟨hk.2, hk.1.2.2⟩⟩, hk.1.2.1⟩)) hg hat); have n1_ := kzA (blk_grown (g := gb135) (o := .cells #[.int .i64 a0_0, .int .i64 a0_1, .int .i64 a0_2, .int .i64 a0_3, .int .i64 a0_4, .slice (some ad159) l0_5.length c0_5] 26 (0, 0)) (by (with_reducible repeat (first | refine kAH ?_ _ | refine kAI ?_ | refine kAG ?_ _)); exact BK135.out) hg (Kd.R_ne HO_6.out BK135.out (by decide))); have n2_ := kzA (Kd.R_after (ok := (fun k_ => (w.heap.size ≤ k_))) (by (with_reducible repeat (first | apply Kd.kAP | apply Kd.kAO | apply Kd.kAR)); exact Kd.kBL HO162.out (fun _ hk => ⟨hk.1.1, hk.2⟩)) hg hat); have n3_ := kzA (hb); have n4_ := kzA (ho); clear HO_1; clear BK135; clear HO162; clear HB; clear HO_6; have HO_1 := n0_; have BK135 := n1_; have HO162 := n2_; have HB := n3_; have HO165 := n4_; clear n0_ n1_ n2_ n3_ n4_; clear ho hb hg hat))
          go_roundg k2
          case measure => have := HJ2.out; have := HK2.out; omega
          case rel => exact ⟨(y163), (wrap64 (x46_2 + 1)), (by first | rfl | (simp; done) | (simp [*]; done)), H', ⟨by have := HJ2.out; have := HK2.out; omega⟩, ⟨by (with_reducible repeat (first | apply Kd.kAT | apply Kd.kAS | apply Kd.kAZ)); exact Kd.kBV HO_1.out (fun _ hk => ⟨hk.1.1, ⟨hk.2, hk.1.2.2⟩⟩)⟩, ⟨by (with_reducible repeat (first | apply Kd.kAP | apply Kd.kAO | apply Kd.kAR)); exact Kd.kBL HO165.out (fun _ hk => hk.1)⟩, ⟨by (with_reducible repeat (first | refine kAH ?_ _ | refine kAI ?_ | refine kAG ?_ _)); exact BK135.out⟩, ⟨by repeat (first | (with_reducible first | exact HB.out | apply kAB | apply kAA | apply kAC | refine kAF ?_ GE135.out) | exact HB.out)⟩⟩
         ·rw [if_neg c42] at H
          exact absurd H (by simp)
        ·rw [if_neg c40] at H
         exact absurd H (by simp)
       ·rw [if_neg c39] at H
        exact absurd H (by simp)
      ·rw [if_neg c38] at H
       have c38b0 : decide (x46_2 < (l0_5.length : Int)) = false := decide_eq_false c38
       clear c38
       replace H := Option.bind_eq_some_iff.mp H
       obtain ⟨t166, A460, H⟩ := H
       replace H : ((little_Put.f k2 (IntKind.u64.wrap (t166)) 4).bind fun t167 => ((slices_Concat_byte_byte.f k2 (([x6_2, t167, l1] : List (List Int)))).bind fun t173 => (some (t173, 0)))) = some (r1, r2) := H
       have A46 := kzA A460
       clear A460
       replace H := Option.bind_eq_some_iff.mp H
       obtain ⟨t167, A470, H⟩ := H
       replace H : ((slices_Concat_byte_byte.f k2 (([x6_2, t167, l1] : List (List Int)))).bind fun t173 => (some (t173, 0))) = some (r1, r2) := H
       have A47 := kzA A470
       clear A470
       obtain ⟨y170, hy170⟩ : ∃ y_ : List (List Int), y_ = (([x6_2, t167, l1] : List (List Int))) := ⟨_, rfl⟩
       replace H : ((slices_Concat_byte_byte.f k2 y170).bind fun t173 => (some (t173, 0))) = some (r1, r2) := by first | (rw [hy170]; with_reducible exact H) | (have H2_ := (Option.bind_some _ _).symm.trans H; rw [hy170]; with_reducible exact H2_) | (have H2_ := (Option.bind_some _ _).symm.trans H; with_reducible exact H2_) | with_reducible exact H | (rw [hy170]; exact H) | exact H
       have Ny170 := kzA hy170
       clear hy170
       replace H := Option.bind_eq_some_iff.mp H
       obtain ⟨t173, A480, H⟩ := H
       replace H : (some (t173, 0)) = some (r1, r2) := H
       have A48 := kzA A480
       clear A480
       simp only [Option.some.injEq, Prod.mk.injEq] at H
       obtain ⟨rfl, rfl⟩ := H
       obtain ⟨Ao49, co49, eo49⟩ := Kd.kCK HO_6.out
       subst eo49
       go_wp2_with (first | ((with_reducible refine kAQ (f := 29) rfl ?_); refine kBI (some 57) rfl rfl Tryd.func29 (by kernel_rfl) rfl #[.slice Ao49 x6_2.length co49] rfl (by (try simp only [List.map_toArray, List.map_cons, List.map_nil]); first | done | rfl | (simp only [List.length_drop, List.length_take]; rfl)) ?_; (with_reducible refine (crc_Sum.calls _ _ x6_2 t166 _ ?side1 ?side2 ?side3 A46.out).mono ?_); (case side1 => exact Glob.below hG (by repeat (first | (with_reducible first | exact HB.out | apply kAB | apply kAA | apply kAC | refine kAF ?_ GE135.out) | exact HB.out))); (case side2 => repeat (first | exact (Kd.R_reads' HO_6.out).2.2 | (with_reducible refine Kd.kBH ?_ _) | (with_reducible refine Kd.kBF ?_ _) | (with_reducible refine Kd.kBM ?_))); (case side3 => exact (Kd.R_reads' HO_6.out).2.1); rintro e w50 ⟨rfl, hb⟩; refine ⟨_, rfl, ?_⟩; have n0_ := kzA (Kd.kCD (by (with_reducible repeat (first | apply Kd.kAT | apply Kd.kAS | apply Kd.kAZ)); exact HO_1.out) hb); have n1_ := kzA (Kd.kBJ (by (with_reducible repeat (first | apply Kd.kAP | apply Kd.kAO | apply Kd.kAR)); exact HO_6.out) hb); have n2_ := kzA (kAL (g := gb135) (o := .cells #[.int .i64 a0_0, .int .i64 a0_1, .int .i64 a0_2, .int .i64 a0_3, .int .i64 a0_4, .slice A0_5 l0_5.length c0_5] 26 (0, 0)) (by (with_reducible repeat (first | refine kAH ?_ _ | refine kAI ?_ | refine kAG ?_ _)); exact BK135.out) hb); have n3_ := kzA (kAK (by repeat (first | (with_reducible first | exact HB.out | apply kAB | apply kAA | apply kAC | refine kAF ?_ GE135.out) | exact HB.out)) hb); clear HO_1; clear HO_6; clear BK135; clear HB; have HO_1 := n0_; have HO_6 := n1_; have BK135 := n2_; have HB := n3_; clear n0_ n1_ n2_ n3_; (try clear hb); (try clear hb2); (try clear hk); (try clear hi)) | ((with_reducible refine kAQ (f := 28) rfl ?_); refine kBI (some 59) rfl rfl Tryd.func28 (by kernel_rfl) rfl #[.int .u64 (IntKind.u64.wrap (t166)), .int .i64 4] rfl (by (try simp only [List.map_toArray, List.map_cons, List.map_nil]); first | done | rfl | (simp only [List.length_drop, List.length_take]; rfl)) ?_; (with_reducible refine (little_Put.calls k2 (IntKind.u64.wrap (t166)) 4 t167 _ A47.out).mono ?_); rintro e w51 ⟨v168, rfl, ho0, hb⟩; refine ⟨_, rfl, ?_⟩; have n0_ := kzA (Kd.V_elder' (by (with_reducible repeat (first | apply Kd.kAT | apply Kd.kAS | apply Kd.kAZ)); exact HO_1.out) (Kd.kBK ho0) hb); have n1_ := kzA (Kd.R_elder' (by (with_reducible repeat (first | apply Kd.kAP | apply Kd.kAO | apply Kd.kAR)); exact HO_6.out) (Kd.kBK ho0) hb); have n2_ := kzA (Kd.kBO (Kd.R_new' (Kd.R_newM (M := fun k_ => (w.heap.size ≤ k_)) ho0 (kAJ (by repeat (first | (with_reducible first | exact HB.out | apply kAB | apply kAA | apply kAC | refine kAF ?_ GE135.out) | exact HB.out))) (fun k_ h_ => h_)) (Kd.R_lt (by (with_reducible repeat (first | apply Kd.kAP | apply Kd.kAO | apply Kd.kAR)); exact HO_6.out))) (kAJ (by repeat (first | (with_reducible first | exact HB.out | apply kAB | apply kAA | apply kAC | refine kAF ?_ GE135.out) | exact HB.out)))); have n3_ := kzA (kAL (g := gb135) (o := .cells #[.int .i64 a0_0, .int .i64 a0_1, .int .i64 a0_2, .int .i64 a0_3, .int .i64 a0_4, .slice A0_5 l0_5.length c0_5] 26 (0, 0)) (by (with_reducible repeat (first | refine kAH ?_ _ | refine kAI ?_ | refine kAG ?_ _)); exact BK135.out) hb); have n4_ := kzA (kAK (by repeat (first | (with_reducible first | exact HB.out | apply kAB | apply kAA | apply kAC | refine kAF ?_ GE135.out) | exact HB.out)) hb); clear HO_1; clear HO_6; clear BK135; clear HB; have HO_1 := n0_; have HO_6 := n1_; have HO169 := n2_; have BK135 := n3_; have HB := n4_; clear n0_ n1_ n2_ n3_ n4_; (try clear hb); (try clear hb2); (try clear hk); (try clear hi); (try clear ho0); obtain ⟨Ao52, co52, eo52⟩ := Kd.kCK HO169.out; subst eo52) | ((with_reducible refine kBA (N := 61) rfl ?_); (try (refine kCI (by rfl) ?_; dsimp only)); refine Kd.N_lit (Kd.slice 5 (Kd.int .u8)) _ 27 ?hg (N' := 61) ?hd (xs := ([x6_2, t167, l1] : List (List Int))) (inner := [.slice Ao49 x6_2.length co49, .slice Ao52 t167.length co52, .slice A1 l1.length c1]) (ok := (fun k_ => (P1_ k_ ∨ w.heap.size ≤ k_) ∧ k_ ≠ gb135)) (okp := (fun k_ => (P1_ k_ ∨ w.heap.size ≤ k_) ∧ k_ ≠ gb135)) ?hr ?hp (fun _ hk => hk) ((show ∀ k_, w51.heap.size ≤ k_ → (fun k_ => (P1_ k_ ∨ w.heap.size ≤ k_) ∧ k_ ≠ gb135) k_ from fun k_ hk => ⟨(.inr (Nat.le_trans (kAJ (by repeat (first | (with_reducible first | exact HB.out | apply kAB | apply kAA | apply kAC | refine kAF ?_ GE135.out) | exact HB.out))) hk)), Kd.freshB (g := gb135) (o := .cells #[.int .i64 a0_0, .int .i64 a0_1, .int .i64 a0_2, .int .i64 a0_3, .int .i64 a0_4, .slice A0_5 l0_5.length c0_5] 26 (0, 0)) (by (with_reducible repeat (first | refine kAH ?_ _ | refine kAI ?_ | refine kAG ?_ _)); exact BK135.out) k_ hk⟩) _ (Nat.le_refl _)) (Below.refl _ _) (Nat.le_refl _) (by simp) ?_; (case hd => rfl); (case hg => rfl); (case hr => first | (go_simp; done) | (go_simp; rfl)); (case hp => exact (Reps.one (show Kd.FK (Kd.slice 5 (Kd.int .u8)) _ _ x6_2 [.slice Ao49 x6_2.length co49] from (Kd.kCJ (Kd.R_reads' (Kd.kBL (ok' := (fun k_ => (P1_ k_ ∨ w.heap.size ≤ k_) ∧ k_ ≠ gb135)) (Kd.kBZ (HO_6.out) BK135.out (by decide)) (fun k_ hk => ⟨(.inr (hk.1.1)), hk.2⟩))).2.1 (Kd.R_F (Kd.kBL (ok' := (fun k_ => (P1_ k_ ∨ w.heap.size ≤ k_) ∧ k_ ≠ gb135)) (Kd.kBZ (HO_6.out) BK135.out (by decide)) (fun k_ hk => ⟨(.inr (hk.1.1)), hk.2⟩))))) (Reps.one (show Kd.FK (Kd.slice 5 (Kd.int .u8)) _ _ t167 [.slice Ao52 t167.length co52] from (Kd.kCJ (Kd.R_reads' (Kd.kBL (ok' := (fun k_ => (P1_ k_ ∨ w.heap.size ≤ k_) ∧ k_ ≠ gb135)) (Kd.kBZ (HO169.out) BK135.out (by decide)) (fun k_ hk => ⟨(.inr (hk.1.1.1)), hk.2⟩))).2.1 (Kd.R_F (Kd.kBL (ok' := (fun k_ => (P1_ k_ ∨ w.heap.size ≤ k_) ∧ k_ ≠ gb135)) (Kd.kBZ (HO169.out) BK135.out (by decide)) (fun k_ hk => ⟨(.inr (hk.1.1.1)), hk.2⟩))))) (Reps.one (show Kd.FK (Kd.slice 5 (Kd.int .u8)) _ _ l1 [.slice A1 l1.length c1] from (Kd.kCJ (Kd.V_reads' (Kd.kBV (ok' := (fun k_ => (P1_ k_ ∨ w.heap.size ≤ k_) ∧ k_ ≠ gb135)) (HO_1.out) (fun k_ hk => ⟨hk.1.1, hk.1.2.2⟩))).2.1 (Kd.V_F (Kd.kBV (ok' := (fun k_ => (P1_ k_ ∨ w.heap.size ≤ k_) ∧ k_ ≠ gb135)) (HO_1.out) (fun k_ hk => ⟨hk.1.1, hk.1.2.2⟩))))) (Reps.none _ _))))); intro v171 w53 ho54 hb hg_ hnew_; clear hg_ hnew_; (first | rw [← Ny170.out] at ho54 | (simp only [Int.reduceToNat] at ho54; rw [← Ny170.out] at ho54)); have n0_ := kzA (Kd.V_elder' (by (with_reducible repeat (first | apply Kd.kAT | apply Kd.kAS | apply Kd.kAZ)); exact HO_1.out) (Kd.N_base ho54) hb); have n1_ := kzA (Kd.N_lower ho54 (kAJ (by repeat (first | (with_reducible first | exact HB.out | apply kAB | apply kAA | apply kAC | refine kAF ?_ GE135.out) | exact HB.out)))); have n2_ := kzA (kAL (g := gb135) (o := .cells #[.int .i64 a0_0, .int .i64 a0_1, .int .i64 a0_2, .int .i64 a0_3, .int .i64 a0_4, .slice A0_5 l0_5.length c0_5] 26 (0, 0)) (by (with_reducible repeat (first | refine kAH ?_ _ | refine kAI ?_ | refine kAG ?_ _)); exact BK135.out) hb); have n3_ := kzA (kAK (by repeat (first | (with_reducible first | exact HB.out | apply kAB | apply kAA | apply kAC | refine kAF ?_ GE135.out) | exact HB.out)) hb); clear HO_1; clear BK135; clear HB; clear HO169; clear HO_6; have HO_1 := n0_; have HO172 := n1_; have BK135 := n2_; have HB := n3_; clear n0_ n1_ n2_ n3_; clear hb ho54; obtain ⟨Ao55, co55, eo55⟩ := Kd.N_slice HO172.out; subst eo55) | ((with_reducible refine kAQ (f := 25) rfl ?_); refine kBI (some 62) rfl rfl Tryd.func25 (by kernel_rfl) rfl #[.slice Ao55 y170.length co55] rfl (by (try simp only [List.map_toArray, List.map_cons, List.map_nil]); first | done | rfl | (simp only [List.length_drop, List.length_take]; rfl)) ?_; (with_reducible refine (slices_Concat_byte_byte.calls k2 _ _ y170 t173 _ ?side1 ?side2 A48.out).mono ?_); (case side1 => repeat (first | exact (Kd.N_reads' HO172.out).2.2 | (with_reducible refine Kd.kBH ?_ _) | (with_reducible refine Kd.kBF ?_ _) | (with_reducible refine Kd.kBM ?_))); (case side2 => exact (Kd.N_reads' HO172.out).2.1); rintro e w56 ⟨v174, rfl, ho0, hb⟩; refine ⟨_, rfl, ?_⟩; have n0_ := kzA (Kd.V_elder' (by (with_reducible repeat (first | apply Kd.kAT | apply Kd.kAS | apply Kd.kAZ)); exact HO_1.out) (Kd.kBK ho0) hb); have n1_ := kzA (Kd.N_elder' (by (with_reducible repeat (first | apply Kd.kAW | apply Kd.kAV | apply Kd.kBC)); exact HO172.out) (Kd.kBK ho0) hb); have n2_ := kzA (Kd.kBO (Kd.R_newM (M := fun k_ => (w.heap.size ≤ k_)) ho0 (kAJ (by repeat (first | (with_reducible first | exact HB.out | apply kAB | apply kAA | apply kAC | refine kAF ?_ GE135.out) | exact HB.out))) (fun k_ h_ => h_)) (kAJ (by repeat (first | (with_reducible first | exact HB.out | apply kAB | apply kAA | apply kAC | refine kAF ?_ GE135.out) | exact HB.out)))); have n3_ := kzA (kAL (g := gb135) (o := .cells #[.int .i64 a0_0, .int .i64 a0_1, .int .i64 a0_2, .int .i64 a0_3, .int .i64 a0_4, .slice A0_5 l0_5.length c0_5] 26 (0, 0)) (by (with_reducible repeat (first | refine kAH ?_ _ | refine kAI ?_ | refine kAG ?_ _)); exact BK135.out) hb); have n4_ := kzA (kAK (by repeat (first | (with_reducible first | exact HB.out | apply kAB | apply kAA | apply kAC | refine kAF ?_ GE135.out) | exact HB.out)) hb); clear HO_1; clear HO172; clear BK135; clear HB; have HO_1 := n0_; have HO172 := n1_; have HO175 := n2_; have BK135 := n3_; have HB := n4_; clear n0_ n1_ n2_ n3_ n4_; (try clear hb); (try clear hb2); (try clear hk); (try clear hi); (try clear ho0)))
       go_ret2
       exact ⟨_, by first | rfl | (simp [kAN, kAM] <;> rfl) | (simp [*, kAN, kAM] <;> rfl), by (with_reducible repeat (first | apply Kd.kAP | apply Kd.kAO | apply Kd.kAR)); exact Kd.kBL HO175.out (fun _ hk => hk.1), by repeat (first | (with_reducible first | exact HB.out | apply kAB | apply kAA | apply kAC | refine kAF ?_ GE135.out) | exact HB.out)⟩
end Go.Proofs.YtoamamnbapilhaaDoor.X
