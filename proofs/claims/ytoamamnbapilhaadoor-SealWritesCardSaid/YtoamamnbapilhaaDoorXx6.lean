import Derived.Test.YtoamamnbapilhaaDoorXx0
import Derived.Test.YtoamamnbapilhaaDoorXx2
import Derived.Test.YtoamamnbapilhaaDoorXx3
import Derived.Test.YtoamamnbapilhaaDoorXx5
namespace Go.Proofs.YtoamamnbapilhaaDoor.X
open Go.RowKit Go.Proofs.YtoamamnbapilhaaDoorW.PrintWords Go.Proofs.YtoamamnbapilhaaDoorW.PrintLast Go.Proofs.YtoamamnbapilhaaDoorW.PrintMore
attribute [local go_sem] max2_int min2_int max_two min_two max_three min_three max_four min_four
set_option linter.unusedVariables false
set_option linter.unusedSimpArgs false
def seal_Sums.l0 : Nat → List (List Int) → List (List Int) → Int → Int → Int → Int → Int → Int → Option ((List (List Int)))
 | 0, _, _, _, _, _, _, _, _ => none
 | k + 1, x5, x11, x12, x13, x184000, x184001, x184002, x184003 => if x13 < x12 then (if 0 ≤ x13 then (if x13 < (x11.length : Int) then ((crc_Blocks.f (rd_L8 x11 x13) x184003).bind fun t186 => (if x5.length < 5864062014805 then (seal_Sums.l0 k (x5 ++ [t186]) x11 x12 (wrap64 (x13 + 1)) x184000 x184001 x184002 x184003) else (none))) else (none)) else (none)) else (some x5)
def seal_Sums.f (k : Nat) (l0 : List (List Int)) (a1_0 : Int) (a1_1 : Int) (a1_2 : Int) (a1_3 : Int) : Option ((List (List Int))) := (stripe_Right.f a1_0 a1_1 a1_2 a1_3).bind fun t184 => (if t184 = true then (seal_Sums.l0 k ([] : List (List Int)) l0 (l0.length : Int) 0 a1_0 a1_1 a1_2 a1_3) else (some ([] : List (List Int))))
theorem seal_Sums.mono_l : ∀ k, (∀ y0 y1 y2 y3 y4 y5 y6 y7, LeO (seal_Sums.l0 k y0 y1 y2 y3 y4 y5 y6 y7) (seal_Sums.l0 (k + 1) y0 y1 y2 y3 y4 y5 y6 y7))
 | 0 => fun _ _ _ _ _ _ _ _ r h => by simp [seal_Sums.l0] at h
 | k + 1 => by
  have ih0 := seal_Sums.mono_l k
  ·intro y0 y1 y2 y3 y4 y5 y6 y7
   unfold seal_Sums.l0
   repeat' first
   | (with_reducible exact ih0 _ _ _ _ _ _ _ _)
   | (with_reducible exact LeO.refl _)
   | (with_reducible exact LeO.none _)
   | (with_reducible refine LeO.ite ?_ ?_)
   | (with_reducible refine LeO.bind ?_ (fun _ => ?_))
   | exact ih0 _ _ _ _ _ _ _ _
   | exact LeO.none _
   | refine LeO.ite ?_ ?_
   | refine LeO.bind ?_ (fun _ => ?_)
theorem seal_Sums.mono : ∀ a0 a1 a2 a3 a4 k, LeO (seal_Sums.f k a0 a1 a2 a3 a4) (seal_Sums.f (k + 1) a0 a1 a2 a3 a4) := by
 intro a0 a1 a2 a3 a4 k
 have ih0 := seal_Sums.mono_l k
 unfold seal_Sums.f
 repeat' first
   | (with_reducible exact ih0 _ _ _ _ _ _ _ _)
   | (with_reducible exact LeO.refl _)
   | (with_reducible exact LeO.none _)
   | (with_reducible refine LeO.ite ?_ ?_)
   | (with_reducible refine LeO.bind ?_ (fun _ => ?_))
   | exact ih0 _ _ _ _ _ _ _ _
   | exact LeO.none _
   | refine LeO.ite ?_ ?_
   | refine LeO.bind ?_ (fun _ => ?_)
set_option maxHeartbeats 8000000 in
set_option maxRecDepth 100000 in
theorem seal_Sums.calls (k : Nat) (A0 : Option Addr) (c0 : Nat) (l0 : List (List Int)) (a1_0 : Int) (a1_1 : Int) (a1_2 : Int) (a1_3 : Int) (r : List (List Int)) (w : World) (hG : Glob w) (hr0 : Kd.C (Kd.slice 5 (Kd.int .u8)) w A0 l0.length l0) (hc0 : l0.length ≤ c0) (h : seal_Sums.f k l0 a1_0 a1_1 a1_2 a1_3 = some r) :
  Calls Tryd.prog 15 #[.slice A0 l0.length c0, .agg #[.int .i64 a1_0, .int .i64 a1_1, .int .i64 a1_2, .int .i64 a1_3]] w fun e w' => ∃ v0_ : Value, e = .returned (v0_) ∧ Kd.S (Kd.slice 54 (Kd.int .u32)) 56 w' w.heap.size (fun _ => True) v0_ r ∧ Below w.heap.size w w' := by
 have hu23 := Tryd.underlying23
 have HR0 := kzA hr0
 have HC0 := kzA hc0
 clear hr0 hc0
 have HB := kzA (Below.refl w.heap.size w)
 have H : ((stripe_Right.f a1_0 a1_1 a1_2 a1_3).bind fun t184 => (if t184 = true then (seal_Sums.l0 k ([] : List (List Int)) l0 (l0.length : Int) 0 a1_0 a1_1 a1_2 a1_3) else (some ([] : List (List Int))))) = some r := h
 clear h
 replace H := Option.bind_eq_some_iff.mp H
 obtain ⟨t184, A30, H⟩ := H
 replace H : (if t184 = true then (seal_Sums.l0 k ([] : List (List Int)) l0 (l0.length : Int) 0 a1_0 a1_1 a1_2 a1_3) else (some ([] : List (List Int)))) = some r := H
 have A3 := kzA A30
 clear A30
 by_cases c4 : t184 = true
 ·subst c4
  have H1 : (seal_Sums.l0 k ([] : List (List Int)) l0 (l0.length : Int) 0 a1_0 a1_1 a1_2 a1_3) = some r := by rw [if_pos rfl] at H; exact H
  clear H
  have H := H1
  clear H1
  have H' := kzA H
  clear H
  go_enter Tryd.func15, Tryd.ntmps15
  go_wp2_with (first | ((with_reducible refine kBA (N := 3) rfl ?_); refine kBD ?hg (N := 3) ?hd (cs := #[.int .i64 a1_0, .int .i64 a1_1, .int .i64 a1_2, .int .i64 a1_3]) (t := 23) ?hr ?_; (case hd => rfl); (case hg => rfl); (case hr => first | (go_simp; done) | (go_simp; rfl)); intro gb183 hg w5 hbox hb; have n0_ := kzA (kAK (by repeat (first | (with_reducible first | exact HB.out | apply kAB | apply kAA | apply kAC) | exact HB.out)) hb); have n1_ := kzA (hbox); have n2_ := kzA ((by rw [hg]; exact (kAJ (by repeat (first | (with_reducible first | exact HB.out | apply kAB | apply kAA | apply kAC) | exact HB.out))) : w.heap.size ≤ gb183)); have n3_ := kzA ((by rw [hg]; exact (kAJ (by repeat (first | (with_reducible first | exact HB.out | apply kAB | apply kAA | apply kAC) | exact HB.out))) : w.heap.size ≤ gb183)); clear HB; have HB := n0_; have BK183 := n1_; have GW183 := n2_; have GE183 := n3_; clear n0_ n1_ n2_ n3_; clear hb hbox hg; have hcz6_0 : w5.cell? ⟨gb183, 0, none⟩ = some (.int .i64 a1_0) := (kAD BK183.out 0).trans rfl; have hcz6_1 : w5.cell? ⟨gb183, 1, none⟩ = some (.int .i64 a1_1) := (kAD BK183.out 1).trans rfl; have hcz6_2 : w5.cell? ⟨gb183, 2, none⟩ = some (.int .i64 a1_2) := (kAD BK183.out 2).trans rfl; have hcz6_3 : w5.cell? ⟨gb183, 3, none⟩ = some (.int .i64 a1_3) := (kAD BK183.out 3).trans rfl; have hfz6_0 := kAE BK183.out 0; have hfz6_1 := kAE BK183.out 1; have hfz6_2 := kAE BK183.out 2; have hfz6_3 := kAE BK183.out 3) | ((with_reducible refine kAQ (f := 35) rfl ?_); refine kBI (some 9) rfl rfl Tryd.func35 (by kernel_rfl) rfl #[.agg #[.int .i64 a1_0, .int .i64 a1_1, .int .i64 a1_2, .int .i64 a1_3]] rfl (by (try simp only [List.map_toArray, List.map_cons, List.map_nil]); first | done | rfl | (simp only [List.length_drop, List.length_take]; rfl)) ?_; (with_reducible refine (stripe_Right.calls a1_0 a1_1 a1_2 a1_3 true _ A3.out).mono ?_); rintro e w7 ⟨rfl, hb⟩; refine ⟨_, rfl, ?_⟩; have n0_ := kzA (kAL (g := gb183) (o := .cells #[.int .i64 a1_0, .int .i64 a1_1, .int .i64 a1_2, .int .i64 a1_3] 23 (0, 0)) (by (with_reducible repeat (first | refine kAH ?_ _ | refine kAI ?_ | refine kAG ?_ _)); exact BK183.out) hb); have n1_ := kzA (kAK (by repeat (first | (with_reducible first | exact HB.out | apply kAB | apply kAA | apply kAC | refine kAF ?_ GE183.out) | exact HB.out)) hb); clear BK183; clear HB; have BK183 := n0_; have HB := n1_; clear n0_ n1_; (try clear hb); (try clear hb2); (try clear hk); (try clear hi)))
  go_loopg [5, 13] k (fun kq v5 v13 w' => ∃ (x5_1 : List (List Int)) (x13_1 : Int), v13 = .int .i64 x13_1 ∧ Aside0 (seal_Sums.l0 kq x5_1 l0 (l0.length : Int) x13_1 a1_0 a1_1 a1_2 a1_3 = some r) ∧ Aside0 (kq ≤ k) ∧ Aside0 (Kd.S (Kd.slice 54 (Kd.int .u32)) 56 w' w.heap.size (fun _ => True) v5 x5_1) ∧ Aside0 (w'.heap[gb183]? = some (.cells #[.int .i64 a1_0, .int .i64 a1_1, .int .i64 a1_2, .int .i64 a1_3] 23 (0, 0))) ∧ Aside0 (Below w.heap.size w w'))
  case atStart => exact ⟨(([] : List (List Int))), (0), (by first | rfl | (simp; done) | (simp [*]; done)), H', ⟨Nat.le_refl _⟩, ⟨by first | exact Kd.S_nil _ _ _ _ _ | exact Kd.N_nil _ _ _ _ _ | exact Kd.V_nil _ _ _ _ _ | exact Kd.Q_nil _ _ _ _ _ | exact Kd.R_nil _ _ _ _ _⟩, ⟨by (with_reducible repeat (first | refine kAH ?_ _ | refine kAI ?_ | refine kAG ?_ _)); exact BK183.out⟩, ⟨by repeat (first | (with_reducible first | exact HB.out | apply kAB | apply kAA | apply kAC | refine kAF ?_ GE183.out) | exact HB.out)⟩⟩
  case round =>
   clear H'
   try clear c1
   try clear p2
   try clear c3
   try clear c4
   try clear hcz6_0
   try clear hcz6_1
   try clear hcz6_2
   try clear hcz6_3
   try clear hfz6_0
   try clear hfz6_1
   try clear hfz6_2
   try clear hfz6_3
   obtain ⟨x5_1, x13_1, rfl, HA, HK1, HO_5, BK183, HB⟩ := hrel
   cases gk with
   | zero => exact absurd HA.out (by simp [seal_Sums.l0])
   | succ k1 =>
    have H := HA.out
    clear HA
    simp only [seal_Sums.l0] at H
    by_cases c8 : x13_1 < (l0.length : Int)
    ·rw [if_pos c8] at H
     have c8b0 : decide (x13_1 < (l0.length : Int)) = true := decide_eq_true c8
     clear c8
     by_cases c9 : 0 ≤ x13_1
     ·rw [if_pos c9] at H
      have c9b0 : decide (0 ≤ x13_1) = true := decide_eq_true c9
      clear c9
      by_cases c10 : x13_1 < (l0.length : Int)
      ·rw [if_pos c10] at H
       have c10b0 : decide (x13_1 < (l0.length : Int)) = true := decide_eq_true c10
       clear c10
       replace H := Option.bind_eq_some_iff.mp H
       obtain ⟨t186, A110, H⟩ := H
       replace H : (if x5_1.length < 5864062014805 then (seal_Sums.l0 k1 (x5_1 ++ [t186]) l0 (l0.length : Int) (wrap64 (x13_1 + 1)) a1_0 a1_1 a1_2 a1_3) else (none)) = some r := H
       have A11 := kzA A110
       clear A110
       by_cases c12 : x5_1.length < 5864062014805
       ·rw [if_pos c12] at H
        have LMc12 := kzA c12
        clear c12
        obtain ⟨y189, hy189⟩ : ∃ y_ : List (List Int), y_ = (x5_1 ++ [t186]) := ⟨_, rfl⟩
        replace H : (seal_Sums.l0 k1 y189 l0 (l0.length : Int) (wrap64 (x13_1 + 1)) a1_0 a1_1 a1_2 a1_3) = some r := by first | (rw [hy189]; with_reducible exact H) | (have H2_ := (Option.bind_some _ _).symm.trans H; rw [hy189]; with_reducible exact H2_) | (have H2_ := (Option.bind_some _ _).symm.trans H; with_reducible exact H2_) | with_reducible exact H | (rw [hy189]; exact H) | exact H
        have Ny189 := kzA hy189
        clear hy189
        have H' := kzA H
        clear H
        have p185 : 0 ≤ (x13_1 : Int) := of_decide_eq_true (by first | (with_reducible assumption) | assumption)
        have q185 : x13_1 < (l0.length : Int) := of_decide_eq_true (by first | (with_reducible assumption) | assumption)
        obtain ⟨ad185, A185_0, c185_0, e185, hx185_0, hl185_0, hi185_0⟩ := at_L8 HR0.out x13_1 p185 q185
        cases e185
        replace hx185_0 := (HB.out.cell (World.block_lt_of_cell? w _ hx185_0)).trans hx185_0
        have HR185_0 := kzA hi185_0
        have HC185_0 := kzA hl185_0
        clear hi185_0 hl185_0
        replace p185 := eq_true p185
        replace q185 := eq_true q185
        have hcz13_0 : wr.cell? ⟨gb183, 0, none⟩ = some (.int .i64 a1_0) := (kAD BK183.out 0).trans rfl
        have hcz13_1 : wr.cell? ⟨gb183, 1, none⟩ = some (.int .i64 a1_1) := (kAD BK183.out 1).trans rfl
        have hcz13_2 : wr.cell? ⟨gb183, 2, none⟩ = some (.int .i64 a1_2) := (kAD BK183.out 2).trans rfl
        have hcz13_3 : wr.cell? ⟨gb183, 3, none⟩ = some (.int .i64 a1_3) := (kAD BK183.out 3).trans rfl
        have hfz13_0 := kAE BK183.out 0
        have hfz13_1 := kAE BK183.out 1
        have hfz13_2 := kAE BK183.out 2
        have hfz13_3 := kAE BK183.out 3
        go_wp2_with (first | ((with_reducible refine kAQ (f := 37) rfl ?_); refine kBI (some 21) rfl rfl Tryd.func37 (by kernel_rfl) rfl #[.slice A185_0 (rd_L8 l0 x13_1).length c185_0, .int .i64 a1_3] rfl (by (try simp only [List.map_toArray, List.map_cons, List.map_nil]); first | done | rfl | (simp only [List.length_drop, List.length_take]; rfl)) ?_; (with_reducible refine (crc_Blocks.calls _ _ (rd_L8 l0 x13_1) a1_3 t186 _ ?side1 ?side2 ?side3 A11.out).mono ?_); (case side1 => exact Glob.below hG (by repeat (first | (with_reducible first | exact HB.out | apply kAB | apply kAA | apply kAC | refine kAF ?_ GE183.out) | exact HB.out))); (case side2 => repeat (first | exact (Kd.kCG HR185_0.out HB.out) | (with_reducible refine Kd.kBH ?_ _) | (with_reducible refine Kd.kBF ?_ _) | (with_reducible refine Kd.kBM ?_))); (case side3 => exact HC185_0.out); rintro e w14 ⟨v187, rfl, ho0, hb⟩; refine ⟨_, rfl, ?_⟩; have n0_ := kzA (Kd.S_elder' (by (with_reducible repeat (first | apply Kd.kCF | apply Kd.kCE | apply Kd.S_drew)); exact HO_5.out) (Kd.kBK ho0) hb); have n1_ := kzA (Kd.kBO ho0 (kAJ (by repeat (first | (with_reducible first | exact HB.out | apply kAB | apply kAA | apply kAC | refine kAF ?_ GE183.out) | exact HB.out)))); have n2_ := kzA (kAL (g := gb183) (o := .cells #[.int .i64 a1_0, .int .i64 a1_1, .int .i64 a1_2, .int .i64 a1_3] 23 (0, 0)) (by (with_reducible repeat (first | refine kAH ?_ _ | refine kAI ?_ | refine kAG ?_ _)); exact BK183.out) hb); have n3_ := kzA (kAK (by repeat (first | (with_reducible first | exact HB.out | apply kAB | apply kAA | apply kAC | refine kAF ?_ GE183.out) | exact HB.out)) hb); clear HO_5; clear BK183; clear HB; have HO_5 := n0_; have HO188 := n1_; have BK183 := n2_; have HB := n3_; clear n0_ n1_ n2_ n3_; (try clear hb); (try clear hb2); (try clear hk); (try clear hi); (try clear ho0); obtain ⟨Ao16, co16, eo16⟩ := Kd.kCK HO188.out; subst eo16) | ((with_reducible refine kCA (b := .append) (xs := #[.tmp 17, .tmp 22]) rfl ?_); at_builtin; refine Kd.S_append (Kd.slice 54 (Kd.int .u32)) (w0 := w) w.heap.size rfl (.tmp 17) (.tmp 22) 24 56 (.slice none 0 0) 24 rfl Tryd.underlying24 info56 rfl (by decide) (by omega) u5 x5_1 t186 [.slice Ao16 t186.length co16] (fun _ => True) (fun k_ => some k_ = (.slice Ao16 t186.length co16 : Value).ownBlock) rfl rfl ?aP (fun k_ hk_ => ((Kd.kBL (ok' := fun k_ => ((fun _ => True)) k_ ∧ some k_ ≠ (u5 : Value).ownBlock) (Kd.R_apart' (HO188.out) (Kd.S_typed HO_5.out) (by decide)) (fun k_ hk => ⟨trivial, hk.2⟩))).1 k_ hk_.symm) ?aF ?aO ?aB ?aS ?aL ?_; (case aP => exact Kd.M_row (Kd.kBL (Kd.R_tight rfl (Kd.kBL (ok' := fun k_ => ((fun _ => True)) k_ ∧ some k_ ≠ (u5 : Value).ownBlock) (Kd.R_apart' (HO188.out) (Kd.S_typed HO_5.out) (by decide)) (fun k_ hk => ⟨trivial, hk.2⟩))) (fun _ h_ => h_))); (case aB => exact (by repeat (first | (with_reducible first | exact HB.out | apply kAB | apply kAA | apply kAC | refine kAF ?_ GE183.out) | exact HB.out))); (case aF => exact (fun _ _ => trivial)); (case aO => exact (by (with_reducible repeat (first | apply Kd.kCF | apply Kd.kCE | apply Kd.S_drew)); exact Kd.S_mono HO_5.out (fun k_ hk => ⟨trivial, fun e_ => hk.2 e_⟩))); (case aS => exact (kAJ (by repeat (first | (with_reducible first | exact HB.out | apply kAB | apply kAA | apply kAC | refine kAF ?_ GE183.out) | exact HB.out)))); (case aL => have := LMc12.out; omega); intro v190 w15 ho hb hg hat; rw [← Ny189.out] at ho; have n0_ := kzA (blk_grown (g := gb183) (o := .cells #[.int .i64 a1_0, .int .i64 a1_1, .int .i64 a1_2, .int .i64 a1_3] 23 (0, 0)) (by (with_reducible repeat (first | refine kAH ?_ _ | refine kAI ?_ | refine kAG ?_ _)); exact BK183.out) hg (Kd.S_ne HO_5.out BK183.out (by decide))); have n1_ := kzA (hb); have n2_ := kzA (ho); clear BK183; clear HB; clear HO_5; clear HO188; have BK183 := n0_; have HB := n1_; have HO191 := n2_; clear n0_ n1_ n2_; clear ho hb hg hat))
        go_roundg k1
        case measure => have := HK1.out; omega
        case rel => exact ⟨(y189), (wrap64 (x13_1 + 1)), (by first | rfl | (simp; done) | (simp [*]; done)), H', ⟨by have := HK1.out; omega⟩, ⟨by (with_reducible repeat (first | apply Kd.kCF | apply Kd.kCE | apply Kd.S_drew)); exact HO191.out⟩, ⟨by (with_reducible repeat (first | refine kAH ?_ _ | refine kAI ?_ | refine kAG ?_ _)); exact BK183.out⟩, ⟨by repeat (first | (with_reducible first | exact HB.out | apply kAB | apply kAA | apply kAC | refine kAF ?_ GE183.out) | exact HB.out)⟩⟩
       ·rw [if_neg c12] at H
        exact absurd H (by simp)
      ·rw [if_neg c10] at H
       exact absurd H (by simp)
     ·rw [if_neg c9] at H
      exact absurd H (by simp)
    ·rw [if_neg c8] at H
     have c8b0 : decide (x13_1 < (l0.length : Int)) = false := decide_eq_false c8
     clear c8
     obtain rfl := Option.some.inj H
     go_wp2
     go_ret
     exact ⟨_, by first | rfl | (simp [kAN, kAM] <;> rfl) | (simp [*, kAN, kAM] <;> rfl), by (with_reducible repeat (first | apply Kd.kCF | apply Kd.kCE | apply Kd.S_drew)); exact HO_5.out, by repeat (first | (with_reducible first | exact HB.out | apply kAB | apply kAA | apply kAC | refine kAF ?_ GE183.out) | exact HB.out)⟩
 ·replace c4 := Bool.eq_false_iff.mpr c4
  subst c4
  have H1 : (some ([] : List (List Int))) = some r := by rw [if_neg (show ¬ (false = true) by decide)] at H; exact H
  clear H
  have H := H1
  clear H1
  obtain rfl := Option.some.inj H
  go_enter Tryd.func15, Tryd.ntmps15
  go_wp2_with (first | ((with_reducible refine kBA (N := 3) rfl ?_); refine kBD ?hg (N := 3) ?hd (cs := #[.int .i64 a1_0, .int .i64 a1_1, .int .i64 a1_2, .int .i64 a1_3]) (t := 23) ?hr ?_; (case hd => rfl); (case hg => rfl); (case hr => first | (go_simp; done) | (go_simp; rfl)); intro gb183 hg w17 hbox hb; have n0_ := kzA (kAK (by repeat (first | (with_reducible first | exact HB.out | apply kAB | apply kAA | apply kAC) | exact HB.out)) hb); have n1_ := kzA (hbox); have n2_ := kzA ((by rw [hg]; exact (kAJ (by repeat (first | (with_reducible first | exact HB.out | apply kAB | apply kAA | apply kAC) | exact HB.out))) : w.heap.size ≤ gb183)); have n3_ := kzA ((by rw [hg]; exact (kAJ (by repeat (first | (with_reducible first | exact HB.out | apply kAB | apply kAA | apply kAC) | exact HB.out))) : w.heap.size ≤ gb183)); clear HB; have HB := n0_; have BK183 := n1_; have GW183 := n2_; have GE183 := n3_; clear n0_ n1_ n2_ n3_; clear hb hbox hg; have hcz18_0 : w17.cell? ⟨gb183, 0, none⟩ = some (.int .i64 a1_0) := (kAD BK183.out 0).trans rfl; have hcz18_1 : w17.cell? ⟨gb183, 1, none⟩ = some (.int .i64 a1_1) := (kAD BK183.out 1).trans rfl; have hcz18_2 : w17.cell? ⟨gb183, 2, none⟩ = some (.int .i64 a1_2) := (kAD BK183.out 2).trans rfl; have hcz18_3 : w17.cell? ⟨gb183, 3, none⟩ = some (.int .i64 a1_3) := (kAD BK183.out 3).trans rfl; have hfz18_0 := kAE BK183.out 0; have hfz18_1 := kAE BK183.out 1; have hfz18_2 := kAE BK183.out 2; have hfz18_3 := kAE BK183.out 3) | ((with_reducible refine kAQ (f := 35) rfl ?_); refine kBI (some 9) rfl rfl Tryd.func35 (by kernel_rfl) rfl #[.agg #[.int .i64 a1_0, .int .i64 a1_1, .int .i64 a1_2, .int .i64 a1_3]] rfl (by (try simp only [List.map_toArray, List.map_cons, List.map_nil]); first | done | rfl | (simp only [List.length_drop, List.length_take]; rfl)) ?_; (with_reducible refine (stripe_Right.calls a1_0 a1_1 a1_2 a1_3 false _ A3.out).mono ?_); rintro e w19 ⟨rfl, hb⟩; refine ⟨_, rfl, ?_⟩; have n0_ := kzA (kAL (g := gb183) (o := .cells #[.int .i64 a1_0, .int .i64 a1_1, .int .i64 a1_2, .int .i64 a1_3] 23 (0, 0)) (by (with_reducible repeat (first | refine kAH ?_ _ | refine kAI ?_ | refine kAG ?_ _)); exact BK183.out) hb); have n1_ := kzA (kAK (by repeat (first | (with_reducible first | exact HB.out | apply kAB | apply kAA | apply kAC | refine kAF ?_ GE183.out) | exact HB.out)) hb); clear BK183; clear HB; have BK183 := n0_; have HB := n1_; clear n0_ n1_; (try clear hb); (try clear hb2); (try clear hk); (try clear hi)))
  go_ret
  exact ⟨_, by first | rfl | (simp [kAN, kAM] <;> rfl) | (simp [*, kAN, kAM] <;> rfl), by first | exact Kd.S_nil _ _ _ _ _ | exact Kd.N_nil _ _ _ _ _ | exact Kd.V_nil _ _ _ _ _ | exact Kd.Q_nil _ _ _ _ _ | exact Kd.R_nil _ _ _ _ _, by repeat (first | (with_reducible first | exact HB.out | apply kAB | apply kAA | apply kAC | refine kAF ?_ GE183.out) | exact HB.out)⟩
def IsS91 (w0 W : World) (g : Nat) (f0 : List Int) (f1 : Int) (f2 : Bool) : Prop := ∃ A0 c0, W.heap[g]? = some (.cells #[.slice A0 f0.length c0, .int .i64 f1, .bool f2] 91 (0, 0)) ∧ w0.heap.size ≤ g ∧ f0.length ≤ c0 ∧ Kd.C (Kd.int .u8) w0 A0 f0.length f0
theorem IsS91.grown {w0 W : World} {g : Nat} {f0 : List Int} {f1 : Int} {f2 : Bool} {W1 : World} {row : Option Nat} (h : IsS91 w0 W g f0 f1 f2) (hw : W.grownBy W1 row) (hne : some g ≠ row) : IsS91 w0 W1 g f0 f1 f2 := by
 obtain ⟨A0, c0, hb, hg, hl0, hr0⟩ := h
 exact ⟨A0, c0, blk_grown hb hw hne, hg, hl0, hr0⟩
theorem IsS91.below {w0 W : World} {g : Nat} {f0 : List Int} {f1 : Int} {f2 : Bool} {W1 : World} (h : IsS91 w0 W g f0 f1 f2) (hw : Below W.heap.size W W1) : IsS91 w0 W1 g f0 f1 f2 := h.grown (grown_of_below hw none) (by simp)
theorem IsS91.alloc {w0 W : World} {g : Nat} {f0 : List Int} {f1 : Int} {f2 : Bool} (h : IsS91 w0 W g f0 f1 f2) (o : Obj) : IsS91 w0 (W.alloc o) g f0 f1 f2 := h.below (kAB (Below.refl _ _) o)
theorem IsS91.drewN {w0 W : World} {g : Nat} {f0 : List Int} {f1 : Int} {f2 : Bool} (h : IsS91 w0 W g f0 f1 f2) (m : Nat) : IsS91 w0 (W.drewN m) g f0 f1 f2 := h
theorem IsS91.drew {w0 W : World} {g : Nat} {f0 : List Int} {f1 : Int} {f2 : Bool} (h : IsS91 w0 W g f0 f1 f2) : IsS91 w0 W.drew g f0 f1 f2 := h
theorem IsS91.apart {w0 W : World} {g : Nat} {f0 : List Int} {f1 : Int} {f2 : Bool} {α : Type} {d : Kd α} {e : Nat} {base : Nat} {ok : Nat → Prop} {v : Value} {xs : List α} (h : IsS91 w0 W g f0 f1 f2) (ho : d.R e W base ok v xs) (ht : ∀ q, q ∈ e :: d.E → q ≠ 91) : d.R e W base (fun k => ok k ∧ k ≠ g) v xs := by
 obtain ⟨A0, c0, hb, hg, hl0, hr0⟩ := h
 exact Kd.kBZ ho hb ht
theorem IsS91.own_ne {w0 W : World} {g : Nat} {f0 : List Int} {f1 : Int} {f2 : Bool} {α : Type} {d : Kd α} {e : Nat} {base : Nat} {ok : Nat → Prop} {v : Value} {xs : List α} (h : IsS91 w0 W g f0 f1 f2) (ho : d.R e W base ok v xs) (ht : e ≠ 91) : some g ≠ v.ownBlock := by
 obtain ⟨A0, c0, hb, hg, hl0, hr0⟩ := h
 exact Kd.R_ne ho hb ht
theorem IsS91.apartS {w0 W : World} {g : Nat} {f0 : List Int} {f1 : Int} {f2 : Bool} {α : Type} {d : Kd α} {e : Nat} {base : Nat} {ok : Nat → Prop} {v : Value} {xs : List α} (h : IsS91 w0 W g f0 f1 f2) (ho : d.S e W base ok v xs) (ht : ∀ q, q ∈ e :: d.E → q ≠ 91) : d.S e W base (fun k => ok k ∧ k ≠ g) v xs := by
 obtain ⟨A0, c0, hb, hg, hl0, hr0⟩ := h
 exact Kd.S_types ho hb ht
theorem IsS91.own_neS {w0 W : World} {g : Nat} {f0 : List Int} {f1 : Int} {f2 : Bool} {α : Type} {d : Kd α} {e : Nat} {base : Nat} {ok : Nat → Prop} {v : Value} {xs : List α} (h : IsS91 w0 W g f0 f1 f2) (ho : d.S e W base ok v xs) (ht : e ≠ 91) : some g ≠ v.ownBlock := by
 obtain ⟨A0, c0, hb, hg, hl0, hr0⟩ := h
 exact Kd.S_ne ho hb ht
theorem IsS91.lt {w0 W : World} {g : Nat} {f0 : List Int} {f1 : Int} {f2 : Bool} (h : IsS91 w0 W g f0 f1 f2) : g < W.heap.size := by
 obtain ⟨A0, c0, hb, hg, hl0, hr0⟩ := h
 exact kCH hb
theorem IsS91.ge {w0 W : World} {g : Nat} {f0 : List Int} {f1 : Int} {f2 : Bool} (h : IsS91 w0 W g f0 f1 f2) : w0.heap.size ≤ g := by
 obtain ⟨A0, c0, hb, hg, hl0, hr0⟩ := h
 exact hg
theorem IsS91.ne_blk {w0 W : World} {g : Nat} {f0 : List Int} {f1 : Int} {f2 : Bool} {a : Nat} {cs : Array Value} {t : TypeId} {fr : Nat × Nat} (h : IsS91 w0 W g f0 f1 f2) (hb2 : W.heap[a]? = some (.cells cs t fr)) (ht : t ≠ 91) : g ≠ a := by
 obtain ⟨A0, c0, hb, hg, hl0, hr0⟩ := h
 rintro rfl
 rw [hb] at hb2
 injection hb2 with hb2
 injection hb2 with _ ht2
 exact ht ht2.symm
theorem IsS91.far {w0 W : World} {g : Nat} {f0 : List Int} {f1 : Int} {f2 : Bool} {p : Addr} (h : IsS91 w0 W g f0 f1 f2) (hne : g ≠ p.block) (u : Value) : IsS91 w0 (W.setCell p u) g f0 f1 f2 := by
 obtain ⟨A0, c0, hb, hg, hl0, hr0⟩ := h
 exact ⟨A0, c0, kBB hb hne u, hg, hl0, hr0⟩
theorem cellS91_0 {W : World} {g : Nat} {A0 : Option Addr} {c0 : Nat} {f0 : List Int} {f1 : Int} {f2 : Bool} (h : W.heap[g]? = some (.cells #[.slice A0 f0.length c0, .int .i64 f1, .bool f2] 91 (0, 0))) : W.cell? ⟨g, 0, none⟩ = some (.slice A0 f0.length c0) := (kAD h 0).trans rfl
theorem cellS91_1 {W : World} {g : Nat} {A0 : Option Addr} {c0 : Nat} {f0 : List Int} {f1 : Int} {f2 : Bool} (h : W.heap[g]? = some (.cells #[.slice A0 f0.length c0, .int .i64 f1, .bool f2] 91 (0, 0))) : W.cell? ⟨g, 1, none⟩ = some (.int .i64 f1) := (kAD h 1).trans rfl
theorem IsS91.kCC {w0 W : World} {g : Nat} {f0 : List Int} {f1 : Int} {f2 : Bool} (h : IsS91 w0 W g f0 f1 f2) (x : Int) : IsS91 w0 (W.setCell ⟨g, 1, none⟩ (.int .i64 x)) g f0 x f2 := by
 obtain ⟨A0, c0, hb, hg, hl0, hr0⟩ := h
 exact ⟨A0, c0, by simpa using blk_set hb 1 (.int .i64 x), hg, hl0, hr0⟩
theorem cellS91_2 {W : World} {g : Nat} {A0 : Option Addr} {c0 : Nat} {f0 : List Int} {f1 : Int} {f2 : Bool} (h : W.heap[g]? = some (.cells #[.slice A0 f0.length c0, .int .i64 f1, .bool f2] 91 (0, 0))) : W.cell? ⟨g, 2, none⟩ = some (.bool f2) := (kAD h 2).trans rfl
theorem IsS91.kCB {w0 W : World} {g : Nat} {f0 : List Int} {f1 : Int} {f2 : Bool} (h : IsS91 w0 W g f0 f1 f2) (x : Bool) : IsS91 w0 (W.setCell ⟨g, 2, none⟩ (.bool x)) g f0 f1 x := by
 obtain ⟨A0, c0, hb, hg, hl0, hr0⟩ := h
 exact ⟨A0, c0, by simpa using blk_set hb 2 (.bool x), hg, hl0, hr0⟩
def little_Read.f (l0 : List Int) : Option (List Int × Int × Bool) := some (l0, 0, false)
set_option maxHeartbeats 8000000 in
set_option maxRecDepth 100000 in
theorem little_Read.calls (A0 : Option Addr) (c0 : Nat) (l0 : List Int) (r1 : List Int) (r2 : Int) (r3 : Bool) (w0 w : World) (hB : Below w0.heap.size w0 w) (hr0 : Kd.C (Kd.int .u8) w0 A0 l0.length l0) (hc0 : l0.length ≤ c0) (h : little_Read.f l0 = some (r1, r2, r3)) :
  Calls Tryd.prog 41 #[.slice A0 l0.length c0] w fun e w' => ∃ g_ : Nat, e = .returned (.pointer (some ⟨g_, 0, none⟩)) ∧ IsS91 w0 w' g_ r1 r2 r3 ∧ Below w0.heap.size w0 w' ∧ Below w.heap.size w w' := by
 have hu91 := Tryd.underlying91
 have HR0 := kzA hr0
 have HC0 := kzA hc0
 clear hr0 hc0
 have HBW := kzA (Below.refl w.heap.size w)
 have HW0 := kzA hB.size
 have HB := kzA hB
 clear hB
 have H : (some (l0, 0, false)) = some (r1, r2, r3) := h
 clear h
 simp only [Option.some.injEq, Prod.mk.injEq] at H
 obtain ⟨rfl, rfl, rfl⟩ := H
 go_enter Tryd.func41, Tryd.ntmps41
 go_wp2_with (first | ((with_reducible refine kBA (N := 5) rfl ?_); refine kBD ?hg (N := 5) ?hd (cs := #[.slice A0 l0.length c0, .int .i64 0, .bool false]) (t := 91) ?hr ?_; (case hd => rfl); (case hg => rfl); (case hr => first | (go_simp; done) | (go_simp; rfl)); intro gb192 hg w2 hbox hb; have n0_ := kzA (kAK HBW.out hb); have n1_ := kzA (kAK (by repeat (first | (with_reducible first | exact HB.out | apply kAB | apply kAA | apply kAC) | exact HB.out)) hb); have n2_ := kzA (hbox); have n3_ := kzA ((by rw [hg]; exact (kAJ (by repeat (first | (with_reducible first | exact HBW.out | apply kAB | apply kAA | apply kAC) | exact HBW.out))) : w.heap.size ≤ gb192)); have n4_ := kzA ((Nat.le_trans HW0.out (by rw [hg]; exact (kAJ (by repeat (first | (with_reducible first | exact HBW.out | apply kAB | apply kAA | apply kAC) | exact HBW.out))) : w.heap.size ≤ gb192) : w0.heap.size ≤ gb192)); clear HBW; clear HB; have HBW := n0_; have HB := n1_; have BK192 := n2_; have GW192 := n3_; have GE192 := n4_; clear n0_ n1_ n2_ n3_ n4_; clear hb hbox hg))
 go_ret
 exact ⟨_, rfl, (show IsS91 w0 _ gb192 l0 0 false from ⟨_, _, by (with_reducible repeat (first | refine kAH ?_ _ | refine kAI ?_ | refine kAG ?_ _)); exact BK192.out, GE192.out, HC0.out, HR0.out⟩), by repeat (first | (with_reducible first | exact HB.out | apply kAB | apply kAA | apply kAC | refine kAF ?_ GE192.out) | exact HB.out), by repeat (first | (with_reducible first | exact HBW.out | apply kAB | apply kAA | apply kAC | refine kAF ?_ GW192.out) | exact HBW.out)⟩
def little_Reader_Left.f (s0_0 : List Int) (s0_1 : Int) (s0_2 : Bool) : Option (Int × Int × Bool) := some (wrap64 ((s0_0.length : Int) - s0_1), s0_1, s0_2)
set_option maxHeartbeats 8000000 in
set_option maxRecDepth 100000 in
theorem little_Reader_Left.calls (g : Nat) (s0_0 : List Int) (s0_1 : Int) (s0_2 : Bool) (r1 : Int) (r2 : Int) (r3 : Bool) (w0 w : World) (hI : IsS91 w0 w g s0_0 s0_1 s0_2) (hB : Below w0.heap.size w0 w) (h : little_Reader_Left.f s0_0 s0_1 s0_2 = some (r1, r2, r3)) :
  Calls Tryd.prog 55 #[.pointer (some ⟨g, 0, none⟩)] w fun e w' => e = .returned (.int .i64 r1) ∧ IsS91 w0 w' g s0_0 r2 r3 ∧ Below w0.heap.size w0 w' ∧ KeepBut w w' g none := by
 have HI0 := kzA hI
 have HK := kzA (KeepBut.refl w g none)
 have HL := kzA hB.size
 clear hI
 have HW0 := kzA hB.size
 have HB := kzA hB
 clear hB
 have H : (some (wrap64 ((s0_0.length : Int) - s0_1), s0_1, s0_2)) = some (r1, r2, r3) := h
 clear h
 simp only [Option.some.injEq, Prod.mk.injEq] at H
 obtain ⟨rfl, rfl, rfl⟩ := H
 obtain ⟨ASz2_0, cSz2_0, HGz2, hgz2, HLSz2_0, HSz2_0⟩ := HI0.out
 have hcz2_0 := cellS91_0 HGz2
 have hcz2_1 := cellS91_1 HGz2
 have hcz2_2 := cellS91_2 HGz2
 have hfz2_1 := kAE HGz2 1
 have hfz2_2 := kAE HGz2 2
 clear HGz2 hgz2
 go_enter Tryd.func55, Tryd.ntmps55
 go_wp2
 repeat (go_quiet (fail); try go_wp2)
 go_ret
 exact ⟨by first | rfl | (simp [kAN, kAM] <;> rfl) | (simp [*, kAN, kAM] <;> rfl), by repeat (first | (with_reducible first | exact HI0.out | apply IsS91.alloc | apply IsS91.drewN | apply IsS91.drew | apply IsS91.kCC | apply IsS91.kCB) | exact HI0.out), by repeat (first | (with_reducible first | exact HB.out | apply kAB | apply kAA | apply kAC | refine kAF ?_ (IsS91.ge HI0.out)) | exact HB.out), by repeat (first | (with_reducible first | exact HK.out | apply KeepBut.set_ | apply kBP | apply kBU | apply kBS) | exact HK.out)⟩
def slices_Clone_byte_byte.f (l0 : List Int) : Option (List Int) := if l0.length ≤ 100000000000 then some l0 else none
set_option maxHeartbeats 1000000 in
theorem slices_Clone_byte_byte.calls (A0 : Option Addr) (c0 : Nat) (l0 : List Int) (r : List Int) (w : World) (hr0 : Kd.C (Kd.int .u8) w A0 l0.length l0) (hc0 : l0.length ≤ c0) (h : slices_Clone_byte_byte.f l0 = some r) :
  Calls Tryd.prog 56 #[.slice A0 l0.length c0] w fun e w' => ∃ v0_ : Value, e = .returned (v0_) ∧ Kd.R (Kd.int .u8) 5 w' w.heap.size (fun _ => True) v0_ r ∧ Below w.heap.size w w' := by
 unfold slices_Clone_byte_byte.f at h
 split at h
 case isFalse => cases h
 next hn =>
 injection h with h
 subst h
 have HR0 := kzA hr0
 have heq := fun (w : World) => Lib.run_eql_slice_nil (P := Tryd.prog) w 27 5 A0 l0.length c0 0 0 Tryd.underlying27
 cases A0 with
 | none =>
  have hl : l0 = [] := by
   cases l0 with
   | nil => rfl
   | cons a l =>
    obtain ⟨ad, h, _⟩ := hr0.2.2 (by simp)
    cases h
  subst hl
  have heq' := fun (w : World) => (heq w)
  simp only [Option.isNone_none, List.length_nil] at heq'
  clear heq hr0 hc0
  go_enter Tryd.func56, Tryd.ntmps56
  go_wp2
  go_ret
  exact ⟨_, rfl, Kd.R_nil _ _ _ _ _, Below.refl _ _⟩
 | some ad0 =>
  have heq' := fun (w : World) => (heq w)
  simp only [Option.isNone_some] at heq'
  have HB := kzA (Below.refl w.heap.size w)
  clear heq hr0 hc0
  go_enter Tryd.func56, Tryd.ntmps56
  go_wp2_with (first | ((with_reducible refine kBA (N := 5) rfl ?_); refine Kd.R_lit (Kd.int .u8) _ 5 ?hg (N := 5) ?hd (xs := ([] : List Int)) (inner := []) (ok := fun _ => True) (okp := fun _ => True) ?hr ?hp (fun _ hk => hk) trivial (Below.refl _ _) (Nat.le_refl _) (by simp) ?_; (case hd => rfl); (case hg => rfl); (case hr => first | (go_simp; done) | (go_simp; rfl)); (case hp => exact (Reps.none _ _)); intro v1 w1 ho hb hg_ hnew_; clear hg_ hnew_; have HO := kzA ho; have HB1 := kzA hb; clear ho hb) | ((with_reducible refine kCA (b := .append) (xs := #[.tmp 5, .tmp 6]) rfl ?_); at_builtin; refine Kd.R_append_rows (Kd.int .u8) (w0 := w) w.heap.size rfl (.tmp 5) (.tmp 6) 27 5 (.int .u8 0) 1 rfl Tryd.underlying27 info5 rfl (by decide) (by omega) v1 [] l0 _ _ _ (fun _ => True) (fun _ => False) rfl rfl ?aO ?aR (fun _ _ h => h) (fun _ h => h.elim) ?aF ?aB ?aS ?aL ?_; (case aR => exact Kd.kCG HR0.out HB1.out); (case aB => exact HB1.out); (case aF => exact (fun _ _ => trivial)); (case aO => exact HO.out); (case aS => exact HB1.out.size); (case aL => simp; omega); intro v2 w2 ho hb hg hat; have HO2 := kzA ho; have HB2 := kzA hb; clear ho hb hg hat))
  go_ret
  exact ⟨_, rfl, HO2.out, HB2.out⟩
def little_Reader_Bytes.f (s0_0 : List Int) (s0_1 : Int) (s0_2 : Bool) (a1 : Int) : Option (List Int × Int × Bool) :=
 if 0 ≤ s0_1 ∧ s0_1 ≤ s0_0.length ∧ s0_0.length ≤ 100000000000 then
  (if s0_2 = true then some ([], s0_1, true)
   else if (s0_0.length : Int) - s0_1 < mx a1 0 then some ([], s0_1, true)
   else some ((s0_0.drop s0_1.toNat).take (mx a1 0).toNat, s0_1 + mx a1 0, false))
 else none
set_option maxHeartbeats 2000000 in
set_option maxRecDepth 100000 in
theorem Bytes_pos (n : Nat) (g : Nat) (s0_0 : List Int) (i : Nat) (s0_2 : Bool) (r1 : List Int) (r2 : Int) (r3 : Bool) (w0 w : World) (hI : IsS91 w0 w g s0_0 (i : Int) s0_2) (hB : Below w0.heap.size w0 w) (h1 : i ≤ s0_0.length) (h2 : s0_0.length ≤ 100000000000)
  (h : (if s0_2 = true then some ([], (i : Int), true) else if (s0_0.length : Int) - (i : Int) < (n : Int) then some ([], (i : Int), true) else some ((s0_0.drop i).take n, (i : Int) + (n : Int), false)) = some (r1, r2, r3)) :
  Calls Tryd.prog 42 #[.pointer (some ⟨g, 0, none⟩), .int .i64 (n : Int)] w fun e w' => ∃ v0_ : Value, e = .returned (v0_) ∧ Kd.R (Kd.int .u8) 5 w' w.heap.size (fun _ => True) v0_ r1 ∧ IsS91 w0 w' g s0_0 r2 r3 ∧ Below w0.heap.size w0 w' ∧ KeepBut w w' g none := by
 have HI := kzA hI
 have HB := kzA hB
 obtain ⟨A0, c0, hb, hg, hl0, hr0⟩ := hI
 have q0 := cellS91_0 hb
 have q1 := cellS91_1 hb
 have q2 := cellS91_2 hb
 have p1 := kAE hb 1
 have p2 := kAE hb 2
 have HG := kzA hg
 clear hb hg hr0 hB
 have hn0 : decide ((n : Int) < 0) = false := by simp
 cases s0_2 with
 | true =>
  simp only [if_true] at h
  obtain ⟨rfl, rfl, rfl⟩ : r1 = [] ∧ r2 = (i : Int) ∧ r3 = true := by cases h; exact ⟨rfl, rfl, rfl⟩
  clear h
  go_enter Tryd.func42, Tryd.ntmps42
  go_wp2
  go_ret
  refine ⟨_, rfl, Kd.R_nil _ _ _ _ _, ?_, ?_, ?_⟩
  ·repeat (first | exact HI.out | apply IsS91.drewN | apply IsS91.kCB)
  ·repeat (first | exact HB.out | apply kAA | refine kAF ?_ HG.out)
  ·repeat (first | exact KeepBut.refl _ _ _ | apply kBP | apply KeepBut.set_)
 | false =>
  have hl64 : wrap64 ((s0_0.length : Int) - (i : Int)) = (s0_0.length : Int) - (i : Int) := by unfold wrap64; omega
  have HL : Aside0 (∀ W, IsS91 w0 W g s0_0 (i : Int) false → Below w0.heap.size w0 W → Calls Tryd.prog 55 #[.pointer (some ⟨g, 0, none⟩)] W fun e w' => e = .returned (.int .i64 ((s0_0.length : Int) - (i : Int))) ∧ IsS91 w0 w' g s0_0 (i : Int) false ∧ Below w0.heap.size w0 w' ∧ KeepBut W w' g none) := ⟨fun W h1 h2 => little_Reader_Left.calls g s0_0 (i : Int) false _ _ _ w0 W h1 h2 (by unfold little_Reader_Left.f; rw [hl64])⟩
  clear hl64
  simp only [Bool.false_eq_true, if_false] at h
  split at h
  ·next hlt =>
   obtain ⟨rfl, rfl, rfl⟩ : r1 = [] ∧ r2 = (i : Int) ∧ r3 = true := by cases h; exact ⟨rfl, rfl, rfl⟩
   clear h
   have g1 : decide ((s0_0.length : Int) - (i : Int) < (n : Int)) = true := by simp; omega
   go_enter Tryd.func42, Tryd.ntmps42
   go_wp2_with (go_at_call 55; refine (HL.out _ (by first | exact HI.out | exact HI.out.drewN _) (by first | exact HB.out | exact kAA HB.out _)).mono ?_; rintro e w1 ⟨rfl, hI1, hB1, hK1⟩; have HI1 := kzA hI1; have HB1 := kzA hB1; have HK1 := kzA hK1; obtain ⟨A1, c1, hb1, hg1, hl1, hr1⟩ := hI1; have t0 := cellS91_0 hb1; have t1 := cellS91_1 hb1; have t2 := cellS91_2 hb1; have u1 := kAE hb1 1; have u2 := kAE hb1 2; clear hb1 hr1 hB1 hK1)
   go_ret
   refine ⟨_, rfl, Kd.R_nil _ _ _ _ _, ?_, ?_, ?_⟩
   ·repeat (first | exact HI1.out | apply IsS91.drewN | apply IsS91.kCB)
   ·repeat (first | exact HB1.out | apply kAA | refine kAF ?_ HG.out)
   ·repeat (first | exact HK1.out | apply kBP | apply KeepBut.set_)
  ·next hlt =>
   obtain ⟨hL, rfl, rfl⟩ : r1 = (s0_0.drop i).take n ∧ r2 = (i : Int) + (n : Int) ∧ r3 = false := by cases h; exact ⟨rfl, rfl, rfl⟩
   have HL0 := kzA hL
   clear hL
   clear h
   have g1 : decide ((s0_0.length : Int) - (i : Int) < (n : Int)) = false := by simp; omega
   have hli : (i : Int) ≤ (s0_0.length : Int) := by omega
   go_enter Tryd.func42, Tryd.ntmps42
   go_wp2_with (go_at_call 55; refine (HL.out _ (by first | exact HI.out | exact HI.out.drewN _) (by first | exact HB.out | exact kAA HB.out _)).mono ?_; rintro e w1 ⟨rfl, hI1, hB1, hK1⟩; have HI1 := kzA hI1; have HB1 := kzA hB1; have HK1 := kzA hK1; obtain ⟨A1, c1, hb1, hg1, hl1, hr1⟩ := hI1; have HR1 := kzA hr1; have t0 := cellS91_0 hb1; have t1 := cellS91_1 hb1; have t2 := cellS91_2 hb1; have u1 := kAE hb1 1; have u2 := kAE hb1 2; clear hb1 hr1 hB1 hK1)
   have HI2 := kzA (HI1.out.kCC ((i : Int) + (n : Int)))
   have HB2 := kzA (kAF (j := 1) (v := .int .i64 ((i : Int) + (n : Int))) HB1.out HG.out)
   have HK2 := kzA (HK1.out.set_ 1 (.int .i64 ((i : Int) + (n : Int))))
   generalize hW2 : World.setCell w1 _ _ = W2 at HI2 HB2 HK2 ⊢
   clear hW2 t0 t1 t2 u1 u2 HR1 hl1
   obtain ⟨A2, c2, hb2, hg2, hl2, hr2⟩ := HI2.out
   have HR2 := kzA hr2
   have v0 := cellS91_0 hb2
   have v1 := cellS91_1 hb2
   have v2 := cellS91_2 hb2
   clear hb2 hr2 hg2
   obtain ⟨j0, hj0, _, hsz, _⟩ := info_parts info5
   obtain ⟨A3, hcut, hA3, hC3⟩ := print_mid_of (P := Tryd.prog) (Value.int .u8) (0 : Int) 27 5 .i64 .i64 Tryd.underlying27 hj0 hsz A2 c2 s0_0 (i : Int) ((i : Int) + (n : Int)) (by omega) (by omega) (by omega) hl2
   clear hj0 hsz
   have eL : (s0_0.take (((i : Int) + (n : Int)) : Int).toNat).drop (i : Int).toNat = (s0_0.drop i).take n := by
    rw [Int.toNat_natCast, show ((i : Int) + (n : Int)).toNat = i + n from by omega, List.drop_take]
    congr 1
    omega
   rw [eL, ← HL0.out] at hcut hA3 hC3
   obtain ⟨c3, hc3⟩ : ∃ c3, c3 = c2 - (i : Int).toNat := ⟨_, rfl⟩
   rw [← hc3] at hcut hC3
   have HC3 := kzA hC3
   have HA3 := kzA (Kd.C_of_reads (h1 := fun _ => rfl) (hA3 _ (Kd.reads_of_C HR2.out)))
   have HLL : Aside0 (r1.length ≤ 100000000000) := ⟨by rw [HL0.out, List.length_take, List.length_drop]; omega⟩
   have hwi : IntKind.i64.wrap (i : Int) = (i : Int) := IntWalk.i64_in _ (by omega)
   clear eL hc3 hA3 hC3
   go_still_tail 15, (by kernel_rfl)
   change wpList _ _ _ _ _ W2.drew
   have HI3 := kzA HI2.out.drew
   have HB3 := kzA (below_drew HB2.out)
   have HK3 := kzA (kBU HK2.out)
   generalize W2.drew = W3 at HI3 HB3 HK3 ⊢
   clear v0 v1 v2
   go_wp2_with (go_at_call 56; refine (slices_Clone_byte_byte.calls A3 c3 r1 r1 _ (Kd.kCG HA3.out HB3.out) HC3.out (by unfold slices_Clone_byte_byte.f; rw [if_pos HLL.out])).mono ?_; rintro e w5 ⟨v, rfl, ho, hb5⟩; have HO5 := kzA ho; have HB5 := kzA hb5; clear ho hb5)
   go_ret
   refine ⟨_, rfl, Kd.kBO HO5.out (keep_size HK3.out), HI3.out.below HB5.out, below_then HB3.out HB3.out.size HB5.out, KeepBut.trans HK3.out (KeepBut.of_below HB5.out g none) (.inl rfl)⟩
set_option maxHeartbeats 2000000 in
set_option maxRecDepth 100000 in
theorem Bytes_neg (a1 : Int) (ha : a1 < 0) (g : Nat) (s0_0 : List Int) (i : Nat) (s0_2 : Bool) (r1 : List Int) (r2 : Int) (r3 : Bool) (w0 w : World) (hI : IsS91 w0 w g s0_0 (i : Int) s0_2) (hB : Below w0.heap.size w0 w) (h1 : i ≤ s0_0.length) (h2 : s0_0.length ≤ 100000000000)
  (h : (if s0_2 = true then some ([], (i : Int), true) else if (s0_0.length : Int) - (i : Int) < 0 then some ([], (i : Int), true) else some ((s0_0.drop i).take 0, (i : Int) + 0, false)) = some (r1, r2, r3)) :
  Calls Tryd.prog 42 #[.pointer (some ⟨g, 0, none⟩), .int .i64 a1] w fun e w' => ∃ v0_ : Value, e = .returned (v0_) ∧ Kd.R (Kd.int .u8) 5 w' w.heap.size (fun _ => True) v0_ r1 ∧ IsS91 w0 w' g s0_0 r2 r3 ∧ Below w0.heap.size w0 w' ∧ KeepBut w w' g none := by
 have HI := kzA hI
 have HB := kzA hB
 obtain ⟨A0, c0, hb, hg, hl0, hr0⟩ := hI
 have q0 := cellS91_0 hb
 have q1 := cellS91_1 hb
 have q2 := cellS91_2 hb
 have p1 := kAE hb 1
 have p2 := kAE hb 2
 have HG := kzA hg
 clear hb hg hr0 hB
 have hn0 : decide (a1 < 0) = true := by simpa using ha
 cases s0_2 with
 | true =>
  simp only [if_true] at h
  obtain ⟨rfl, rfl, rfl⟩ : r1 = [] ∧ r2 = (i : Int) ∧ r3 = true := by cases h; exact ⟨rfl, rfl, rfl⟩
  clear h
  go_enter Tryd.func42, Tryd.ntmps42
  go_wp2
  go_ret
  refine ⟨_, rfl, Kd.R_nil _ _ _ _ _, ?_, ?_, ?_⟩
  ·repeat (first | exact HI.out | apply IsS91.drewN | apply IsS91.kCB)
  ·repeat (first | exact HB.out | apply kAA | refine kAF ?_ HG.out)
  ·repeat (first | exact KeepBut.refl _ _ _ | apply kBP | apply KeepBut.set_)
 | false =>
  have hl64 : wrap64 ((s0_0.length : Int) - (i : Int)) = (s0_0.length : Int) - (i : Int) := by unfold wrap64; omega
  have HL : Aside0 (∀ W, IsS91 w0 W g s0_0 (i : Int) false → Below w0.heap.size w0 W → Calls Tryd.prog 55 #[.pointer (some ⟨g, 0, none⟩)] W fun e w' => e = .returned (.int .i64 ((s0_0.length : Int) - (i : Int))) ∧ IsS91 w0 w' g s0_0 (i : Int) false ∧ Below w0.heap.size w0 w' ∧ KeepBut W w' g none) := ⟨fun W h1 h2 => little_Reader_Left.calls g s0_0 (i : Int) false _ _ _ w0 W h1 h2 (by unfold little_Reader_Left.f; rw [hl64])⟩
  clear hl64
  simp only [Bool.false_eq_true, if_false] at h
  split at h
  ·next hlt =>
   obtain ⟨rfl, rfl, rfl⟩ : r1 = [] ∧ r2 = (i : Int) ∧ r3 = true := by cases h; exact ⟨rfl, rfl, rfl⟩
   clear h
   exfalso; omega
  ·next hlt =>
   obtain ⟨hL, rfl, rfl⟩ : r1 = (s0_0.drop i).take 0 ∧ r2 = (i : Int) + 0 ∧ r3 = false := by cases h; exact ⟨rfl, rfl, rfl⟩
   have HL0 := kzA hL
   clear hL
   clear h
   have g1 : decide ((s0_0.length : Int) - (i : Int) < 0) = false := by simp; omega
   have hli : (i : Int) ≤ (s0_0.length : Int) := by omega
   go_enter Tryd.func42, Tryd.ntmps42
   go_wp2_with (go_at_call 55; refine (HL.out _ (by first | exact HI.out | exact HI.out.drewN _) (by first | exact HB.out | exact kAA HB.out _)).mono ?_; rintro e w1 ⟨rfl, hI1, hB1, hK1⟩; have HI1 := kzA hI1; have HB1 := kzA hB1; have HK1 := kzA hK1; obtain ⟨A1, c1, hb1, hg1, hl1, hr1⟩ := hI1; have HR1 := kzA hr1; have t0 := cellS91_0 hb1; have t1 := cellS91_1 hb1; have t2 := cellS91_2 hb1; have u1 := kAE hb1 1; have u2 := kAE hb1 2; clear hb1 hr1 hB1 hK1)
   have HI2 := kzA (HI1.out.kCC ((i : Int) + 0))
   have HB2 := kzA (kAF (j := 1) (v := .int .i64 ((i : Int) + 0)) HB1.out HG.out)
   have HK2 := kzA (HK1.out.set_ 1 (.int .i64 ((i : Int) + 0)))
   rw [Int.add_zero] at HI2 HB2 HK2
   generalize hW2 : World.setCell w1 _ _ = W2 at HI2 HB2 HK2 ⊢
   clear hW2 t0 t1 t2 u1 u2 HR1 hl1
   obtain ⟨A2, c2, hb2, hg2, hl2, hr2⟩ := HI2.out
   have HR2 := kzA hr2
   have v0 := cellS91_0 hb2
   have v1 := cellS91_1 hb2
   have v2 := cellS91_2 hb2
   clear hb2 hr2 hg2
   obtain ⟨j0, hj0, _, hsz, _⟩ := info_parts info5
   obtain ⟨A3, hcut, hA3, hC3⟩ := print_mid_of (P := Tryd.prog) (Value.int .u8) (0 : Int) 27 5 .i64 .i64 Tryd.underlying27 hj0 hsz A2 c2 s0_0 (i : Int) (i : Int) (by omega) (by omega) (by omega) hl2
   clear hj0 hsz
   have eL : (s0_0.take ((i : Int) : Int).toNat).drop (i : Int).toNat = (s0_0.drop i).take 0 := by
    rw [Int.toNat_natCast, List.drop_take, Nat.sub_self]
   rw [eL, ← HL0.out] at hcut hA3 hC3
   obtain ⟨c3, hc3⟩ : ∃ c3, c3 = c2 - (i : Int).toNat := ⟨_, rfl⟩
   rw [← hc3] at hcut hC3
   have HC3 := kzA hC3
   have HA3 := kzA (Kd.C_of_reads (h1 := fun _ => rfl) (hA3 _ (Kd.reads_of_C HR2.out)))
   have HLL : Aside0 (r1.length ≤ 100000000000) := ⟨by rw [HL0.out, List.length_take, List.length_drop]; omega⟩
   have hwi : IntKind.i64.wrap (i : Int) = (i : Int) := IntWalk.i64_in _ (by omega)
   clear eL hc3 hA3 hC3
   go_still_tail 15, (by kernel_rfl)
   change wpList _ _ _ _ _ W2.drew
   have HI3 := kzA HI2.out.drew
   have HB3 := kzA (below_drew HB2.out)
   have HK3 := kzA (kBU HK2.out)
   generalize W2.drew = W3 at HI3 HB3 HK3 ⊢
   clear v0 v1 v2
   go_wp2_with (go_at_call 56; refine (slices_Clone_byte_byte.calls A3 c3 r1 r1 _ (Kd.kCG HA3.out HB3.out) HC3.out (by unfold slices_Clone_byte_byte.f; rw [if_pos HLL.out])).mono ?_; rintro e w5 ⟨v, rfl, ho, hb5⟩; have HO5 := kzA ho; have HB5 := kzA hb5; clear ho hb5)
   go_ret
   refine ⟨_, rfl, Kd.kBO HO5.out (keep_size HK3.out), (by rw [Int.add_zero]; exact HI3.out.below HB5.out), below_then HB3.out HB3.out.size HB5.out, KeepBut.trans HK3.out (KeepBut.of_below HB5.out g none) (.inl rfl)⟩
theorem little_Reader_Bytes.calls (g : Nat) (s0_0 : List Int) (s0_1 : Int) (s0_2 : Bool) (a1 : Int) (r1 : List Int) (r2 : Int) (r3 : Bool) (w0 w : World) (hI : IsS91 w0 w g s0_0 s0_1 s0_2) (hB : Below w0.heap.size w0 w) (h : little_Reader_Bytes.f s0_0 s0_1 s0_2 a1 = some (r1, r2, r3)) :
  Calls Tryd.prog 42 #[.pointer (some ⟨g, 0, none⟩), .int .i64 a1] w fun e w' => ∃ v0_ : Value, e = .returned (v0_) ∧ Kd.R (Kd.int .u8) 5 w' w.heap.size (fun _ => True) v0_ r1 ∧ IsS91 w0 w' g s0_0 r2 r3 ∧ Below w0.heap.size w0 w' ∧ KeepBut w w' g none := by
 unfold little_Reader_Bytes.f at h
 split at h
 case isFalse => cases h
 next hc =>
 obtain ⟨h0, h1, h2⟩ := hc
 obtain ⟨i, rfl⟩ : ∃ i : Nat, s0_1 = (i : Int) := ⟨s0_1.toNat, by omega⟩
 by_cases hneg : a1 < 0
 ·have hm : mx a1 0 = 0 := by unfold mx; rw [if_pos hneg]
  rw [hm] at h
  exact Bytes_neg a1 hneg g s0_0 i s0_2 r1 r2 r3 w0 w hI hB (by omega) h2 h
 ·obtain ⟨n, rfl⟩ : ∃ n : Nat, a1 = (n : Int) := ⟨a1.toNat, by omega⟩
  have hm : mx (n : Int) 0 = (n : Int) := by unfold mx; rw [if_neg hneg]
  rw [hm] at h
  exact Bytes_pos n g s0_0 i s0_2 r1 r2 r3 w0 w hI hB (by omega) h2 h
def little_Get.l0 : Nat → List Int → Int → Int → Option (Int)
 | 0, _, _, _ => none
 | k + 1, x0, x3, x4 => if x4 ≥ 0 then (if 0 ≤ x4 then (if x4 < (x0.length : Int) then (little_Get.l0 k x0 (Go.bits .or .u64 (IntKind.u64.wrap (x3 * 256)) (IntKind.u64.wrap (rd x0 x4))) (wrap64 (x4 - 1))) else (none)) else (none)) else (some x3)
def little_Get.f (k : Nat) (l0 : List Int) : Option (Int) := little_Get.l0 k l0 0 ((mn (l0.length : Int) 8) - 1)
theorem little_Get.mono_l : ∀ k, (∀ y0 y1 y2, LeO (little_Get.l0 k y0 y1 y2) (little_Get.l0 (k + 1) y0 y1 y2))
 | 0 => fun _ _ _ r h => by simp [little_Get.l0] at h
 | k + 1 => by
  have ih0 := little_Get.mono_l k
  ·intro y0 y1 y2
   unfold little_Get.l0
   repeat' first
   | (with_reducible exact ih0 _ _ _)
   | (with_reducible exact LeO.refl _)
   | (with_reducible exact LeO.none _)
   | (with_reducible refine LeO.ite ?_ ?_)
   | (with_reducible refine LeO.bind ?_ (fun _ => ?_))
   | exact ih0 _ _ _
   | exact LeO.none _
   | refine LeO.ite ?_ ?_
   | refine LeO.bind ?_ (fun _ => ?_)
theorem little_Get.mono : ∀ a0 k, LeO (little_Get.f k a0) (little_Get.f (k + 1) a0) := by
 intro a0 k
 have ih0 := little_Get.mono_l k
 unfold little_Get.f
 repeat' first
   | (with_reducible exact ih0 _ _ _)
   | (with_reducible exact LeO.refl _)
   | (with_reducible exact LeO.none _)
   | (with_reducible refine LeO.ite ?_ ?_)
   | (with_reducible refine LeO.bind ?_ (fun _ => ?_))
   | exact ih0 _ _ _
   | exact LeO.none _
   | refine LeO.ite ?_ ?_
   | refine LeO.bind ?_ (fun _ => ?_)
set_option maxHeartbeats 8000000 in
set_option maxRecDepth 100000 in
theorem little_Get.calls (k : Nat) (A0 : Option Addr) (c0 : Nat) (l0 : List Int) (r : Int) (w : World) (hr0 : Kd.C (Kd.int .u8) w A0 l0.length l0) (hc0 : l0.length ≤ c0) (h : little_Get.f k l0 = some r) :
  Calls Tryd.prog 57 #[.slice A0 l0.length c0] w fun e w' => e = .returned (.int .u64 r) ∧ Below w.heap.size w w' := by
 have HR0 := kzA hr0
 have HC0 := kzA hc0
 clear hr0 hc0
 have HB := kzA (Below.refl w.heap.size w)
 have H : (little_Get.l0 k l0 0 ((mn (l0.length : Int) 8) - 1)) = some r := h
 clear h
 obtain ⟨ji2, hji2⟩ : ∃ j_ : Int, (mn (l0.length : Int) 8) = j_ := ⟨_, rfl⟩
 replace H : (little_Get.l0 k l0 0 ((ji2) - 1)) = some r := by first | (rw [hji2] at H; exact H) | (simp only [hji2] at H ⊢; exact H)
 (try (have hji2h : ji2 ≤ 8 := by (rw [← hji2]; unfold mn; (repeat' split) <;> omega)))
 (try (have hji2g : ji2 ≤ 64 := by omega))
 (try (have hji2l : 0 ≤ ji2 := by (rw [← hji2]; unfold mn; (repeat' split) <;> omega)))
 (try (have hji2m : 0 ≤ ji2 := by omega))
 have hji2_ : (if 8 < (l0.length : Int) then 8 else (l0.length : Int)) = ji2 := hji2
 have H' := kzA H
 clear H
 go_enter Tryd.func57, Tryd.ntmps57
 go_wp2
 go_loopg [3, 4] k (fun kq v3 v4 w' => ∃ (x3_1 : Int) (x4_1 : Int), v3 = .int .u64 x3_1 ∧ v4 = .int .i64 x4_1 ∧ Aside0 (little_Get.l0 kq l0 x3_1 x4_1 = some r) ∧ Aside0 (kq ≤ k) ∧ Aside0 (Below w.heap.size w w'))
 case atStart => exact ⟨(0), ((ji2) - 1), (by first | rfl | (simp; done) | (simp [*]; done)), (by first | rfl | (simp; done) | (simp only [← hji2] <;> (first | rfl | simp)) | (simp [*]; done)), H', ⟨Nat.le_refl _⟩, ⟨by repeat (first | (with_reducible first | exact HB.out | apply kAB | apply kAA | apply kAC) | exact HB.out)⟩⟩
 case round =>
  clear H'
  try clear p2
  obtain ⟨x3_1, x4_1, rfl, rfl, HA, HK1, HB⟩ := hrel
  cases gk with
  | zero => exact absurd HA.out (by simp [little_Get.l0])
  | succ k1 =>
   have H := HA.out
   clear HA
   simp only [little_Get.l0] at H
   by_cases c3 : x4_1 ≥ 0
   ·rw [if_pos c3] at H
    have c3b0 : decide (0 ≤ x4_1) = true := decide_eq_true c3
    clear c3
    by_cases c4 : 0 ≤ x4_1
    ·rw [if_pos c4] at H
     have c4b0 : decide (0 ≤ x4_1) = true := decide_eq_true c4
     clear c4
     by_cases c5 : x4_1 < (l0.length : Int)
     ·rw [if_pos c5] at H
      have c5b0 : decide (x4_1 < (l0.length : Int)) = true := decide_eq_true c5
      clear c5
      have H' := kzA H
      clear H
      have p193 : 0 ≤ (x4_1 : Int) := of_decide_eq_true (by first | (with_reducible assumption) | assumption)
      have q193 : x4_1 < (l0.length : Int) := of_decide_eq_true (by first | (with_reducible assumption) | assumption)
      obtain ⟨ad193, e193, hx193_0⟩ := Kd.at_int HR0.out x4_1 p193 q193
      cases e193
      replace hx193_0 := (HB.out.cell (World.block_lt_of_cell? w _ hx193_0)).trans hx193_0
      replace p193 := eq_true p193
      replace q193 := eq_true q193
      go_wp2
      go_roundg k1
      case measure => have := HK1.out; omega
      case rel => exact ⟨(Go.bits .or .u64 (IntKind.u64.wrap (x3_1 * 256)) (IntKind.u64.wrap (rd l0 x4_1))), (wrap64 (x4_1 - 1)), (by first | rfl | (simp; done) | (simp [*]; done)), (by first | rfl | (simp; done) | (simp [*]; done)), H', ⟨by have := HK1.out; omega⟩, ⟨by repeat (first | (with_reducible first | exact HB.out | apply kAB | apply kAA | apply kAC) | exact HB.out)⟩⟩
     ·rw [if_neg c5] at H
      exact absurd H (by simp)
    ·rw [if_neg c4] at H
     exact absurd H (by simp)
   ·rw [if_neg c3] at H
    have c3b0 : decide (0 ≤ x4_1) = false := decide_eq_false c3
    clear c3
    obtain rfl := Option.some.inj H
    go_wp2
    go_ret
    exact ⟨by first | rfl | (simp [kAN, kAM] <;> rfl) | (simp only [← hji2]; first | rfl | (simp [kAN, kAM] <;> rfl)) | (simp [*, kAN, kAM] <;> rfl), by repeat (first | (with_reducible first | exact HB.out | apply kAB | apply kAA | apply kAC) | exact HB.out)⟩
def little_Reader_Num.f (k : Nat) (s0_0 : List Int) (s0_1 : Int) (s0_2 : Bool) (a1 : Int) : Option (Int × Int × Bool) := (little_held.f a1).bind fun t194 => ((little_Reader_Bytes.f s0_0 s0_1 s0_2 t194).bind fun bt195 => ((little_Get.f k bt195.1).bind fun t200 => (some (t200, bt195.2.1, bt195.2.2))))
theorem little_Reader_Num.mono : ∀ a0 a1 a2 a3 k, LeO (little_Reader_Num.f k a0 a1 a2 a3) (little_Reader_Num.f (k + 1) a0 a1 a2 a3) := by
 intro a0 a1 a2 a3 k
 unfold little_Reader_Num.f
 repeat' first
   | (with_reducible exact little_Get.mono _ _)
   | (with_reducible exact LeO.refl _)
   | (with_reducible exact LeO.none _)
   | (with_reducible refine LeO.ite ?_ ?_)
   | (with_reducible refine LeO.bind ?_ (fun _ => ?_))
   | exact little_Get.mono _ _
   | exact LeO.none _
   | refine LeO.ite ?_ ?_
   | refine LeO.bind ?_ (fun _ => ?_)
set_option maxHeartbeats 8000000 in
set_option maxRecDepth 100000 in
theorem little_Reader_Num.calls (k : Nat) (g : Nat) (s0_0 : List Int) (s0_1 : Int) (s0_2 : Bool) (a1 : Int) (r1 : Int) (r2 : Int) (r3 : Bool) (w0 w : World) (hI : IsS91 w0 w g s0_0 s0_1 s0_2) (hB : Below w0.heap.size w0 w) (h : little_Reader_Num.f k s0_0 s0_1 s0_2 a1 = some (r1, r2, r3)) :
  Calls Tryd.prog 43 #[.pointer (some ⟨g, 0, none⟩), .int .i64 a1] w fun e w' => e = .returned (.int .u64 r1) ∧ IsS91 w0 w' g s0_0 r2 r3 ∧ Below w0.heap.size w0 w' ∧ KeepBut w w' g none := by
 have HI0 := kzA hI
 have HK := kzA (KeepBut.refl w g none)
 have HL := kzA hB.size
 clear hI
 have HW0 := kzA hB.size
 have HB := kzA hB
 clear hB
 have H : ((little_held.f a1).bind fun t194 => ((little_Reader_Bytes.f s0_0 s0_1 s0_2 t194).bind fun bt195 => ((little_Get.f k bt195.1).bind fun t200 => (some (t200, bt195.2.1, bt195.2.2))))) = some (r1, r2, r3) := h
 clear h
 replace H := Option.bind_eq_some_iff.mp H
 obtain ⟨t194, A30, H⟩ := H
 replace H : ((little_Reader_Bytes.f s0_0 s0_1 s0_2 t194).bind fun bt195 => ((little_Get.f k bt195.1).bind fun t200 => (some (t200, bt195.2.1, bt195.2.2)))) = some (r1, r2, r3) := H
 have A3 := kzA A30
 clear A30
 replace H := Option.bind_eq_some_iff.mp H
 obtain ⟨⟨t195, t198, t199⟩, A40, H⟩ := H
 replace H : ((little_Get.f k t195).bind fun t200 => (some (t200, t198, t199))) = some (r1, r2, r3) := H
 have A4 := kzA A40
 clear A40
 replace H := Option.bind_eq_some_iff.mp H
 obtain ⟨t200, A50, H⟩ := H
 replace H : (some (t200, t198, t199)) = some (r1, r2, r3) := H
 have A5 := kzA A50
 clear A50
 simp only [Option.some.injEq, Prod.mk.injEq] at H
 obtain ⟨rfl, rfl, rfl⟩ := H
 go_enter Tryd.func43, Tryd.ntmps43
 go_wp2_with (first | ((with_reducible refine kAQ (f := 50) rfl ?_); refine kBI (some 7) rfl rfl Tryd.func50 (by kernel_rfl) rfl #[.int .i64 a1] rfl (by (try simp only [List.map_toArray, List.map_cons, List.map_nil]); first | done | rfl | (simp only [List.length_drop, List.length_take]; rfl)) ?_; (with_reducible refine (little_held.calls a1 t194 _ A3.out).mono ?_); rintro e w6 ⟨rfl, hb⟩; refine ⟨_, rfl, ?_⟩; have n0_ := kzA (IsS91.below (by repeat (first | (with_reducible first | exact HI0.out | apply IsS91.alloc | apply IsS91.drewN | apply IsS91.drew | apply IsS91.kCC | apply IsS91.kCB) | exact HI0.out)) hb); have n1_ := kzA (KeepBut.trans (by repeat (first | (with_reducible first | exact HK.out | apply KeepBut.set_ | apply kBP | apply kBU | apply kBS) | exact HK.out)) (KeepBut.of_below hb g none) (.inl rfl)); have n2_ := kzA (kAK (by repeat (first | (with_reducible first | exact HB.out | apply kAB | apply kAA | apply kAC | refine kAF ?_ (IsS91.ge HI0.out)) | exact HB.out)) hb); clear HI0; clear HK; clear HB; have HI0 := n0_; have HK := n1_; have HB := n2_; clear n0_ n1_ n2_; (try clear hb); (try clear hb2); (try clear hk); (try clear hi)) | ((with_reducible refine kAQ (f := 42) rfl ?_); refine kBI (some 8) rfl rfl Tryd.func42 (by kernel_rfl) rfl #[.pointer (some ⟨g, 0, none⟩), .int .i64 t194] rfl (by (try simp only [List.map_toArray, List.map_cons, List.map_nil]); first | done | rfl | (simp only [List.length_drop, List.length_take]; rfl)) ?_; (with_reducible refine (little_Reader_Bytes.calls g s0_0 s0_1 s0_2 t194 t195 t198 t199 w0 _ ?side1 ?side2 A4.out).mono ?_); (case side1 => repeat (first | (with_reducible first | exact HI0.out | apply IsS91.alloc | apply IsS91.drewN | apply IsS91.drew | apply IsS91.kCC | apply IsS91.kCB) | exact HI0.out)); (case side2 => repeat (first | (with_reducible first | exact HB.out | apply kAB | apply kAA | apply kAC | refine kAF ?_ (IsS91.ge HI0.out)) | exact HB.out)); rintro e w7 ⟨v196, rfl, ho0, hi, hb, hk⟩; refine ⟨_, rfl, ?_⟩; have n0_ := kzA (Kd.kBO ho0 (keep_size (w := w) (g := g) (row := none) (by repeat (first | (with_reducible first | exact HK.out | apply KeepBut.set_ | apply kBP | apply kBU | apply kBS) | exact HK.out)))); have n1_ := kzA (KeepBut.trans (by repeat (first | (with_reducible first | exact HK.out | apply KeepBut.set_ | apply kBP | apply kBU | apply kBS) | exact HK.out)) hk (.inl rfl)); have n2_ := kzA (hb); have n3_ := kzA (hi); clear HK; clear HB; clear HI0; have HO197 := n0_; have HK := n1_; have HB := n2_; have HI0 := n3_; clear n0_ n1_ n2_ n3_; (try clear hb); (try clear hb2); (try clear hk); (try clear hi); (try clear ho0); obtain ⟨Ao8, co8, eo8⟩ := Kd.kCK HO197.out; subst eo8) | ((with_reducible refine kAQ (f := 57) rfl ?_); refine kBI (some 9) rfl rfl Tryd.func57 (by kernel_rfl) rfl #[.slice Ao8 t195.length co8] rfl (by (try simp only [List.map_toArray, List.map_cons, List.map_nil]); first | done | rfl | (simp only [List.length_drop, List.length_take]; rfl)) ?_; (with_reducible refine (little_Get.calls k _ _ t195 t200 _ ?side1 ?side2 A5.out).mono ?_); (case side1 => repeat (first | exact (Kd.R_reads' HO197.out).2.2 | (with_reducible refine Kd.kBH ?_ _) | (with_reducible refine Kd.kBF ?_ _) | (with_reducible refine Kd.kBM ?_))); (case side2 => exact (Kd.R_reads' HO197.out).2.1); rintro e w9 ⟨rfl, hb⟩; refine ⟨_, rfl, ?_⟩; have n0_ := kzA (Kd.kBJ (by (with_reducible repeat (first | apply Kd.kAP | apply Kd.kAO | apply Kd.kAR)); exact HO197.out) hb); have n1_ := kzA (IsS91.below (by repeat (first | (with_reducible first | exact HI0.out | apply IsS91.alloc | apply IsS91.drewN | apply IsS91.drew | apply IsS91.kCC | apply IsS91.kCB) | exact HI0.out)) hb); have n2_ := kzA (KeepBut.trans (by repeat (first | (with_reducible first | exact HK.out | apply KeepBut.set_ | apply kBP | apply kBU | apply kBS) | exact HK.out)) (KeepBut.of_below hb g none) (.inl rfl)); have n3_ := kzA (kAK (by repeat (first | (with_reducible first | exact HB.out | apply kAB | apply kAA | apply kAC | refine kAF ?_ (IsS91.ge HI0.out)) | exact HB.out)) hb); clear HO197; clear HI0; clear HK; clear HB; have HO197 := n0_; have HI0 := n1_; have HK := n2_; have HB := n3_; clear n0_ n1_ n2_ n3_; (try clear hb); (try clear hb2); (try clear hk); (try clear hi)))
 go_ret
 exact ⟨by first | rfl | (simp [kAN, kAM] <;> rfl) | (simp [*, kAN, kAM] <;> rfl), by repeat (first | (with_reducible first | exact HI0.out | apply IsS91.alloc | apply IsS91.drewN | apply IsS91.drew | apply IsS91.kCC | apply IsS91.kCB) | exact HI0.out), by repeat (first | (with_reducible first | exact HB.out | apply kAB | apply kAA | apply kAC | refine kAF ?_ (IsS91.ge HI0.out)) | exact HB.out), by repeat (first | (with_reducible first | exact HK.out | apply KeepBut.set_ | apply kBP | apply kBU | apply kBS) | exact HK.out)⟩
end Go.Proofs.YtoamamnbapilhaaDoor.X
