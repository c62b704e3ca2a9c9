/- The document's example of layer 10 holds. -/
import Derived.Test.YtgbfkfmjbacemaaCnL
namespace Go.Proofs.Ytgbfkfmjbacemaa.Cn
open Go.RowKit Go.Proofs.YtgbfkfmjbacemaaW.PrintWords Go.Proofs.YtgbfkfmjbacemaaW.PrintLast Go.Proofs.YtgbfkfmjbacemaaW.PrintMore Go.Proofs.Ytgbfkfmjbacemaa.PCanonReads Go.Proofs.Ytgbfkfmjbacemaa.Lb
attribute [local go_sem] max2_int min2_int max_two min_two
set_option linter.unusedVariables false
set_option linter.unusedSimpArgs false

/-- a block that was just laid is read as a list. -/
theorem C_lit {w : World} {g e : Nat} {k : IntKind} {xs : List Int} (h : w.heap[g]? = some (.cells (cells k xs) e (0, 0))) (hm : xs.length ≤ 9223372036854775807) : Kd.C (Kd.int k) w (some ⟨g, 0, none⟩) xs.length xs := by
  obtain ⟨_, _, hC⟩ := Kd.R_reads' (R_of_blk (base := 0) (ok := fun _ => True) h (Nat.zero_le _) trivial hm)
  exact hC

theorem C_new (W : World) (k : IntKind) (e : Nat) (xs : List Int) (hm : xs.length ≤ 9223372036854775807) : Kd.C (Kd.int k) (W.alloc (.cells (cells k xs) e)) (some ⟨W.heap.size, 0, none⟩) xs.length xs :=
  C_lit (heap_alloc_new W _) hm

theorem below_lit {W W1 : World} {o : Obj} (h : Below (W.alloc o).heap.size (W.alloc o) W1) : Below W.heap.size W W1 :=
  ((Below.refl W.heap.size W).alloc (Nat.le_refl _) o).trans (h.mono (by simp))
set_option maxHeartbeats 4000000 in
set_option maxRecDepth 100000 in
theorem alive_calls (w : World) : Calls Try.prog 7 #[] w fun e w' => e = .returned (.bool true) ∧ Below w.heap.size w w' := by
  have hc1 := Aside0.mk (show chk [2, 1, 3, 3] = 0 by decide)
  have hc2 := Aside0.mk (show chk [1, 1, 1] = 30 by decide)
  have hc3 := Aside0.mk (show chk [2, 2] = 31 by decide)
  have hrd := Aside0.mk (show rd1 [2, 1, 3, 3] (bitsOf [27]) 17 0 0 0 = (2, 0, 3) by decide)
  have hcode := Aside0.mk (show codeOf [2, 1, 3, 3] 3 = (7, 3) by decide)
  have hcodes := Aside0.mk (show codes [2, 1, 3, 3] = [2, 0, 6, 7] by decide)
  go_enter Try.func7, Try.ntmps7
  go_wp2_with fail
  refine (codes_slice _ _ [2, 1, 3, 3] _ (C_new w .i64 3 (ints [2, 1, 3, 3]) (by decide)) (by decide) (by decide) (by decide) hc1.out).mono ?_
  rintro e w1 ⟨A1, c1, rfl, H1⟩
  go_wp2_with fail
  refine (codes_fail _ _ (ints [1, 1, 1]) _ 30 (by decide) (by rw [← hc2.out]; exact check_good _ _ [1, 1, 1] _ (C_new w1 .i64 3 (ints [1, 1, 1]) (by decide)) (by decide) (by decide) (by decide))).mono ?_
  rintro e w2 ⟨rfl, hb2⟩
  have H2 := Aside0.mk hb2
  clear hb2
  go_wp2_with fail
  refine (codes_fail _ _ (ints [2, 2]) _ 31 (by decide) (by rw [← hc3.out]; exact check_good _ _ [2, 2] _ (C_new w2 .i64 3 (ints [2, 2]) (by decide)) (by decide) (by decide) (by decide))).mono ?_
  rintro e w3 ⟨rfl, hb3⟩
  have H3 := Aside0.mk hb3
  clear hb3
  go_wp2_with fail
  have b1 : Below w.heap.size w w1 := below_lit H1.out.2.2
  have b2 : Below w1.heap.size w1 w2 := below_lit H2.out
  have b3 : Below w2.heap.size w2 w3 := below_lit H3.out
  have B3 : Aside0 (Below w.heap.size w w3) := ⟨below_then (below_then b1 b1.size b2) (below_then b1 b1.size b2).size b3⟩
  have L3 : Aside0 (Kd.C (Kd.int .i64) w3 (some ⟨w.heap.size, 0, none⟩) 4 (ints [2, 1, 3, 3])) := ⟨Kd.C_below (Kd.C_below (Kd.C_below (C_new w .i64 3 (ints [2, 1, 3, 3]) (by decide)) H1.out.2.2) b2) b3⟩
  have K3 : Aside0 (Kd.C (Kd.int .u32) w3 A1 4 [2, 0, 6, 7]) := ⟨by
    obtain ⟨_, _, h⟩ := Kd.R_reads' H1.out.2.1
    rw [hcodes.out] at h
    exact Kd.C_below (Kd.C_below h b2) b3⟩
  clear b1 b2 b3
  refine (new_good _ _ [2, 1, 3, 3] _ L3.out (by decide) (by decide) (by decide) hc1.out).mono ?_
  rintro e w4 ⟨g, rfl, hg, hT, hb4⟩
  have HT4 := Aside0.mk hT
  have B4 := Aside0.mk hb4
  clear hT hb4
  have hz4 : w3.heap.size ≤ w4.heap.size := B4.out.size
  go_wp2_with fail
  have hC5 := C_new w4 .u8 5 (ints [27]) (by decide)
  refine (bits_Read.calls _ _ (ints [27]) (ints [27]) 0 _ _ (Below.refl _ _) hC5 (by decide) rfl).mono ?_
  rintro e w6 ⟨gR, rfl, hs6, hb6, _⟩
  have S6 := Aside0.mk hs6
  have B6 := Aside0.mk hb6
  have T5 : Aside0 (IsT (w4.alloc (.cells (cells .u8 (ints [27])) 5)) g [2, 1, 3, 3]) := ⟨HT4.out.below (below_alloc (Below.refl _ _) _)⟩
  clear hs6 hb6 hC5
  go_wp2_with fail
  refine (read_calls g gR [2, 1, 3, 3] [27] 0 _ _ T5.out S6.out B6.out (by decide) (by decide) (by decide) (by decide) (by decide) (by decide)).mono ?_
  rw [hrd.out]
  rintro e w7 ⟨rfl, _, hb7, _⟩
  have B7 := Aside0.mk hb7
  clear hb7
  go_wp2_with fail
  refine (code_calls g [2, 1, 3, 3] 3 _ (T5.out.below B7.out) (by decide)).mono ?_
  rw [hcode.out]
  rintro e w8 ⟨rfl, ⟨m8, rfl⟩⟩
  have b7 : Below w4.heap.size w4 w7 := below_lit B7.out
  have K7 : Aside0 (Kd.C (Kd.int .u32) w7 A1 4 [2, 0, 6, 7]) := ⟨Kd.C_below (Kd.C_below K3.out B4.out) b7⟩
  have BW : Aside0 (Below w.heap.size w (w7.drewN m8)) := ⟨pw_below_drewN (below_then (below_then B3.out B3.out.size B4.out) (below_then B3.out B3.out.size B4.out).size b7) _⟩
  obtain ⟨ad, e1, x0⟩ := Kd.at_int K7.out 0 (by decide) (by decide)
  obtain ⟨_, e2, x1⟩ := Kd.at_int K7.out 1 (by decide) (by decide)
  obtain ⟨_, e3, x2⟩ := Kd.at_int K7.out 2 (by decide) (by decide)
  obtain ⟨_, e4, x3⟩ := Kd.at_int K7.out 3 (by decide) (by decide)
  cases e1
  cases e2
  cases e3
  cases e4
  clear b7
  have y0 : w7.cell? (ad.add 0) = some (.int .u32 2) := x0
  have y1 : w7.cell? ⟨ad.block, ad.off + 1, none⟩ = some (.int .u32 0) := x1
  have y2 : w7.cell? ⟨ad.block, ad.off + 2, none⟩ = some (.int .u32 6) := x2
  have y3 : w7.cell? ⟨ad.block, ad.off + 3, none⟩ = some (.int .u32 7) := x3
  have y4 : w7.cell? ad = some (.int .u32 2) := by rw [← y0]; rfl
  clear x0 x1 x2 x3
  go_wp2
  go_ret
  exact ⟨rfl, BW.out⟩
end Go.Proofs.Ytgbfkfmjbacemaa.Cn
