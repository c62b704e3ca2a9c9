import Derived.Test.YtoamamnbapilhaaDoorSlB
import Derived.Test.YtoamamnbapilhaaDoorXx4
import Derived.Test.YtoamamnbapilhaaDoorXx6
import Derived.Test.YtoamamnbapilhaaDoorXx8
import Derived.Test.YtoamamnbapilhaaDoorXx13
import Derived.Test.YtoamamnbapilhaaDoorXx14
namespace Go.Proofs.YtoamamnbapilhaaDoor.X
open Go.RowKit Go.Proofs.YtoamamnbapilhaaDoorW.PrintWords Go.Proofs.YtoamamnbapilhaaDoorW.PrintLast Go.Proofs.YtoamamnbapilhaaDoorW.PrintMore
set_option linter.unusedVariables false
set_option linter.unusedSimpArgs false
theorem ev_loop {R A : Type} (L : List A) (F : Int → Nat → Option R) (r : R) (hdone : Ev (F (L.length : Int)) r) (hstep : ∀ i, (h : i < L.length) → Ev (F ((i + 1 : Nat) : Int)) r → Ev (F (i : Int)) r) : Ev (F 0) r := by
  have : ∀ d i, L.length = i + d → Ev (F (i : Int)) r := by
    intro d
    induction d with
    | zero => intro i h; have : i = L.length := by omega
              subst this; exact hdone
    | succ d ih => intro i h; exact hstep i (by omega) (ih (i + 1) (by omega))
  exact this L.length 0 (by omega)
def Rt (n k s b : Int) : Bool := decide (1 ≤ n ∧ n ≤ 255 ∧ 0 ≤ k ∧ k ≤ 255 - n ∧ 5 ≤ s ∧ s ≤ 16777216 ∧ 1 ≤ b ∧ b ≤ 16777216)
theorem Rt_iff {n k s b : Int} : Rt n k s b = true ↔ (1 ≤ n ∧ n ≤ 255 ∧ 0 ≤ k ∧ k ≤ 255 - n ∧ 5 ≤ s ∧ s ≤ 16777216 ∧ 1 ≤ b ∧ b ≤ 16777216) := by unfold Rt; simp
theorem right_eq (n k s b : Int) : stripe_Right.f n k s b = some (Rt n k s b) := by
  have e : Rt n k s b = true ∨ Rt n k s b = false := by cases Rt n k s b <;> simp
  have hw : 1 ≤ n → n ≤ 255 → wrap64 (255 - n) = 255 - n := fun h1 h2 => wrap_in _ (by omega) (by omega)
  unfold stripe_Right.f stripe_sized.f
  by_cases c1 : n < 1
  · rw [if_pos c1]; congr 1; symm; unfold Rt; simp; omega
  rw [if_neg c1]
  by_cases c2 : n > 255
  · rw [if_pos c2]; congr 1; symm; unfold Rt; simp; omega
  rw [if_neg c2, hw (by omega) (by omega)]
  by_cases c3 : k < 0
  · rw [if_pos c3]; congr 1; symm; unfold Rt; simp; omega
  rw [if_neg c3]
  by_cases c4 : k > 255 - n
  · rw [if_pos c4]; congr 1; symm; unfold Rt; simp; omega
  rw [if_neg c4]
  by_cases c5 : s ≥ 5
  · rw [if_pos c5]
    by_cases c6 : s ≤ 16777216
    · simp only [c6, decide_true, Option.bind_some, if_true]
      by_cases c7 : b ≥ 1
      · rw [if_pos c7]; congr 1; unfold Rt; rw [decide_eq_decide]; clear hw; omega
      · rw [if_neg c7]; congr 1; symm; unfold Rt; simp; omega
    · simp only [c6, decide_false, Option.bind_some]
      rw [if_neg (by simp)]; congr 1; symm; unfold Rt; simp; omega
  · rw [if_neg c5]
    simp only [Option.bind_some]
    rw [if_neg (by simp)]; congr 1; symm; unfold Rt; simp; omega
theorem ref_right_eq (n k s b : Int) : footlockerref23_Right.f n k s b = some (Rt n k s b) := by
  have hw : 1 ≤ n → n ≤ 255 → wrap64 (255 - n) = 255 - n := fun h1 h2 => wrap_in _ (by omega) (by omega)
  unfold footlockerref23_Right.f
  by_cases c1 : n ≥ 1
  · rw [if_pos c1]
    by_cases c2 : n ≤ 255
    · rw [if_pos c2, hw (by omega) (by omega)]
      by_cases c3 : k ≥ 0
      · rw [if_pos c3]
        by_cases c4 : k ≤ 255 - n
        · rw [if_pos c4]
          by_cases c5 : s ≥ 5
          · rw [if_pos c5]
            by_cases c6 : s ≤ 16777216
            · rw [if_pos c6]
              by_cases c7 : b ≥ 1
              · rw [if_pos c7]; congr 1; unfold Rt; rw [decide_eq_decide]; clear hw; omega
              · rw [if_neg c7]; congr 1; symm; unfold Rt; simp; omega
            · rw [if_neg c6]; congr 1; symm; unfold Rt; simp; omega
          · rw [if_neg c5]; congr 1; symm; unfold Rt; simp; omega
        · rw [if_neg c4]; congr 1; symm; unfold Rt; simp; omega
      · rw [if_neg c3]; congr 1; symm; unfold Rt; simp; omega
    · rw [if_neg c2]; congr 1; symm; unfold Rt; simp; omega
  · rw [if_neg c1]; congr 1; symm; unfold Rt; simp; omega
def blk (s b : Int) : Nat := cnt (8 + s).toNat b.toNat
theorem long_eq {n k s b : Int} (h : Rt n k s b = true) : stripe_Long.f n k s b = some (8 + s) := by
  have h2 := Rt_iff.1 h
  simp only [stripe_Long.f, right_eq, h, Option.bind_some, if_true]
  rw [wrap_in _ (by omega) (by omega)]
theorem blk_int {s b : Int} (hs : 5 ≤ s) (hb : 1 ≤ b) : ((blk s b : Nat) : Int) = (8 + s + b - 1) / b := by
  unfold blk cnt
  obtain ⟨S, rfl⟩ := Int.eq_ofNat_of_zero_le (show 0 ≤ s by omega)
  obtain ⟨B, rfl⟩ := Int.eq_ofNat_of_zero_le (show 0 ≤ b by omega)
  rw [Int.natCast_ediv]
  congr 1
  omega
theorem blk_le {s b : Int} (hs : 5 ≤ s) (hs2 : s ≤ 16777216) (hb : 1 ≤ b) : blk s b ≤ 16777224 := by
  unfold blk cnt
  have h : ((8 + s).toNat + b.toNat - 1) / b.toNat ≤ (8 + s).toNat := by
    have hb' : 1 ≤ b.toNat := by omega
    have : ((8 + s).toNat + b.toNat - 1) < ((8 + s).toNat + 1) * b.toNat := by
      have := Nat.mul_le_mul_left (8 + s).toNat hb'
      rw [Nat.add_mul]
      omega
    exact Nat.lt_succ_iff.1 (Nat.div_lt_of_lt_mul (by rw [Nat.mul_comm]; exact this))
  omega
theorem blocks_eq {n k s b : Int} (h : Rt n k s b = true) : stripe_Blocks.f n k s b = some ((blk s b : Nat) : Int) := by
  have h2 := Rt_iff.1 h
  have h3 := blk_le h2.2.2.2.2.1 h2.2.2.2.2.2.1 h2.2.2.2.2.2.2.1
  have h4 := blk_int h2.2.2.2.2.1 h2.2.2.2.2.2.2.1
  simp only [stripe_Blocks.f, right_eq, h, Option.bind_some, if_true, long_eq h]
  rw [if_neg (by omega), wrap_in (8 + s + b) (by omega) (by omega), wrap_in (8 + s + b - 1) (by omega) (by omega), Int.tdiv_eq_ediv_of_nonneg (by omega), ← h4, wrap_in _ (by omega) (by omega)]
theorem ref_blocks {n k s b : Int} (h : Rt n k s b = true) : Ev (fun q => footlockerref23_Blocks.f q n k s b) ((blk s b : Nat) : Int) := by
  have h2 := Rt_iff.1 h
  have h3 := blk_le h2.2.2.2.2.1 h2.2.2.2.2.2.1 h2.2.2.2.2.2.2.1
  obtain ⟨S, hS⟩ : ∃ S : Nat, 8 + s = (S : Int) := ⟨(8 + s).toNat, by omega⟩
  obtain ⟨B, hB⟩ : ∃ B : Nat, b = (B : Int) := ⟨b.toNat, by omega⟩
  have hc : blk s b = cnt S B := by unfold blk; rw [hS, hB, Int.toNat_natCast, Int.toNat_natCast]
  have hlt := fun x => cnt_lt (L := S) (n := B) (x := x) (by omega)
  have key : ∀ d i, cnt S B = i + d → Ev (fun q => footlockerref23_Blocks.l0 q (i : Int) (((i * B : Nat)) : Int) n k s b) ((blk s b : Nat) : Int) := by
    intro d
    induction d with
    | zero =>
      intro i hi
      have hn : ¬ i * B < S := fun hh => by have := (hlt i).2 hh; omega
      refine Ev.done fun q => ?_
      simp only [footlockerref23_Blocks.l0]
      rw [wrap_in (8 + s) (by omega) (by omega), hS, if_neg (by omega)]
      congr 1
      rw [hc]; omega
    | succ d ih =>
      intro i hi
      have hn : i * B < S := (hlt i).1 (by omega)
      have := ih (i + 1) (by omega)
      refine Ev.step this fun q => ?_
      simp only [footlockerref23_Blocks.l0]
      rw [wrap_in (8 + s) (by omega) (by omega), hS, if_pos (by omega), wn i (by omega)]
      have e : wrap64 (((i * B : Nat) : Int) + b) = (((i + 1) * B : Nat) : Int) := by rw [wrap_in _ (by omega) (by omega), hB, Nat.add_mul]; omega
      rw [e]
  have := key (cnt S B) 0 (by omega)
  rw [Nat.zero_mul] at this
  exact Ev.of_eq this fun q => rfl
theorem ref_head {n k s b : Int} (h : Rt n k s b = true) : Ev (fun q => footlockerref24_Head.f q n k s b) (wrap64 (24 + (wrap64 ((wrap64 (4 * (wrap64 (n + k)))) * ((blk s b : Nat) : Int))))) :=
  Ev.bind2 (ref_blocks h) (Ev.pure fun _ => rfl) (fun q => rfl) (fun q => rfl)
theorem head_eq {n k s b : Int} (h : Rt n k s b = true) : seal_Head.f n k s b = some (wrap64 (24 + (wrap64 ((wrap64 (4 * (wrap64 (n + k)))) * ((blk s b : Nat) : Int))))) := by
  simp only [seal_Head.f, right_eq, h, Option.bind_some, if_true, blocks_eq h]
  congr 1
  generalize wrap64 ((wrap64 (4 * (wrap64 (n + k)))) * ((blk s b : Nat) : Int)) = P
  unfold wrap64
  omega
theorem head_not {n k s b : Int} (h : Rt n k s b = false) : seal_Head.f n k s b = some 0 := by
  simp only [seal_Head.f, right_eq, h, Option.bind_some]
  rfl
def okSeal (n k s b idx : Int) (sums : List (List Int)) : Bool := Rt n k s b && decide (0 ≤ idx ∧ idx < k ∧ (sums.length : Int) = n + k) && sums.all fun row => decide (row.length = blk s b)
theorem rows_all (sums : List (List Int)) (m : Nat) : (!sums.any fun row => decide ((row.length : Int) ≠ (m : Int))) = sums.all fun row => decide (row.length = m) := by
  induction sums with
  | nil => rfl
  | cons x l ih =>
    rw [List.any_cons, List.all_cons, Bool.not_or, ih]
    congr 1
    by_cases h : x.length = m
    · simp [h]
    · have : ¬ (x.length : Int) = (m : Int) := by omega
      simp [h, this]
theorem seal_right_eq (n k s b idx : Int) (sums : List (List Int)) : seal_right.f n k s b idx sums = some (okSeal n k s b idx sums) := by
  unfold seal_right.f okSeal
  rw [right_eq, Option.bind_some]
  cases h : Rt n k s b with
  | false => rfl
  | true =>
    have h2 := Rt_iff.1 h
    rw [if_neg (by simp), wrap_in (n + k) (by omega) (by omega), blocks_eq h]
    by_cases c1 : idx < 0
    · rw [if_pos c1]; congr 1; symm; simp; intros; omega
    rw [if_neg c1]
    by_cases c2 : k ≤ idx
    · rw [if_pos c2]; congr 1; symm; simp; intros; omega
    rw [if_neg c2]
    by_cases c3 : (sums.length : Int) = n + k
    · rw [if_pos c3, Option.bind_some]
      congr 1
      rw [show decide (0 ≤ idx ∧ idx < k ∧ (sums.length : Int) = n + k) = true from by simp; omega, Bool.true_and, Bool.true_and]
      exact rows_all sums _
    · rw [if_neg c3]; congr 1; symm; simp; intros; omega
theorem ref_seal_right (n k s b idx : Int) (sums : List (List Int)) : Ev (fun q => footlockerref24_Right.f q n k s b idx sums) (okSeal n k s b idx sums) := by
  have no : ∀ (r : Bool), r = false → Ev (fun q => footlockerref24_Right.j0 q true n k s b idx sums) r := fun r hr => Ev.done fun q => by subst hr; rfl
  cases h : Rt n k s b with
  | false =>
    refine Ev.of_eq (no (okSeal n k s b idx sums) (by unfold okSeal; rw [h]; rfl)) fun q => ?_
    simp only [footlockerref24_Right.f, ref_right_eq, h, Option.bind_some]
    rfl
  | true =>
    have h2 := Rt_iff.1 h
    have f0 : ∀ q, footlockerref24_Right.f q n k s b idx sums = (if idx < 0 then (footlockerref24_Right.j0 q true n k s b idx sums) else (if idx ≥ k then (footlockerref24_Right.j0 q true n k s b idx sums) else (footlockerref24_Right.j0 q ((sums.length : Int) != n + k) n k s b idx sums))) := fun q => by
      simp only [footlockerref24_Right.f, ref_right_eq, h, Option.bind_some, if_true]
      rw [wrap_in (n + k) (by omega) (by omega)]
    by_cases c1 : idx < 0
    · exact Ev.of_eq (no _ (by unfold okSeal; simp; intros; omega)) fun q => by rw [f0, if_pos c1]
    by_cases c2 : idx ≥ k
    · exact Ev.of_eq (no _ (by unfold okSeal; simp; intros; omega)) fun q => by rw [f0, if_neg c1, if_pos c2]
    by_cases c3 : (sums.length : Int) = n + k
    · have e3 : ((sums.length : Int) != n + k) = false := by simp [c3]
      have ok : okSeal n k s b idx sums = sums.all fun row => decide (row.length = blk s b) := by
        unfold okSeal
        rw [h, show decide (0 ≤ idx ∧ idx < k ∧ (sums.length : Int) = n + k) = true from by simp; omega]; rfl
      have key : ∀ d i, sums.length = i + d → Ev (fun q => footlockerref24_Right.l0 q (i : Int) n k s b idx sums) ((sums.drop i).all fun row => decide (row.length = blk s b)) := by
        intro d
        induction d with
        | zero =>
          intro i hi
          refine Ev.done fun q => ?_
          simp only [footlockerref24_Right.l0]
          rw [if_neg (by omega), List.drop_of_length_le (by omega)]; rfl
        | succ d ih =>
          intro i hi
          have hlt : i < sums.length := by omega
          rw [List.drop_eq_getElem_cons hlt, List.all_cons]
          by_cases hrow : sums[i].length = blk s b
          · rw [decide_eq_true hrow, Bool.true_and]
            refine Ev.stepBind2 (G := ?G) (ref_blocks h) (ih (i + 1) (by omega)) (fun q => ?_) (fun q => ?_)
            · exact fun q t => if (sums[i].length : Int) = t then footlockerref24_Right.l0 q ((i + 1 : Nat) : Int) n k s b idx sums else some false
            · simp only [footlockerref24_Right.l0]
              rw [if_pos (by omega), if_pos (by omega), rdL3_get _ _ hlt, wn i (by omega)]
            · rw [if_pos (by omega)]
          · rw [decide_eq_false hrow, Bool.false_and]
            refine Ev.stepBind2 (G := fun q t => if (sums[i].length : Int) = t then footlockerref24_Right.l0 q ((i + 1 : Nat) : Int) n k s b idx sums else some false) (H := fun _ => some false) (ref_blocks h) (Ev.pure fun _ => rfl) (fun q => ?_) (fun q => ?_)
            · simp only [footlockerref24_Right.l0]
              rw [if_pos (by omega), if_pos (by omega), rdL3_get _ _ hlt, wn i (by omega)]
            · rw [if_neg (by omega)]
      rw [ok]
      have k0 := key sums.length 0 (by omega)
      rw [List.drop_zero] at k0
      refine Ev.of_eq (F := fun q => footlockerref24_Right.f q n k s b idx sums) (Ev.step (F := fun q => footlockerref24_Right.j0 q false n k s b idx sums) k0 fun q => by simp only [footlockerref24_Right.j0]; rw [if_neg (by simp)]; rfl) fun q => by rw [f0, if_neg c1, if_neg c2, e3]
    · have e3 : ((sums.length : Int) != n + k) = true := by simp [c3]
      exact Ev.of_eq (no _ (by unfold okSeal; simp; intros; omega)) fun q => by rw [f0, if_neg c1, if_neg c2, e3]
def outOf (n k s b idx : Int) (sums : List (List Int)) : List Int := [70, 76, 82, 86] ++ layOf 2 [1, n, k, idx] ++ layOf 4 [s, b] ++ sums.flatMap (layOf 4)
def writeOf (n k s b idx : Int) (sums : List (List Int)) (col : List Int) : List Int × Int :=
  if okSeal n k s b idx sums = true ∧ (col.length : Int) = 8 + s then (outOf n k s b idx sums ++ bytesOf 4 (IntKind.u64.wrap (crcOf (outOf n k s b idx sums))) ++ col, 0) else ([], 1)
def few (sums : List (List Int)) : Prop := sums.length ≤ 1000 ∧ ∀ row ∈ sums, row.length ≤ 1000
theorem take_flat {A B : Type} (f : A → List B) (L : List A) (i : Nat) (hi : i < L.length) : (L.take (i + 1)).flatMap f = (L.take i).flatMap f ++ f L[i] := by
  rw [List.take_add_one, List.getElem?_eq_getElem hi, List.flatMap_append]
  show _ ++ [L[i]].flatMap f = _
  rw [List.flatMap_singleton]
theorem lay_take {sums : List (List Int)} (hf : few sums) : ∀ i, ((sums.take i).flatMap (layOf 4)).length ≤ 4000 * i := by
  intro i
  induction i with
  | zero => simp
  | succ i ih =>
    by_cases hi : i < sums.length
    · have h1 := hf.2 sums[i] (List.getElem_mem hi)
      have h2 := layOf_length 4 sums[i]
      rw [take_flat _ _ _ hi, List.length_append]
      omega
    · rw [List.take_of_length_le (by omega)]
      rw [List.take_of_length_le (by omega)] at ih
      omega
theorem lay_all {sums : List (List Int)} (hf : few sums) : (sums.flatMap (layOf 4)).length ≤ 4000000 := by
  have := lay_take hf sums.length
  rw [List.take_length] at this
  have := hf.1
  omega
theorem foldl_lay (L : List (List Int)) (s : List Int) : L.foldl (fun s x => s ++ layOf 4 x) s = s ++ L.flatMap (layOf 4) := foldl_app (layOf 4) L s
theorem write_l0 (col : List Int) (hcol : col.length ≤ 100000000) (out0 : List Int) (h0 : out0.length = 20) (sums : List (List Int)) (hf : few sums) :
    Ev (fun q => seal_Write.l0 q col out0 sums (sums.length : Int) 0) ((out0 ++ sums.flatMap (layOf 4)) ++ bytesOf 4 (IntKind.u64.wrap (crcOf (out0 ++ sums.flatMap (layOf 4)))) ++ col, 0) := by
  have hsl := hf.1
  have := ev_fold0 sums (fun s x => s ++ layOf 4 x) (fun i s => s = out0 ++ (sums.take i).flatMap (layOf 4)) (fun s i q => seal_Write.l0 q col s sums (sums.length : Int) i) (fun s => (s ++ bytesOf 4 (IntKind.u64.wrap (crcOf s)) ++ col, 0)) out0 (by simp)
    (fun s hs => by
      rw [List.take_length] at hs
      have hl := lay_all hf
      have hsl2 : s.length ≤ 4000020 := by rw [hs, List.length_append]; omega
      have hfl : (([s, bytesOf 4 (IntKind.u64.wrap (crcOf s)), col] : List (List Int))).flatten = s ++ bytesOf 4 (IntKind.u64.wrap (crcOf s)) ++ col := by simp
      have hflen : (([s, bytesOf 4 (IntKind.u64.wrap (crcOf s)), col] : List (List Int))).flatten.length = s.length + 4 + col.length := by rw [hfl, List.length_append, List.length_append, kBQ]
      have hc := concat_ev [s, bytesOf 4 (IntKind.u64.wrap (crcOf s)), col] (by simp) (by omega) (by omega)
      rw [hfl] at hc
      refine Ev.stepBind2 (G := fun q t => (slices_Concat_byte_byte.f q [s, t, col]).bind fun t2 => some (t2, (0 : Int))) (put_ev (IntKind.u64.wrap (crcOf s)) 4 (by omega)) (Ev.bind (G := fun a _ => some (a, (0 : Int))) hc (Ev.pure fun _ => rfl)) (fun q => ?_) (fun q => rfl)
      simp only [seal_Write.l0]
      rw [if_neg (by omega), sum_eq, Option.bind_some]
      rfl)
    (fun i s hi hs => ⟨by rw [take_flat _ _ _ hi, hs, List.append_assoc], fun r' h => by
      have hsl3 := hsl
      have hrow := hf.2 sums[i] (List.getElem_mem hi)
      have hll := layOf_length 4 sums[i]
      have hsl2 := lay_take hf i
      refine Ev.stepBind2 (G := ?G) (lay_uint32 4 (by omega) sums[i] (by omega)) h (fun q => ?_) (fun q => ?_)
      · exact fun q t => if s.length + t.length < 140737488355328 then seal_Write.l0 q col (s ++ t) sums (sums.length : Int) ((i + 1 : Nat) : Int) else none
      · simp only [seal_Write.l0]
        rw [if_pos (by omega), if_pos (by omega), if_pos (by omega), rdL3_get _ _ hi, wn i (by omega)]
        rfl
      · rw [if_pos (by rw [hs, List.length_append]; omega)]⟩)
  rw [foldl_lay] at this
  exact this
theorem write_ev (n k s b idx : Int) (sums : List (List Int)) (hf : few sums) (col : List Int) (hcol : col.length ≤ 100000000) : Ev (fun q => seal_Write.f q n k s b idx sums col) (writeOf n k s b idx sums col) := by
  have no : Ev (fun q => seal_Write.j0 q col true n k s b idx sums) (([] : List Int), (1 : Int)) := Ev.done fun q => rfl
  unfold writeOf
  by_cases h : okSeal n k s b idx sums = true
  · have hr : Rt n k s b = true := by unfold okSeal at h; simp only [Bool.and_eq_true] at h; exact h.1.1
    have h2 := Rt_iff.1 hr
    by_cases hc : (col.length : Int) = 8 + s
    · rw [if_pos ⟨h, hc⟩]
      have e0 : ([70, 76, 82, 86] ++ layOf 2 [1, n, k, idx] ++ layOf 4 [s, b] : List Int).length = 20 := by rw [List.length_append, List.length_append, layOf_length, layOf_length]; rfl
      have hfl : ([([70, 76, 82, 86] : List Int), layOf 2 [1, n, k, idx], layOf 4 [s, b]] : List (List Int)).flatten = [70, 76, 82, 86] ++ layOf 2 [1, n, k, idx] ++ layOf 4 [s, b] := by simp
      have hcat := concat_ev [([70, 76, 82, 86] : List Int), layOf 2 [1, n, k, idx], layOf 4 [s, b]] (by simp) (by rw [hfl]; omega) (by rw [hfl]; omega)
      rw [hfl] at hcat
      have w0 := write_l0 col hcol _ e0 sums hf
      have w1 := Ev.bind (G := fun t q => seal_Write.l0 q col t sums (sums.length : Int) 0) hcat w0
      have w2 := Ev.bind (G := fun t150 q => (slices_Concat_byte_byte.f q [([70, 76, 82, 86] : List Int), layOf 2 [1, n, k, idx], t150]).bind fun t => seal_Write.l0 q col t sums (sums.length : Int) 0) (lay_int 4 (by omega) [s, b] (by simp)) w1
      have w3 := Ev.bind (G := fun t144 q => (seal_lay_int.f q [s, b] (4 : Nat)).bind fun t150 => (slices_Concat_byte_byte.f q [([70, 76, 82, 86] : List Int), t144, t150]).bind fun t => seal_Write.l0 q col t sums (sums.length : Int) 0) (lay_int 2 (by omega) [1, n, k, idx] (by simp)) w2
      refine Ev.of_eq (Ev.step (F := fun q => seal_Write.j0 q col false n k s b idx sums) w3 fun q => ?_) fun q => ?_
      · simp only [seal_Write.j0]
        rw [if_neg (by simp)]
        rfl
      · simp only [seal_Write.f, seal_right_eq, h, Option.bind_some, if_true, long_eq hr]
        rw [show ((col.length : Int) != 8 + s) = false from by simp [hc]]
    · rw [if_neg (fun hh => hc hh.2)]
      refine Ev.of_eq no fun q => ?_
      simp only [seal_Write.f, seal_right_eq, h, Option.bind_some, if_true, long_eq hr]
      rw [show ((col.length : Int) != 8 + s) = true from by simp [hc]]
  · rw [if_neg (fun hh => h hh.1)]
    refine Ev.of_eq no fun q => ?_
    simp only [seal_Write.f, seal_right_eq, Option.bind_some, h]
    rfl
theorem ref_write_l1 (col : List Int) (n k s b idx : Int) (sums : List (List Int)) (i : Nat) (hi : i < sums.length) (hrow : sums[i].length ≤ 1000) (out : List Int) (ho : out.length ≤ 100000000) (r : List Int × Int)
    (h : Ev (fun q => footlockerref24_Write.l0 q col (out ++ layOf 4 sums[i]) ((i + 1 : Nat) : Int) n k s b idx sums) r) (hsl : sums.length ≤ 1000) : Ev (fun q => footlockerref24_Write.l1 q col out (i : Int) 0 n k s b idx sums) r := by
  have := ev_fold0 sums[i] (fun s x => s ++ bytesOf 4 (IntKind.u64.wrap x)) (fun j s => s = out ++ layOf 4 (sums[i].take j)) (fun o j q => footlockerref24_Write.l1 q col o (i : Int) j n k s b idx sums) (fun _ => r) out (by simp [layOf])
    (fun o hs => by
      rw [List.take_length] at hs
      subst hs
      refine Ev.step h fun q => ?_
      simp only [footlockerref24_Write.l1]
      rw [if_pos (by omega), if_pos (by omega), rdL3_get _ _ hi, if_neg (by omega), wn i (by omega)])
    (fun j o hj hs => ⟨by rw [layOf, take_flat _ _ _ hj, hs, List.append_assoc]; rfl, fun r' h' => by
      have hw := wrap64u sums[i][j]
      have hol : o.length ≤ 100004000 := by
        rw [hs, List.length_append, layOf_length]
        have : (sums[i].take j).length ≤ 1000 := by rw [List.length_take]; omega
        omega
      refine Ev.stepBind2 (G := fun q t => if o.length + t.length < 140737488355328 then footlockerref24_Write.l1 q col (o ++ t) (i : Int) ((j + 1 : Nat) : Int) n k s b idx sums else none) (ref_put (IntKind.u64.wrap sums[i][j]) 4 (by omega) hw.1 hw.2) h' (fun q => ?_) (fun q => ?_)
      · simp only [footlockerref24_Write.l1]
        rw [if_pos (by omega), if_pos (by omega), rdL3_get _ _ hi, if_pos (by omega), if_pos (by omega), rd_get _ _ hj, wn j (by omega)]
        rfl
      · rw [if_pos (by rw [kBQ]; omega)]⟩)
  exact this
theorem ref_write_l0 (col : List Int) (hcol : col.length ≤ 100000000) (n k s b idx : Int) (out0 : List Int) (h0 : out0.length = 20) (hb0 : ∀ x ∈ out0, isByte x) (sums : List (List Int)) (hf : few sums) :
    Ev (fun q => footlockerref24_Write.l0 q col out0 0 n k s b idx sums) ((out0 ++ sums.flatMap (layOf 4)) ++ bytesOf 4 (IntKind.u64.wrap (crcOf (out0 ++ sums.flatMap (layOf 4)))) ++ col, 0) := by
  have hsl := hf.1
  have := ev_fold0 sums (fun s x => s ++ layOf 4 x) (fun i s => s = out0 ++ (sums.take i).flatMap (layOf 4)) (fun o i q => footlockerref24_Write.l0 q col o i n k s b idx sums) (fun s => (s ++ bytesOf 4 (IntKind.u64.wrap (crcOf s)) ++ col, 0)) out0 (by simp)
    (fun o hs => by
      rw [List.take_length] at hs
      have hl := lay_all hf
      have hsl2 : o.length ≤ 4000020 := by rw [hs, List.length_append]; omega
      have hob : ∀ x ∈ o, isByte x := by
        intro x hx
        rw [hs, List.mem_append] at hx
        rcases hx with hx | hx
        · exact hb0 x hx
        · obtain ⟨row, _, hx⟩ := List.mem_flatMap.1 hx
          exact layOf_byte 4 row x hx
      have hfl : (([o, bytesOf 4 (IntKind.u64.wrap (crcOf o)), col] : List (List Int))).flatten = o ++ bytesOf 4 (IntKind.u64.wrap (crcOf o)) ++ col := by simp
      have hflen : (([o, bytesOf 4 (IntKind.u64.wrap (crcOf o)), col] : List (List Int))).flatten.length = o.length + 4 + col.length := by rw [hfl, List.length_append, List.length_append, kBQ]
      have hc := join_ev [o, bytesOf 4 (IntKind.u64.wrap (crcOf o)), col] (by simp) (by omega)
      rw [hfl] at hc
      have hw := wrap64u (crcOf o)
      have w1 := Ev.bind (G := fun a _ => some (a, (0 : Int))) hc (Ev.pure fun _ => rfl)
      have w2 := Ev.bind (G := fun t q => (footlockerref01_Join.f q [o, t, col]).bind fun t2 => some (t2, (0 : Int))) (ref_put (IntKind.u64.wrap (crcOf o)) 4 (by omega) hw.1 hw.2) w1
      refine Ev.stepBind2 (G := fun q t => (footlockerref07_Put.f q (IntKind.u64.wrap t) 4).bind fun t => (footlockerref01_Join.f q [o, t, col]).bind fun t2 => some (t2, (0 : Int))) (ref_sum o hob (by omega)) w2 (fun q => ?_) (fun q => rfl)
      simp only [footlockerref24_Write.l0]
      rw [if_neg (by omega)])
    (fun i o hi hs => ⟨by rw [take_flat _ _ _ hi, hs, List.append_assoc], fun r' h => by
      have hsl2 := lay_take hf i
      have hol : o.length ≤ 100000000 := by rw [hs, List.length_append]; omega
      refine Ev.step (ref_write_l1 col n k s b idx sums i hi (hf.2 _ (List.getElem_mem hi)) o hol r' h hsl) fun q => ?_
      simp only [footlockerref24_Write.l0]
      rw [if_pos (by omega)]⟩)
  rw [foldl_lay] at this
  exact this
theorem ref_write_ev (n k s b idx : Int) (sums : List (List Int)) (hf : few sums) (col : List Int) (hcol : col.length ≤ 100000000) : Ev (fun q => footlockerref24_Write.f q n k s b idx sums col) (writeOf n k s b idx sums col) := by
  have no : Ev (fun q => footlockerref24_Write.j0 q col true n k s b idx sums) (([] : List Int), (1 : Int)) := Ev.done fun q => rfl
  unfold writeOf
  have hR := ref_seal_right n k s b idx sums
  by_cases h : okSeal n k s b idx sums = true
  · have hr : Rt n k s b = true := by unfold okSeal at h; simp only [Bool.and_eq_true] at h; exact h.1.1
    have h2 := Rt_iff.1 hr
    rw [h] at hR
    by_cases hc : (col.length : Int) = 8 + s
    · rw [if_pos ⟨h, hc⟩]
      have e0 : ([70, 76, 82, 86] ++ layOf 2 [1, n, k, idx] ++ layOf 4 [s, b] : List Int).length = 20 := by rw [List.length_append, List.length_append, layOf_length, layOf_length]; rfl
      have eb : ∀ x ∈ ([70, 76, 82, 86] ++ layOf 2 [1, n, k, idx] ++ layOf 4 [s, b] : List Int), isByte x := by
        intro x hx
        rw [List.mem_append, List.mem_append] at hx
        rcases hx with (hx | hx) | hx
        · revert x; unfold isByte; simp
        · exact layOf_byte _ _ x hx
        · exact layOf_byte _ _ x hx
      have e1 : ([([70, 76, 82, 86, 1, 0] : List Int), bytesOf 2 (IntKind.u64.wrap n) ++ bytesOf 2 (IntKind.u64.wrap k) ++ bytesOf 2 (IntKind.u64.wrap idx) ++ bytesOf 4 (IntKind.u64.wrap s) ++ bytesOf 4 (IntKind.u64.wrap b)] : List (List Int)).flatten = [70, 76, 82, 86] ++ layOf 2 [1, n, k, idx] ++ layOf 4 [s, b] := by
        have : bytesOf 2 (IntKind.u64.wrap 1) = [1, 0] := by decide
        simp [layOf, this]
      have hcat := join_ev [([70, 76, 82, 86, 1, 0] : List Int), bytesOf 2 (IntKind.u64.wrap n) ++ bytesOf 2 (IntKind.u64.wrap k) ++ bytesOf 2 (IntKind.u64.wrap idx) ++ bytesOf 4 (IntKind.u64.wrap s) ++ bytesOf 4 (IntKind.u64.wrap b)] (by simp) (by rw [e1]; omega)
      rw [e1] at hcat
      have w0 := ref_write_l0 col hcol n k s b idx _ e0 eb sums hf
      have w1 := Ev.bind (G := fun t q => footlockerref24_Write.l0 q col t 0 n k s b idx sums) hcat w0
      have w2 := Ev.bind (G := fun t404 q => (footlockerref01_Join.f q [([70, 76, 82, 86, 1, 0] : List Int), t404]).bind fun t => footlockerref24_Write.l0 q col t 0 n k s b idx sums) (ref_numbers _ _ _ _ _ (wrap64u n) (wrap64u k) (wrap64u idx) (wrap64u s) (wrap64u b)) w1
      have w3 := Ev.step (F := fun q => footlockerref24_Write.j0 q col false n k s b idx sums) w2 fun q => by
        simp only [footlockerref24_Write.j0]
        rw [if_neg (by simp)]
      refine Ev.bind2 (G := fun q t => if t = true then (footlockerref24_Write.j0 q col ((col.length : Int) != (wrap64 (8 + s))) n k s b idx sums) else (footlockerref24_Write.j0 q col true n k s b idx sums)) hR w3 (fun q => rfl) fun q => ?_
      simp only [if_true]
      rw [wrap_in (8 + s) (by omega) (by omega), show ((col.length : Int) != 8 + s) = false from by simp [hc]]
    · rw [if_neg (fun hh => hc hh.2)]
      refine Ev.bind2 (G := fun q t => if t = true then (footlockerref24_Write.j0 q col ((col.length : Int) != (wrap64 (8 + s))) n k s b idx sums) else (footlockerref24_Write.j0 q col true n k s b idx sums)) hR no (fun q => rfl) fun q => ?_
      simp only [if_true]
      rw [wrap_in (8 + s) (by omega) (by omega), show ((col.length : Int) != 8 + s) = true from by simp [hc]]
  · rw [if_neg (fun hh => h hh.1)]
    rw [Bool.not_eq_true] at h
    rw [h] at hR
    exact Ev.bind2 (G := fun q t => if t = true then (footlockerref24_Write.j0 q col ((col.length : Int) != (wrap64 (8 + s))) n k s b idx sums) else (footlockerref24_Write.j0 q col true n k s b idx sums)) hR no (fun q => rfl) fun q => rfl
end Go.Proofs.YtoamamnbapilhaaDoor.X
