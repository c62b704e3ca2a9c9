import Derived.Test.YtoamamnbapilhaaDoorSlC
import Derived.Test.YtoamamnbapilhaaDoorXx10
namespace Go.Proofs.YtoamamnbapilhaaDoor.X
open Go.RowKit Go.Proofs.YtoamamnbapilhaaDoorW.PrintWords Go.Proofs.YtoamamnbapilhaaDoorW.PrintLast Go.Proofs.YtoamamnbapilhaaDoorW.PrintMore
set_option linter.unusedVariables false
set_option linter.unusedSimpArgs false
def blocksOf (l : List Int) (b : Int) : List Int := (List.range (cnt l.length b.toNat)).map fun k => crcOf (pieceOf l b.toNat k)
theorem piece_byte {l : List Int} (hb : ∀ x ∈ l, isByte x) (n k : Nat) : ∀ x ∈ pieceOf l n k, isByte x := fun x hx => hb x (List.mem_of_mem_drop (List.mem_of_mem_take hx))
theorem blocks_crc {l : List Int} {b : Int} (hl : l.length ≤ 100000000000) (hb : 1 ≤ b) (hb2 : b ≤ 100000000000) : crc_Blocks.f l b = some (blocksOf l b) := by
  unfold crc_Blocks.f
  rw [if_pos ⟨hl, hb2⟩, if_neg (by omega)]
  rfl
theorem ref_blocks06 (l : List Int) (b : Int) (hby : ∀ x ∈ l, isByte x) (hl : l.length ≤ 100000000) (hb : 1 ≤ b) (hb2 : b ≤ 100000000) : Ev (fun q => footlockerref06_Blocks.f q l b) (blocksOf l b) := by
  obtain ⟨B, rfl⟩ := Int.eq_ofNat_of_zero_le (show 0 ≤ b by omega)
  have hB : 0 < B := by omega
  have hlt := fun x => cnt_lt (L := l.length) (n := B) (x := x) hB
  have key : ∀ d i (acc : List Int), cnt l.length B = i + d → acc.length ≤ i → Ev (fun q => footlockerref06_Blocks.l0 q l (B : Int) acc ((i * B : Nat) : Int)) (acc ++ (List.range' i d).map fun k => crcOf (pieceOf l B k)) := by
    intro d
    induction d with
    | zero =>
      intro i acc hi ha
      have hn : ¬ i * B < l.length := fun hh => by have := (hlt i).2 hh; omega
      have e : decide (((i * B : Nat) : Int) < (l.length : Int)) = false := by simp; omega
      refine Ev.step (Ev.done (F := fun q => footlockerref06_Blocks.j1 q l (B : Int) acc ((i * B : Nat) : Int) false) (r := acc ++ (List.range' i 0).map fun k => crcOf (pieceOf l B k)) fun q => by simp only [footlockerref06_Blocks.j1]; rw [if_neg (by simp)]; simp) fun q => ?_
      simp only [footlockerref06_Blocks.l0]
      rw [if_pos (by omega), e]
    | succ d ih =>
      intro i acc hi ha
      have hn : i * B < l.length := (hlt i).1 (by omega)
      have hcl : i < l.length := Nat.lt_of_le_of_lt (Nat.le_mul_of_pos_right i hB) hn
      have e : decide (((i * B : Nat) : Int) < (l.length : Int)) = true := by simp; omega
      have hw : wrap64 ((l.length : Int) - ((i * B : Nat) : Int)) = (l.length : Int) - ((i * B : Nat) : Int) := wrap_in _ (by omega) (by omega)
      have hpb := piece_byte hby B i
      have hpl := pieceOf_length l B i
      have hsum := ref_sum (pieceOf l B i) hpb (by rw [hpl]; omega)
      have hr : List.range' i (d + 1) = i :: List.range' (i + 1) d := rfl
      by_cases hlast : (B : Int) > (l.length : Int) - ((i * B : Nat) : Int)
      · have hd : d = 0 := by
          have : ¬ (i + 1 < cnt l.length B) := fun hh => by have := (hlt (i + 1)).1 hh; rw [Nat.add_mul] at this; omega
          omega
        subst hd
        have ep : pieceOf l B i = l.drop (i * B) := by unfold pieceOf; exact List.take_of_length_le (by rw [List.length_drop]; omega)
        have w1 : Ev (fun q => footlockerref06_Blocks.j1 q l (B : Int) acc ((i * B : Nat) : Int) true) (acc ++ [crcOf (pieceOf l B i)]) := by
          refine Ev.stepBind2 (G := fun q t => if acc.length < 35184372088832 then some (acc ++ [t]) else none) (H := fun q => some (acc ++ [crcOf (pieceOf l B i)])) hsum (Ev.pure fun _ => rfl) (fun q => ?_) (fun q => by rw [if_pos (by omega)])
          simp only [footlockerref06_Blocks.j1]
          rw [if_pos trivial, hw, if_pos hlast, if_pos (by omega), if_pos (by omega), ep, Int.toNat_natCast]
        refine Ev.step w1 fun q => ?_
        simp only [footlockerref06_Blocks.l0]
        rw [if_pos (by omega), e]
      · have ew : wrap64 (((i * B : Nat) : Int) + (B : Int)) = (((i + 1) * B : Nat) : Int) := by rw [wrap_in _ (by omega) (by omega), Nat.add_mul]; omega
        have ep : (l.take (((i + 1) * B : Nat) : Int).toNat).drop ((i * B : Nat) : Int).toNat = pieceOf l B i := by
          unfold pieceOf
          rw [Int.toNat_natCast, Int.toNat_natCast, List.drop_take]
          congr 1
          rw [Nat.add_mul]; omega
        have hle : (i + 1) * B ≤ l.length := by rw [Nat.add_mul]; omega
        have hge : i * B ≤ (i + 1) * B := Nat.mul_le_mul_right B (Nat.le_succ i)
        have w0 := ih (i + 1) (acc ++ [crcOf (pieceOf l B i)]) (by omega) (by rw [List.length_append, List.length_singleton]; omega)
        rw [List.append_assoc] at w0
        have w1 : Ev (fun q => footlockerref06_Blocks.j1 q l (B : Int) acc ((i * B : Nat) : Int) true) (acc ++ ([crcOf (pieceOf l B i)] ++ (List.range' (i + 1) d).map fun k => crcOf (pieceOf l B k))) := by
          refine Ev.stepBind2 (G := fun q t => if acc.length < 35184372088832 then footlockerref06_Blocks.l0 q l (B : Int) (acc ++ [t]) (((i + 1) * B : Nat) : Int) else none) hsum w0 (fun q => ?_) (fun q => by rw [if_pos (by omega)])
          simp only [footlockerref06_Blocks.j1]
          rw [if_pos trivial, hw, if_neg hlast, if_pos (by omega), ew, if_pos (by omega), if_pos (by omega), ep]
        refine Ev.step w1 fun q => ?_
        simp only [footlockerref06_Blocks.l0]
        rw [if_pos (by omega), e]
  have := key (cnt l.length B) 0 [] (by omega) (by simp)
  rw [List.nil_append, Nat.zero_mul] at this
  unfold blocksOf
  rw [Int.toNat_natCast, List.range_eq_range']
  exact Ev.of_eq this fun q => rfl
def fewCols (cols : List (List Int)) : Prop := cols.length ≤ 1000 ∧ ∀ c ∈ cols, c.length ≤ 100000 ∧ ∀ x ∈ c, isByte x
theorem foldl_map_app {A B : Type} (f : A → B) : ∀ (l : List A) (acc : List B), l.foldl (fun s x => s ++ [f x]) acc = acc ++ l.map f := by
  intro l
  induction l with
  | nil => intro acc; simp
  | cons x l ih => intro acc; rw [List.foldl_cons, ih, List.map_cons, List.append_assoc]; rfl
theorem sums_ev {n k s b : Int} (h : Rt n k s b = true) (cols : List (List Int)) (hf : fewCols cols) : Ev (fun q => seal_Sums.f q cols n k s b) (cols.map fun c => blocksOf c b) := by
  have h2 := Rt_iff.1 h
  have hc := hf.1
  have := ev_fold0 cols (fun s x => s ++ [blocksOf x b]) (fun i s => s.length = i) (fun o i q => seal_Sums.l0 q o cols (cols.length : Int) i n k s b) (fun s => s) [] (by simp)
    (fun o _ => Ev.done fun q => by simp only [seal_Sums.l0]; rw [if_neg (by omega)])
    (fun i o hi ho => ⟨by rw [List.length_append, List.length_singleton, ho], fun r' h => by
      have hcol := hf.2 cols[i] (List.getElem_mem hi)
      refine Ev.step h fun q => ?_
      simp only [seal_Sums.l0]
      rw [if_pos (by omega), if_pos (by omega), if_pos (by omega), rdL8_get _ _ hi, blocks_crc (by omega) (by omega) (by omega), Option.bind_some, if_pos (by omega), wn i (by omega)]⟩)
  rw [foldl_map_app, List.nil_append] at this
  refine Ev.of_eq this fun q => ?_
  simp only [seal_Sums.f, right_eq, h, Option.bind_some, if_true]
theorem sums_not {n k s b : Int} (h : Rt n k s b = false) (cols : List (List Int)) : Ev (fun q => seal_Sums.f q cols n k s b) [] := by
  refine Ev.pure fun q => ?_
  simp only [seal_Sums.f, right_eq, h, Option.bind_some]
  rfl
theorem ref_sums_ev {b : Int} (hb : 1 ≤ b) (hb2 : b ≤ 100000000) (cols : List (List Int)) (hf : fewCols cols) : Ev (fun q => footlockerref24_Sums.f q cols b) (cols.map fun c => blocksOf c b) := by
  have hc := hf.1
  have := ev_fold0 cols (fun s x => s ++ [blocksOf x b]) (fun i s => s.length = i) (fun o i q => footlockerref24_Sums.l0 q cols b o i) (fun s => s) [] (by simp)
    (fun o _ => Ev.done fun q => by simp only [footlockerref24_Sums.l0]; rw [if_neg (by omega)])
    (fun i o hi ho => ⟨by rw [List.length_append, List.length_singleton, ho], fun r' h => by
      have hcol := hf.2 cols[i] (List.getElem_mem hi)
      refine Ev.stepBind2 (G := fun q t => if o.length < 5864062014805 then footlockerref24_Sums.l0 q cols b (o ++ [t]) ((i + 1 : Nat) : Int) else none) (ref_blocks06 cols[i] b hcol.2 (by omega) hb hb2) h (fun q => ?_) (fun q => by rw [if_pos (by omega)])
      simp only [footlockerref24_Sums.l0]
      rw [if_pos (by omega), if_pos (by omega), rdL8_get _ _ hi, wn i (by omega)]⟩)
  rw [foldl_map_app, List.nil_append] at this
  exact Ev.of_eq this fun q => rfl
theorem same_ev (l : List Int) (hl : l.length < 9223372036854775807) : Ev (fun q => footlockerref01_Same.f q l l) true := by
  have := ev_loop l (fun i q => footlockerref01_Same.l0 q l l i) true (Ev.done fun q => by simp only [footlockerref01_Same.l0]; rw [if_neg (by omega)])
    (fun i hi h => Ev.step h fun q => by simp only [footlockerref01_Same.l0]; rw [if_pos (by omega), if_pos (by omega), if_pos (by omega), if_pos trivial, wn i (by omega)])
  exact Ev.of_eq this fun q => by unfold footlockerref01_Same.f; rw [if_pos rfl]
theorem same6_ev (l : List Int) (hl : l.length < 9223372036854775807) : Ev (fun q => footlockerref06_Same.f q l l) true := by
  have := ev_loop l (fun i q => footlockerref06_Same.l0 q l l i) true (Ev.done fun q => by simp only [footlockerref06_Same.l0]; rw [if_neg (by omega)])
    (fun i hi h => Ev.step h fun q => by simp only [footlockerref06_Same.l0]; rw [if_pos (by omega), if_pos (by omega), if_pos (by omega), if_pos trivial, wn i (by omega)])
  exact Ev.of_eq this fun q => by unfold footlockerref06_Same.f; rw [if_pos rfl]
theorem sameSums_ev (L : List (List Int)) (hL : L.length < 9223372036854775807) (hl : ∀ l ∈ L, l.length < 9223372036854775807) : Ev (fun q => footlockerref24_SameSums.f q L L) true := by
  have := ev_loop L (fun i q => footlockerref24_SameSums.l0 q L L i) true (Ev.done fun q => by simp only [footlockerref24_SameSums.l0]; rw [if_neg (by omega)])
    (fun i hi h => by
      refine Ev.stepBind2 (G := fun q t => if t = true then footlockerref24_SameSums.l0 q L L ((i + 1 : Nat) : Int) else some false) (same6_ev L[i] (hl _ (List.getElem_mem hi))) h (fun q => ?_) (fun q => rfl)
      simp only [footlockerref24_SameSums.l0]
      rw [if_pos (by omega), if_pos (by omega), if_pos (by omega), rdL3_get _ _ hi, wn i (by omega)])
  exact Ev.of_eq this fun q => by unfold footlockerref24_SameSums.f; rw [if_pos rfl]
def smallOf (n k s b : Int) (sums : List (List Int)) : Bool := sums.all (fun row => decide (row.length ≤ 60)) && (decide (sums.length ≤ 20) && (!Rt n k s b || (decide (s ≤ 1000) && decide (n + k ≤ 20))))
theorem small_ev (n k s b idx : Int) (sums : List (List Int)) (hs : sums.length ≤ 9223372036854775807) : Ev (fun q => footlockerlaw24_small.f q n k s b idx sums) (smallOf n k s b sums) := by
  have key : ∀ d i, sums.length = i + d → Ev (fun q => footlockerlaw24_small.l0 q sums (sums.length : Int) (i : Int) n k s b idx sums) ((sums.drop i).all (fun row => decide (row.length ≤ 60)) && (decide (sums.length ≤ 20) && (!Rt n k s b || (decide (s ≤ 1000) && decide (n + k ≤ 20))))) := by
    intro d
    induction d with
    | zero =>
      intro i hi
      refine Ev.done fun q => ?_
      simp only [footlockerlaw24_small.l0, ref_right_eq, Option.bind_some]
      rw [if_neg (by omega), List.drop_of_length_le (by omega), List.all_nil, Bool.true_and]
      by_cases c1 : sums.length ≤ 20
      · rw [if_pos (by omega), decide_eq_true c1, Bool.true_and]
        cases hR : Rt n k s b with
        | false => rfl
        | true =>
          have h2 := Rt_iff.1 hR
          rw [if_pos rfl]
          by_cases c2 : s ≤ 1000
          · rw [if_pos c2, wrap_in (n + k) (by omega) (by omega)]; simp [c2]
          · rw [if_neg c2]; simp [c2]
      · rw [if_neg (by omega), decide_eq_false c1]; rfl
    | succ d ih =>
      intro i hi
      have hlt : i < sums.length := by omega
      rw [List.drop_eq_getElem_cons hlt, List.all_cons]
      by_cases c : sums[i].length ≤ 60
      · rw [decide_eq_true c, Bool.true_and]
        refine Ev.step (ih (i + 1) (by omega)) fun q => ?_
        simp only [footlockerlaw24_small.l0]
        rw [if_pos (by omega), if_pos (by omega), if_pos (by omega), rdL3_get _ _ hlt, if_neg (by omega), wn i (by omega)]
      · refine Ev.done fun q => ?_
        simp only [footlockerlaw24_small.l0]
        rw [if_pos (by omega), if_pos (by omega), if_pos (by omega), rdL3_get _ _ hlt, if_pos (by omega), decide_eq_false c]; rfl
  have := key sums.length 0 (by omega)
  rw [List.drop_zero] at this
  exact Ev.of_eq this fun q => rfl
end Go.Proofs.YtoamamnbapilhaaDoor.X
