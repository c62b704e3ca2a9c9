/- The writer of bits: bit, Code, Done, Len. -/
import Derived.Test.YtgbfkfmjbacemaaCnT
import Derived.StillTailTactics
import Derived.BigRegion
namespace Go.Proofs.Ytgbfkfmjbacemaa.Cn
open Go.RowKit Go.Proofs.YtgbfkfmjbacemaaW.PrintWords Go.Proofs.YtgbfkfmjbacemaaW.PrintLast Go.Proofs.YtgbfkfmjbacemaaW.PrintMore Go.Proofs.Ytgbfkfmjbacemaa.PCanonReads Go.Proofs.Ytgbfkfmjbacemaa.Lb
attribute [local go_sem] max2_int min2_int max_two min_two
set_option linter.unusedVariables false
set_option linter.unusedSimpArgs false

/-- a writer of bits in memory: its bytes are a row of its own. -/
def IsWr (w : World) (base g : Nat) (xs : List Nat) (n : Nat) : Prop := ∃ A c, w.heap[g]? = some (.cells #[.slice A xs.length c, .int .i64 (n : Int)] 48 (0, 0)) ∧ base ≤ g ∧ Kd.R (Kd.int .u8) 5 w base (fun _ => True) (.slice A xs.length c) (ints xs)
/-- nothing but writers of bits and rows of bytes has changed. -/
def Fr (w w' : World) : Prop := w.heap.size ≤ w'.heap.size ∧ ∀ (k : Nat) cs t fr, w.heap[k]? = some (Obj.cells cs t fr) → t ≠ 48 → t ≠ 5 → w'.heap[k]? = some (Obj.cells cs t fr)
theorem Fr.refl (w : World) : Fr w w := ⟨Nat.le_refl _, fun _ _ _ _ h _ _ => h⟩
theorem Fr.trans {w w1 w2 : World} (h : Fr w w1) (k : Fr w1 w2) : Fr w w2 := ⟨Nat.le_trans h.1 k.1, fun i cs t fr hi h1 h2 => k.2 i cs t fr (h.2 i cs t fr hi h1 h2) h1 h2⟩

def put1 (xs : List Nat) (n b : Nat) : List Nat := xs.set (n / 8) (xs.getD (n / 8) 0 ||| b * 2 ^ (n % 8))

theorem tm8 (n : Nat) : Int.tmod (n : Int) 8 = ((n % 8 : Nat) : Int) := (Int.ofNat_tmod n 8).symm
theorem td8 (n : Nat) : Int.tdiv (n : Int) 8 = ((n / 8 : Nat) : Int) := (Int.ofNat_tdiv n 8).symm

theorem and_one_u32 (x : Nat) (h : x < 4294967296) : Go.bits .and .u32 (x : Int) 1 = ((x % 2 : Nat) : Int) := by
  have h1 : (BitVec.ofInt 32 (x : Int)).toNat = x := by rw [BitVec.ofInt_natCast, BitVec.toNat_ofNat]; exact Nat.mod_eq_of_lt (by omega)
  have h2 : (BitVec.ofInt 32 (1 : Int)).toNat = 1 := by decide
  show IntKind.u32.wrap ((BitVec.ofInt 32 (x : Int) &&& BitVec.ofInt 32 (1 : Int)).toNat : Int) = _
  rw [BitVec.toNat_and, h1, h2, Nat.and_one_is_mod]
  show ((x % 2 : Nat) : Int) % 4294967296 = _
  omega
theorem or_u8 (a b : Nat) (ha : a < 256) (hb : b < 256) : Go.bits .or .u8 (a : Int) (b : Int) = ((a ||| b : Nat) : Int) := by
  have hx : a ||| b < 2 ^ 8 := Nat.or_lt_two_pow (by omega) (by omega)
  have h1 : (BitVec.ofInt 8 (a : Int)).toNat = a := by rw [BitVec.ofInt_natCast, BitVec.toNat_ofNat]; exact Nat.mod_eq_of_lt (by omega)
  have h2 : (BitVec.ofInt 8 (b : Int)).toNat = b := by rw [BitVec.ofInt_natCast, BitVec.toNat_ofNat]; exact Nat.mod_eq_of_lt (by omega)
  show IntKind.u8.wrap ((BitVec.ofInt 8 (a : Int) ||| BitVec.ofInt 8 (b : Int)).toNat : Int) = _
  rw [BitVec.toNat_or, h1, h2]
  show ((a ||| b : Nat) : Int) % 256 = _
  omega
theorem bit_lt (b m : Nat) (hb : b ≤ 1) (hm : m < 8) : b * 2 ^ m < 256 := by
  have : 2 ^ m ≤ 2 ^ 7 := Nat.pow_le_pow_right (by omega) (by omega)
  generalize 2 ^ m = p at *
  have h2 : b * p ≤ 1 * p := Nat.mul_le_mul_right p hb
  omega
theorem z_eq (x v m : Nat) (hx : x < 256) (hm : m < 8) (hv : v < 4294967296) : Go.bits .or .u8 (x : Int) (IntKind.u8.wrap (IntKind.u8.wrap (Go.bits .and .u32 (v : Int) 1) * 2 ^ m)) = ((x ||| v % 2 * 2 ^ m : Nat) : Int) := by
  have hlt := bit_lt (v % 2) m (by omega) hm
  have e1 : IntKind.u8.wrap (Go.bits .and .u32 (v : Int) 1) = ((v % 2 : Nat) : Int) := by
    rw [and_one_u32 v hv]
    show ((v % 2 : Nat) : Int) % 256 = _
    omega
  have e2 : IntKind.u8.wrap (((v % 2 : Nat) : Int) * 2 ^ m) = ((v % 2 * 2 ^ m : Nat) : Int) := by
    have e : ((2 : Int) ^ m) = ((2 ^ m : Nat) : Int) := by rw [Int.natCast_pow]; rfl
    rw [e, ← Int.natCast_mul]
    show ((v % 2 * 2 ^ m : Nat) : Int) % 256 = _
    generalize v % 2 * 2 ^ m = q at *
    omega
  rw [e1, e2, or_u8 _ _ hx hlt]

theorem wr_put {w0 w : World} {base g gr c n i z : Nat} {xs : List Nat} (hblk : w.heap[g]? = some (.cells #[.slice (some ⟨gr, 0, none⟩) xs.length c, .int .i64 (n : Int)] 48 (0, 0))) (hbg : base ≤ g)
    (hR : Kd.R (Kd.int .u8) 5 w base (fun _ => True) (.slice (some ⟨gr, 0, none⟩) (ints xs).length c) (ints xs)) (hB : Below base w0 w) :
    gr ≠ g ∧ IsWr ((w.setCell ⟨gr, i, none⟩ (.int .u8 (z : Int))).setCell ⟨g, 1, none⟩ (.int .i64 ((n + 1 : Nat) : Int))) base g (xs.set i z) (n + 1) ∧ Below base w0 ((w.setCell ⟨gr, i, none⟩ (.int .u8 (z : Int))).setCell ⟨g, 1, none⟩ (.int .i64 ((n + 1 : Nat) : Int))) ∧ Fr w ((w.setCell ⟨gr, i, none⟩ (.int .u8 (z : Int))).setCell ⟨g, 1, none⟩ (.int .i64 ((n + 1 : Nat) : Int))) := by
  obtain ⟨_, hbr, hlt, q, hq, cs, hcs⟩ := (Kd.R_bound hR).1 gr rfl
  have hq5 : q = 5 := by
    have : q ∈ [5] := hq
    simpa using this
  subst hq5
  have hne : gr ≠ g := by
    rintro rfl
    rw [hblk] at hcs
    injection hcs with h
    injection h with _ h _
    exact absurd h (by decide)
  have hput := (Kd.R_put hR (i : Int) (z : Int)).1
  rw [Int.toNat_natCast] at hput
  have hblk1 := blk_far (p := ⟨gr, i, none⟩) hblk (fun h => hne h.symm) (.int .u8 (z : Int))
  refine ⟨hne, ⟨some ⟨gr, 0, none⟩, c, ?_, hbg, ?_⟩, below_setCell (below_setCell hB hbr _) hbg _, ?_⟩
  · rw [List.length_set]
    simpa using blk_set hblk1 1 (.int .i64 ((n + 1 : Nat) : Int))
  · have h2 := Kd.R_set hput hblk1 (fun q hq => by
      have : q ∈ [5] := hq
      simp at this
      subst this
      decide) 1 (.int .i64 ((n + 1 : Nat) : Int))
    rw [ints_length] at h2
    rw [List.length_set]
    have e : (ints xs).set i (z : Int) = ints (xs.set i z) := by simp [ints, List.map_set]
    rw [e] at h2
    exact h2
  · refine ⟨by simp, fun k cs' t fr hk h1 h2 => ?_⟩
    have hkg : k ≠ g := by
      rintro rfl
      rw [hblk] at hk
      injection hk with h
      injection h with _ h _
      exact h1 h.symm
    have hkr : k ≠ gr := by
      rintro rfl
      rw [hcs] at hk
      injection hk with h
      injection h with _ h _
      exact h2 h.symm
    rw [heap_setCell_other _ _ _ _ hkg, heap_setCell_other _ _ _ _ hkr]
    exact hk

set_option maxHeartbeats 1000000 in
set_option maxRecDepth 100000 in
theorem bit_old (base g : Nat) (xs : List Nat) (n v : Nat) (w : World) (hI : IsWr w base g xs n) (hn : n % 8 ≠ 0) (hx : n < 8 * xs.length) (hl : xs.length ≤ 1000000) (hb : ∀ x ∈ xs, x < 256) (hv : v < 4294967296) :
    Calls Try.prog 29 #[.pointer (some ⟨g, 0, none⟩), .int .u32 (v : Int)] w fun e w' => e = .returned (.tuple #[]) ∧ IsWr w' base g (put1 xs n (v % 2)) (n + 1) ∧ Below base w w' ∧ Fr w w' := by
  obtain ⟨A, c, hblk, hbg, hR⟩ := hI
  have HB0 : Aside0 (Below base w w) := ⟨Below.refl _ _⟩
  have HF0 : Aside0 (Fr w w) := ⟨Fr.refl _⟩
  obtain ⟨hl0, hlc, hC⟩ := Kd.R_reads' hR
  have hlen : (ints xs).length = xs.length := ints_length xs
  obtain ⟨ad, rfl, hx1⟩ := Kd.at_int hC ((n / 8 : Nat) : Int) (by omega) (by omega)
  obtain ⟨gr, rfl⟩ := Kd.R_head hR
  rw [← hlen] at hR
  have hcell := Kd.R_cell (0 : Int) hR ((n / 8 : Nat) : Int) (by omega) (by omega)
  have q0 : w.cell? ⟨g, 0, none⟩ = some (.slice (some ⟨gr, 0, none⟩) xs.length c) := (blk_cell hblk 0).trans rfl
  have q1 : w.cell? ⟨g, 1, none⟩ = some (.int .i64 (n : Int)) := (blk_cell hblk 1).trans rfl
  have q2 : w.frozen? ⟨g, 1, none⟩ = false := blk_frozen hblk _
  obtain ⟨i, hi⟩ : ∃ i, n / 8 = i := ⟨_, rfl⟩
  obtain ⟨m, hm⟩ : ∃ m, n % 8 = m := ⟨_, rfl⟩
  rw [hi] at hcell
  rw [Int.toNat_natCast] at hcell
  obtain ⟨y, hy⟩ : ∃ y, rdOf 0 (ints xs) (i : Int) = y := ⟨_, rfl⟩
  rw [hy] at hcell
  obtain ⟨k1, k2⟩ := hcell
  have w1 : IntKind.i64.wrap ((n : Int) / 8) = (i : Int) := by
    rw [show (n : Int) / 8 = (i : Int) by omega]; rw [i64_w]; exact wrap_small (i : Int) (by omega) (by omega)
  have w3 : Int.tmod (n : Int) 8 = (m : Int) := by rw [tm8 n, hm]
  have m0 : 0 ≤ (m : Int) := by omega
  have i2 : (i : Int) < (xs.length : Int) := by omega
  have i3 : i < xs.length := by omega
  have hm8 : m < 8 := by omega
  have hn0 : 0 ≤ (n : Int) := by omega
  have hy2 : y = (xs[i] : Int) := by
    rw [← hy]
    show (ints xs).getD (i : Int).toNat 0 = _
    rw [Int.toNat_natCast, List.getD_eq_getElem?_getD, List.getElem?_eq_getElem (by rw [hlen]; exact i3), Option.getD_some]
    simp [ints]
  have HZ : Aside0 (Go.bits .or .u8 y (IntKind.u8.wrap (IntKind.u8.wrap (Go.bits .and .u32 (v : Int) 1) * 2 ^ m)) = ((xs[i] ||| v % 2 * 2 ^ m : Nat) : Int)) := ⟨by rw [hy2]; exact z_eq _ v m (hb _ (List.getElem_mem i3)) hm8 hv⟩
  have HP : Aside0 (put1 xs n (v % 2) = xs.set i (xs[i] ||| v % 2 * 2 ^ m)) := ⟨by unfold put1; rw [hi, hm, List.getD_eq_getElem?_getD, List.getElem?_eq_getElem i3, Option.getD_some]⟩
  have HR := Aside0.mk hR
  have HBLK := Aside0.mk hblk
  have w2 : (n : Int) % 8 = (m : Int) := by omega
  have t1 : ((m : Int) == 0) = false := by simp; omega
  clear hx1 hR hblk hb hy hl0 hlen hC hn hi hm hy2
  go_enter Try.func29, Try.ntmps29
  go_wp2
  go_still_tail 22, (by kernel_rfl)
  change wpList _ _ _ _ _ w.drew
  rw [HZ.out]
  generalize hz : xs[i] ||| v % 2 * 2 ^ m = z
  have HS := Aside0.mk (wr_put (w0 := w) (w := w.drew) (n := n) (i := i) (z := z) HBLK.out hbg HR.out (below_drew HB0.out))
  have hne : gr ≠ g := HS.out.1
  have hne2 : g ≠ gr := fun h => hne h.symm
  have k1 : w.drew.cell? ⟨gr, i, none⟩ = some (.int .u8 y) := k1
  have k2 : w.drew.frozen? ⟨gr, i, none⟩ = false := k2
  have q1 : w.drew.cell? ⟨g, 1, none⟩ = some (.int .i64 (n : Int)) := q1
  have q2 : w.drew.frozen? ⟨g, 1, none⟩ = false := q2
  have HP2 : Aside0 (put1 xs n (v % 2) = xs.set i z) := ⟨by rw [HP.out, hz]⟩
  have HFR : Aside0 (Fr w w.drew) := ⟨HF0.out⟩
  clear HP HZ hz HBLK HR HB0 HF0
  generalize w.drew = w4 at *
  go_wp2
  go_end0
  exact ⟨rfl, by rw [HP2.out]; exact HS.out.2.1, HS.out.2.2.1, HFR.out.trans HS.out.2.2.2⟩

theorem own_keeps8 {W W1 : World} {B g : Nat} {v : Value} {xs : List Int} {cs : Array Value} {t : Nat} (h : Kd.R (Kd.int .u8) 5 W B (fun _ => True) v xs) (hb : W.heap[g]? = some (.cells cs t (0, 0)))
    (hg : W.grownBy W1 v.ownBlock) (ht : 5 ≠ t) : W1.heap[g]? = some (.cells cs t (0, 0)) :=
  blk_grown hb hg (own_ne (Kd.own_of_R h) hb ht)
theorem fr_grown {W W1 : World} {B : Nat} {v : Value} {xs : List Int} (h : Kd.R (Kd.int .u8) 5 W B (fun _ => True) v xs) (hg : W.grownBy W1 v.ownBlock) : Fr W W1 :=
  ⟨hg.size, fun k cs t fr hk h1 h2 => (hg.block k (Array.getElem?_eq_some_iff.1 hk).1 (fun e => by
    obtain ⟨_, _, _, q, hq, cs', hcs⟩ := (Kd.R_bound h).1 k e.symm
    have hq5 : q = 5 := by
      have : q ∈ [5] := hq
      simpa using this
    subst hq5
    rw [hcs] at hk
    injection hk with h
    injection h with _ h _
    exact h2 h.symm)).trans hk⟩

set_option maxHeartbeats 1000000 in
set_option maxRecDepth 100000 in
theorem bit_new (base g : Nat) (xs : List Nat) (n v : Nat) (w : World) (hI : IsWr w base g xs n) (hx : n = 8 * xs.length) (hl : xs.length ≤ 1000000) (hb : ∀ x ∈ xs, x < 256) (hv : v < 4294967296) :
    Calls Try.prog 29 #[.pointer (some ⟨g, 0, none⟩), .int .u32 (v : Int)] w fun e w' => e = .returned (.tuple #[]) ∧ IsWr w' base g (put1 (xs ++ [0]) n (v % 2)) (n + 1) ∧ Below base w w' ∧ Fr w w' := by
  obtain ⟨A, c, hblk, hbg, hR⟩ := hI
  have hsz : base ≤ w.heap.size := by have := blk_lt hblk; omega
  have q0 : w.cell? ⟨g, 0, none⟩ = some (.slice A xs.length c) := (blk_cell hblk 0).trans rfl
  have q1 : w.cell? ⟨g, 1, none⟩ = some (.int .i64 (n : Int)) := (blk_cell hblk 1).trans rfl
  have w2 : (n : Int) % 8 = 0 := by omega
  have hn0 : 0 ≤ (n : Int) := by omega
  obtain ⟨ys, hys⟩ : ∃ ys, xs ++ [0] = ys := ⟨_, rfl⟩
  rw [hys]
  have HYL : Aside0 (ys.length = xs.length + 1) := ⟨by rw [← hys]; simp⟩
  have HYB : Aside0 (∀ x ∈ ys, x < 256) := ⟨by
    intro x hx
    rw [← hys] at hx
    rcases List.mem_append.1 hx with h | h
    · exact hb x h
    · have : x = 0 := by simpa using h
      omega⟩
  have HYI : Aside0 (ints xs ++ [0] = ints ys) := ⟨by rw [← hys]; simp [ints]⟩
  have HYN : Aside0 ((ints xs ++ [0]).length = ys.length) := ⟨by rw [← hys]; simp [ints]⟩
  have HLN : Aside0 ((ints xs).length ≤ 1000000) := ⟨by rw [ints_length]; exact hl⟩
  have HR := Aside0.mk hR
  have HBLK := Aside0.mk hblk
  have HX := Aside0.mk hx
  clear hR hblk hx hys hb
  go_enter Try.func29, Try.ntmps29
  go_upto_region 2 with (first | ((with_reducible refine gate_builtin (b := .append) (xs := #[.tmp 14, .tmp 15]) rfl ?_); at_builtin; refine Kd.R_append (Kd.int .u8) (w0 := w) base rfl (.tmp 14) (.tmp 15) 30 5 (.int .u8 0) 1 rfl Try.underlying30 info5 rfl (by decide) (by omega) (.slice A xs.length c) (ints xs) 0 [.int .u8 0] (fun _ => True) (fun _ => False) rfl rfl ?aP (fun _ hk => hk.elim) ?aF ?aO ?aB ?aS ?aL ?_; (case aP => exact rfl); (case aF => exact (fun _ _ => trivial)); (case aO => exact HR.out); (case aB => exact Below.refl _ _); (case aS => exact hsz); (case aL => have := HLN.out; omega); intro v1 w1 ho hb hg hat; obtain ⟨A1, c1, hv1, hl1, _⟩ := Kd.R_reads ho; rw [HYN.out] at hv1; rw [HYI.out] at ho; subst hv1; have HBLK1 := Aside0.mk (own_keeps8 HR.out HBLK.out hg (by decide)); have q3 : w1.cell? ⟨g, 0, none⟩ = some (.slice A xs.length c) := (blk_cell HBLK1.out 0).trans rfl; have q4 : w1.frozen? ⟨g, 0, none⟩ = false := blk_frozen HBLK1.out _; have HO := Aside0.mk ho; have HB1 := Aside0.mk hb; have HF1 := Aside0.mk (fr_grown HR.out hg); clear ho hb hg hat))
  have hblk5 := blk_set HBLK1.out 0 (.slice A1 ys.length c1)
  have hR5 := Kd.R_set HO.out HBLK1.out (fun q hq => by
      have : q ∈ [5] := hq
      simp at this
      subst this
      decide) 0 (.slice A1 ys.length c1)
  have HB0 : Aside0 (Below base w (w1.setCell ⟨g, 0, none⟩ (.slice A1 ys.length c1))) := ⟨below_setCell HB1.out hbg _⟩
  have HF0 : Aside0 (Fr w (w1.setCell ⟨g, 0, none⟩ (.slice A1 ys.length c1))) := ⟨HF1.out.trans ⟨by simp, fun k cs' t fr hk h1 h2 => by
    have hkg : k ≠ g := by
      rintro rfl
      rw [HBLK1.out] at hk
      injection hk with h
      injection h with _ h _
      exact h1 h.symm
    rw [heap_setCell_other _ _ _ _ hkg]
    exact hk⟩⟩
  have hbd : ys.length ≤ 1000001 := by have := HYL.out; omega
  have hx : n < 8 * ys.length := by have h1 := HYL.out; have h2 := HX.out; omega
  have hb := HYB.out
  clear HR HBLK HBLK1 HO HB1 HF1 q0 q1 q3 q4 w2 hn0 HYB HYI HYN HLN HX hl1 HYL
  generalize w1.setCell ⟨g, 0, none⟩ (.slice A1 ys.length c1) = w5 at *
  have hblk : w5.heap[g]? = some (.cells #[.slice A1 ys.length c1, .int .i64 (n : Int)] 48 (0, 0)) := by simpa using hblk5
  have hR := hR5
  clear hblk5 hR5
  obtain ⟨c, hc⟩ : ∃ c, c = c1 := ⟨_, rfl⟩
  subst hc
  obtain ⟨hl0, hlc, hC⟩ := Kd.R_reads' hR
  have hlen : (ints ys).length = ys.length := ints_length ys
  obtain ⟨ad, rfl, hx1⟩ := Kd.at_int hC ((n / 8 : Nat) : Int) (by omega) (by omega)
  obtain ⟨gr, rfl⟩ := Kd.R_head hR
  rw [← hlen] at hR
  have hcell := Kd.R_cell (0 : Int) hR ((n / 8 : Nat) : Int) (by omega) (by omega)
  have q0 : w5.cell? ⟨g, 0, none⟩ = some (.slice (some ⟨gr, 0, none⟩) ys.length c) := (blk_cell hblk 0).trans rfl
  have q1 : w5.cell? ⟨g, 1, none⟩ = some (.int .i64 (n : Int)) := (blk_cell hblk 1).trans rfl
  have q2 : w5.frozen? ⟨g, 1, none⟩ = false := blk_frozen hblk _
  obtain ⟨i, hi⟩ : ∃ i, n / 8 = i := ⟨_, rfl⟩
  obtain ⟨m, hm⟩ : ∃ m, n % 8 = m := ⟨_, rfl⟩
  rw [hi] at hcell
  rw [Int.toNat_natCast] at hcell
  obtain ⟨y, hy⟩ : ∃ y, rdOf 0 (ints ys) (i : Int) = y := ⟨_, rfl⟩
  rw [hy] at hcell
  obtain ⟨k1, k2⟩ := hcell
  have w1 : IntKind.i64.wrap ((n : Int) / 8) = (i : Int) := by
    rw [show (n : Int) / 8 = (i : Int) by omega]; rw [i64_w]; exact wrap_small (i : Int) (by omega) (by omega)
  have w3 : Int.tmod (n : Int) 8 = (m : Int) := by rw [tm8 n, hm]
  have m0 : 0 ≤ (m : Int) := by omega
  have i2 : (i : Int) < (ys.length : Int) := by omega
  have i3 : i < ys.length := by omega
  have hm8 : m < 8 := by omega
  have hn0 : 0 ≤ (n : Int) := by omega
  have hy2 : y = (ys[i] : Int) := by
    rw [← hy]
    show (ints ys).getD (i : Int).toNat 0 = _
    rw [Int.toNat_natCast, List.getD_eq_getElem?_getD, List.getElem?_eq_getElem (by rw [hlen]; exact i3), Option.getD_some]
    simp [ints]
  have HZ : Aside0 (Go.bits .or .u8 y (IntKind.u8.wrap (IntKind.u8.wrap (Go.bits .and .u32 (v : Int) 1) * 2 ^ m)) = ((ys[i] ||| v % 2 * 2 ^ m : Nat) : Int)) := ⟨by rw [hy2]; exact z_eq _ v m (hb _ (List.getElem_mem i3)) hm8 hv⟩
  have HP : Aside0 (put1 ys n (v % 2) = ys.set i (ys[i] ||| v % 2 * 2 ^ m)) := ⟨by unfold put1; rw [hi, hm, List.getD_eq_getElem?_getD, List.getElem?_eq_getElem i3, Option.getD_some]⟩
  have HR := Aside0.mk hR
  have HBLK := Aside0.mk hblk
  clear hx1 hR hblk hb hy hl0 hlen hC hi hm hy2
  go_still_tail 22, (by kernel_rfl)
  change wpList _ _ _ _ _ w5.drew
  rw [HZ.out]
  generalize hz : ys[i] ||| v % 2 * 2 ^ m = z
  have HS := Aside0.mk (wr_put (w0 := w) (w := w5.drew) (n := n) (i := i) (z := z) HBLK.out hbg HR.out (below_drew HB0.out))
  have hne : gr ≠ g := HS.out.1
  have hne2 : g ≠ gr := fun h => hne h.symm
  have k1 : w5.drew.cell? ⟨gr, i, none⟩ = some (.int .u8 y) := k1
  have k2 : w5.drew.frozen? ⟨gr, i, none⟩ = false := k2
  have q1 : w5.drew.cell? ⟨g, 1, none⟩ = some (.int .i64 (n : Int)) := q1
  have q2 : w5.drew.frozen? ⟨g, 1, none⟩ = false := q2
  have HP2 : Aside0 (put1 ys n (v % 2) = ys.set i z) := ⟨by rw [HP.out, hz]⟩
  have HFR : Aside0 (Fr w w5.drew) := ⟨HF0.out⟩
  clear HP HZ hz HBLK HR HB0 HF0
  generalize w5.drew = w4 at *
  go_wp2
  go_end0
  exact ⟨rfl, by rw [HP2.out]; exact HS.out.2.1, HS.out.2.2.1, HFR.out.trans HS.out.2.2.2⟩
end Go.Proofs.Ytgbfkfmjbacemaa.Cn
