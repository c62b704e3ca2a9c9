/- Bits of bytes; the next symbol of a row of bits; the contracts of Table.Read and Table.Code. -/
import Derived.Test.YtgbfkfmjbacemaaCnI
namespace Go.Proofs.Ytgbfkfmjbacemaa.Cn
open Go.RowKit Go.Proofs.YtgbfkfmjbacemaaW.PrintWords Go.Proofs.YtgbfkfmjbacemaaW.PrintLast Go.Proofs.YtgbfkfmjbacemaaW.PrintMore Go.Proofs.Ytgbfkfmjbacemaa.PCanonReads Go.Proofs.Ytgbfkfmjbacemaa.Lb
attribute [local go_sem] max2_int min2_int max_two min_two
set_option linter.unusedVariables false
set_option linter.unusedSimpArgs false

/-- the bits of bytes, the lowest one of each byte first. -/
def bitsOf (s : List Nat) : List Nat := s.flatMap fun x => (List.range 8).map fun j => x / 2 ^ j % 2
theorem bitsOf_length (s : List Nat) : (bitsOf s).length = 8 * s.length := by
  induction s with
  | nil => rfl
  | cons x s ih =>
    simp only [bitsOf, List.flatMap_cons, List.length_append, List.length_map, List.length_range, List.length_cons] at ih ⊢
    omega
theorem bitsOf_get (s : List Nat) : ∀ i, i < 8 * s.length → (bitsOf s)[i]? = some (s.getD (i / 8) 0 / 2 ^ (i % 8) % 2) := by
  induction s with
  | nil => intro i h; simp at h
  | cons x s ih =>
    intro i h
    simp only [bitsOf, List.flatMap_cons] at ih ⊢
    by_cases hi : i < 8
    · rw [List.getElem?_append_left (by simp; omega)]
      have e1 : i / 8 = 0 := by omega
      have e2 : i % 8 = i := by omega
      simp [e1, e2, hi]
    · rw [List.getElem?_append_right (by simp; omega)]
      simp only [List.length_map, List.length_range]
      rw [ih (i - 8) (by simp at h; omega)]
      have e1 : i / 8 = (i - 8) / 8 + 1 := by omega
      have e2 : i % 8 = (i - 8) % 8 := by omega
      rw [e1, e2]
      simp
theorem bitsOf_le (s : List Nat) : ∀ b ∈ bitsOf s, b ≤ 1 := by
  intro b hb
  simp only [bitsOf, List.mem_flatMap, List.mem_map] at hb
  obtain ⟨x, _, j, _, rfl⟩ := hb
  omega

theorem and_u8 (a b : Nat) (ha : a < 256) (hb : b < 256) : Go.bits .and .u8 (a : Int) (b : Int) = ((a &&& b : Nat) : Int) := by
  have hx : a &&& b ≤ a := Nat.and_le_left
  have h1 : (BitVec.ofInt 8 (a : Int)).toNat = a := by rw [BitVec.ofInt_natCast, BitVec.toNat_ofNat]; exact Nat.mod_eq_of_lt (by omega)
  have h2 : (BitVec.ofInt 8 (b : Int)).toNat = b := by rw [BitVec.ofInt_natCast, BitVec.toNat_ofNat]; exact Nat.mod_eq_of_lt (by omega)
  show IntKind.u8.wrap ((BitVec.ofInt 8 (a : Int) &&& BitVec.ofInt 8 (b : Int)).toNat : Int) = _
  rw [BitVec.toNat_and, h1, h2]
  show ((a &&& b : Nat) : Int) % 256 = _
  omega
theorem and_one_u8 (x : Nat) (h : x < 256) : Go.bits .and .u8 (x : Int) 1 = ((x % 2 : Nat) : Int) := by
  have := and_u8 x 1 h (by omega)
  rw [Nat.and_one_is_mod] at this
  exact this
theorem or_zero_bit (b : Nat) (h : b ≤ 1) : Go.bits .or .u32 0 (b : Int) = (b : Int) := by
  have : ∀ x : Fin 2, Go.bits .or .u32 0 ((x.val : Nat) : Int) = ((x.val : Nat) : Int) := by decide
  exact this ⟨b, by omega⟩
theorem wrap_small (x : Int) (h0 : -9223372036854775808 ≤ x) (h1 : x ≤ 9223372036854775807) : wrap64 x = x := by unfold wrap64; omega
theorem wrap_len (s : List Nat) (hl : s.length ≤ 140737488355328) : wrap64 (8 * ((ints s).length : Int)) = 8 * (s.length : Int) := by
  rw [ints_length]; exact wrap_small _ (by omega) (by omega)
theorem shr_u8 (x j : Nat) (hj : j < 8) : shr .u8 (x : Int) (j : Int) = ((x / 2 ^ j : Nat) : Int) := by
  unfold shr
  rw [Int.toNat_natCast, Nat.min_eq_left (by simp [IntKind.bits]; omega), Int.natCast_ediv, Int.natCast_pow]
  rfl
theorem shl_zero_bit (b : Nat) (h : b ≤ 1) : shl .u32 (b : Int) 0 = (b : Int) := by
  have : ∀ y : Fin 2, shl .u32 ((y.val : Nat) : Int) 0 = ((y.val : Nat) : Int) := by decide
  exact this ⟨b, by omega⟩
theorem l0_step (bs : List Int) (i : Int) (g1 : (0 : Int) ≤ wrap64 (Int.tdiv i 8)) (g2 : wrap64 (Int.tdiv i 8) < (bs.length : Int)) (g3 : (0 : Int) ≤ Int.tmod i 8) :
    bits_Reader_Get.l0 2 0 1 0 bs i = some (Go.bits .or .u32 0 (shl .u32 ((Go.bits .and .u8 (shr .u8 (rd bs (wrap64 (Int.tdiv i 8))) (Int.tmod i 8)) 1) % 4294967296) 0), true, wrap64 (i + 1)) := by
  have g4 : (0 : Int) < 1 := by decide
  have g5 : ¬ (wrap64 (0 + 1) : Int) < 1 := by rw [wrap_small _ (by decide) (by decide)]; decide
  have g6 : (0 : Int) ≤ 0 := by decide
  simp only [bits_Reader_Get.l0]
  rw [if_pos g4, if_pos g1, if_pos g2, if_pos g3, if_pos g6, if_neg g5]
theorem bit_of_get {bs : List Int} {i r1 r3 : Int} {r2 : Bool} (h : bits_Reader_Get.f 2 bs i 1 = some (r1, r2, r3)) : bits_Reader_Bit.f 2 bs i = some (r1, r2, r3) := by
  unfold bits_Reader_Bit.f
  rw [h]
  simp only [Option.bind_some]
theorem bit_pre (s : List Nat) (i : Nat) (hi : i < 8 * s.length) (hl : s.length ≤ 140737488355328) : ¬ (1 : Int) > wrap64 ((wrap64 (8 * ((ints s).length : Int))) - (i : Int)) ∧ wrap64 (Int.tdiv (i : Int) 8) = ((i / 8 : Nat) : Int) ∧ Int.tmod (i : Int) 8 = ((i % 8 : Nat) : Int) ∧ wrap64 ((i : Int) + 1) = ((i + 1 : Nat) : Int) := by
  have e7 := wrap_len s hl
  have e8 : wrap64 (8 * (s.length : Int) - (i : Int)) = 8 * (s.length : Int) - (i : Int) := wrap_small _ (by omega) (by omega)
  refine ⟨by rw [e7, e8]; clear e7 e8; omega, ?_, ?_, ?_⟩
  · rw [show (8 : Int) = ((8 : Nat) : Int) from rfl, ← Int.ofNat_tdiv]
    exact wrap_small _ (by omega) (by omega)
  · rw [show (8 : Int) = ((8 : Nat) : Int) from rfl, ← Int.ofNat_tmod]
  · rw [wrap_small _ (by omega) (by omega)]; omega
theorem bit_val (x j : Nat) (hx : x < 256) (hj : j < 8) : Go.bits .or .u32 0 (shl .u32 ((Go.bits .and .u8 (shr .u8 (x : Int) (j : Int)) 1) % 4294967296) 0) = ((x / 2 ^ j % 2 : Nat) : Int) := by
  have hx2 : x / 2 ^ j < 256 := Nat.lt_of_le_of_lt (Nat.div_le_self _ _) hx
  rw [shr_u8 x j hj]
  generalize x / 2 ^ j = y at hx2 ⊢
  have hb : y % 2 ≤ 1 := by omega
  rw [and_one_u8 _ hx2, Int.emod_eq_of_lt (by omega) (by omega), shl_zero_bit _ hb, or_zero_bit _ hb]
theorem bit_get (s : List Nat) (hs : ∀ x ∈ s, x < 256) (i : Nat) (hi : i < 8 * s.length) (hl : s.length ≤ 140737488355328) :
    bits_Reader_Bit.f 2 (ints s) (i : Int) = some ((((bitsOf s).getD i 0 : Nat) : Int), true, ((i + 1 : Nat) : Int)) := by
  obtain ⟨h, e1, e2, e6⟩ := bit_pre s i hi hl
  have hi8 : i / 8 < s.length := by omega
  have hget : s.getD (i / 8) 0 = s[i / 8] := by rw [List.getD_eq_getElem?_getD, List.getElem?_eq_getElem hi8, Option.getD_some]
  have hb : (bitsOf s).getD i 0 = s[i / 8] / 2 ^ (i % 8) % 2 := by rw [List.getD_eq_getElem?_getD, bitsOf_get s i hi, Option.getD_some, hget]
  have hbyte : s[i / 8] < 256 := hs _ (List.getElem_mem hi8)
  have hrd : rd (ints s) ((i / 8 : Nat) : Int) = (s[i / 8] : Int) := ints_rd _ _ hi8
  have e9 : bits_held.f 1 = some 1 := by decide
  have key : bits_Reader_Get.l0 2 0 1 0 (ints s) (i : Int) = some (((s[i / 8] / 2 ^ (i % 8) % 2 : Nat) : Int), true, ((i + 1 : Nat) : Int)) := by
    rw [l0_step (ints s) i (by rw [e1]; exact Int.natCast_nonneg _) (by rw [e1, ints_length]; exact Int.ofNat_lt.2 hi8) (by rw [e2]; exact Int.natCast_nonneg _), e1, e2, hrd, bit_val _ _ hbyte (Nat.mod_lt _ (by decide)), e6]
  have key2 : bits_Reader_Get.f 2 (ints s) (i : Int) 1 = some (((s[i / 8] / 2 ^ (i % 8) % 2 : Nat) : Int), true, ((i + 1 : Nat) : Int)) := by
    unfold bits_Reader_Get.f
    rw [e9, Option.bind_some, if_neg h]
    exact key
  rw [hb]
  exact bit_of_get key2
theorem bit_none (s : List Nat) (i : Nat) (hi : 8 * s.length ≤ i) (hl : s.length ≤ 140737488355328) (hi2 : i ≤ 9000000000000000000) :
    bits_Reader_Bit.f 2 (ints s) (i : Int) = some (0, false, (i : Int)) := by
  have e7 := wrap_len s hl
  have e8 : wrap64 (8 * (s.length : Int) - (i : Int)) = 8 * (s.length : Int) - (i : Int) := wrap_small _ (by omega) (by omega)
  have e9 : bits_held.f 1 = some 1 := by decide
  have h : (1 : Int) > wrap64 ((wrap64 (8 * ((ints s).length : Int))) - (i : Int)) := by rw [e7, e8]; omega
  have key2 : bits_Reader_Get.f 2 (ints s) (i : Int) 1 = some (0, false, (i : Int)) := by
    unfold bits_Reader_Get.f
    rw [e9, Option.bind_some, if_pos h]
  unfold bits_Reader_Bit.f
  rw [key2, Option.bind_some]

theorem or_u32 (a b : Nat) (ha : a < 4294967296) (hb : b < 4294967296) : Go.bits .or .u32 (a : Int) (b : Int) = ((a ||| b : Nat) : Int) := by
  have hx : a ||| b < 2 ^ 32 := Nat.or_lt_two_pow (by omega) (by omega)
  have h1 : (BitVec.ofInt 32 (a : Int)).toNat = a := by rw [BitVec.ofInt_natCast, BitVec.toNat_ofNat]; exact Nat.mod_eq_of_lt (by omega)
  have h2 : (BitVec.ofInt 32 (b : Int)).toNat = b := by rw [BitVec.ofInt_natCast, BitVec.toNat_ofNat]; exact Nat.mod_eq_of_lt (by omega)
  show IntKind.u32.wrap ((BitVec.ofInt 32 (a : Int) ||| BitVec.ofInt 32 (b : Int)).toNat : Int) = _
  rw [BitVec.toNat_or, h1, h2]
  show ((a ||| b : Nat) : Int) % 4294967296 = _
  omega
theorem or_bit (c b : Nat) (hc : c < 32768) (hb : b ≤ 1) : Go.bits .or .u32 ((c : Int) * 2) (b : Int) = ((2 * c + b : Nat) : Int) := by
  have e : (c : Int) * 2 = ((2 * c : Nat) : Int) := by omega
  rw [e, or_u32 _ _ (by omega) (by omega)]
  have := Nat.two_pow_add_eq_or_of_lt (i := 1) (b := b) (by omega) c
  rw [show (2 : Nat) ^ 1 = 2 from rfl] at this
  rw [this]

/-- the next symbol from a place on, n bits being read of it: the symbol, the error's number, the place. -/
def rd1 (ls bs : List Nat) : Nat → Nat → Nat → Nat → Nat × Nat × Nat
  | 0, i, _, _ => (0, 34, i)
  | f + 1, i, c, n =>
    if (List.range 16).all (fun l => decide (l < n) || decide (lg ls ls.length < l) || decide (CN.cnt ls l = 0) || decide (CN.fin ls l ≤ c * 2 ^ (l - n))) then (0, 34, i)
    else match bs[i]? with
      | none => (0, 20, i)
      | some b => if 2 * c + b < CN.fin ls (n + 1) then ((sy ls ls.length (n + 1)).getD (2 * c + b - CN.first ls (n + 1)) 0, 0, i + 1) else rd1 ls bs f (i + 1) (2 * c + b) (n + 1)
theorem nn_bool (ls : List Nat) (hb : ∀ x ∈ ls, x ≤ 15) (c n : Nat) : (List.range 16).all (fun l => decide (l < n) || decide (lg ls ls.length < l) || decide (CN.cnt ls l = 0) || decide (CN.fin ls l ≤ c * 2 ^ (l - n))) = true ↔ nn ls c n := by
  have hlg := lg_le ls hb ls.length
  rw [List.all_eq_true]
  constructor
  · intro h l h1 h2
    have := h l (List.mem_range.2 (by omega))
    simp only [Bool.or_eq_true, decide_eq_true_eq] at this
    rcases this with ((h3 | h3) | h3) | h3
    · omega
    · omega
    · exact .inl h3
    · exact .inr h3
  · intro h l hl
    simp only [Bool.or_eq_true, decide_eq_true_eq]
    by_cases h1 : l < n
    · exact .inl (.inl (.inl h1))
    · by_cases h2 : lg ls ls.length < l
      · exact .inl (.inl (.inr h2))
      · rcases h l (by omega) (by omega) with h3 | h3
        · exact .inl (.inr h3)
        · exact .inr h3
theorem rd1_nn {ls bs : List Nat} (hb : ∀ x ∈ ls, x ≤ 15) {f i c n : Nat} (h : nn ls c n) : rd1 ls bs (f + 1) i c n = (0, 34, i) := by
  unfold rd1; rw [if_pos ((nn_bool ls hb c n).2 h)]
theorem rd1_go {ls bs : List Nat} (hb : ∀ x ∈ ls, x ≤ 15) {f i c n : Nat} (h : ¬ nn ls c n) : rd1 ls bs (f + 1) i c n = match bs[i]? with
      | none => (0, 20, i)
      | some b => if 2 * c + b < CN.fin ls (n + 1) then ((sy ls ls.length (n + 1)).getD (2 * c + b - CN.first ls (n + 1)) 0, 0, i + 1) else rd1 ls bs f (i + 1) (2 * c + b) (n + 1) := by
  conv => lhs; unfold rd1
  rw [if_neg (fun h2 => h ((nn_bool ls hb c n).1 h2))]
end Go.Proofs.Ytgbfkfmjbacemaa.Cn
