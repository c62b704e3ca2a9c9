import Derived.Test.YtoamamnbapilhaaDoorSlA
import Derived.Test.YtoamamnbapilhaaDoorXx5
import Derived.Test.YtoamamnbapilhaaDoorXx11
import Derived.Test.YtoamamnbapilhaaDoorXx12
namespace Go.Proofs.YtoamamnbapilhaaDoor.X
open Go.RowKit Go.Proofs.YtoamamnbapilhaaDoorW.PrintWords Go.Proofs.YtoamamnbapilhaaDoorW.PrintLast Go.Proofs.YtoamamnbapilhaaDoorW.PrintMore
set_option linter.unusedVariables false
set_option linter.unusedSimpArgs false
def bytesOf : Nat → Int → List Int
  | 0, _ => []
  | m + 1, x => (x % 256) :: bytesOf m (x / 256)
theorem kBQ : ∀ m x, (bytesOf m x).length = m
  | 0, _ => rfl
  | m + 1, x => by rw [bytesOf, List.length_cons, kBQ]
theorem bytesOf_byte : ∀ m x, ∀ b ∈ bytesOf m x, 0 ≤ b ∧ b < 256
  | 0, _, b, h => by simp [bytesOf] at h
  | m + 1, x, b, h => by
    rw [bytesOf, List.mem_cons] at h
    rcases h with rfl | h
    · omega
    · exact bytesOf_byte m _ b h
theorem put_l0 (m : Nat) (hm : m ≤ 8) : ∀ d i (x : Int) (acc : List Int), m = i + d → acc.length ≤ 100 + i → Ev (fun k => little_Put.l0 k x acc (m : Int) (i : Int)) (acc ++ bytesOf d x) := by
  intro d
  induction d with
  | zero =>
    intro i x acc h1 h2
    refine Ev.done fun k => ?_
    simp only [little_Put.l0]
    rw [if_neg (by omega)]
    simp [bytesOf]
  | succ d ih =>
    intro i x acc h1 h2
    have := ih (i + 1) (x / 256) (acc ++ [x % 256]) (by omega) (by rw [List.length_append, List.length_singleton]; omega)
    rw [List.append_assoc] at this
    refine Ev.step this fun k => ?_
    simp only [little_Put.l0]
    rw [if_pos (by omega), if_pos (by omega), wn i (by omega)]
theorem put_ev (x : Int) (m : Nat) (hm : m ≤ 8) : Ev (fun k => little_Put.f k x (m : Int)) (bytesOf m x) := by
  refine Ev.of_eq (put_l0 m hm m 0 x [] (by omega) (by simp)) fun k => ?_
  have : mn (mx (m : Int) 0) 8 = (m : Int) := by unfold mn mx; repeat' split <;> omega
  simp only [little_Put.f, little_held.f, Option.bind_some, this]
  rfl
theorem ref_put_l0 (m : Nat) (hm : m ≤ 8) : ∀ d i (x : Int) (acc : List Int), 0 ≤ x → x < 18446744073709551616 → m = i + d → acc.length ≤ 100 + i → Ev (fun k => footlockerref07_Put.l0 k x (m : Int) acc (i : Int)) (acc ++ bytesOf d x) := by
  intro d
  induction d with
  | zero =>
    intro i x acc h3 h4 h1 h2
    refine Ev.done fun k => ?_
    simp only [footlockerref07_Put.l0]
    rw [if_neg (by omega)]
    simp [bytesOf]
  | succ d ih =>
    intro i x acc h3 h4 h1 h2
    have := ih (i + 1) (x / 256) (acc ++ [x % 256]) (by omega) (by omega) (by omega) (by rw [List.length_append, List.length_singleton]; omega)
    rw [List.append_assoc] at this
    refine Ev.step this fun k => ?_
    simp only [footlockerref07_Put.l0]
    have e1 : IntKind.u64.wrap (Int.tdiv x 256) = x / 256 := by
      rw [Int.tdiv_eq_ediv_of_nonneg h3]
      simp only [IntKind.wrap, IntKind.bits, IntKind.signed]
      simp
      omega
    have e2 : Int.tmod x 256 % 256 = x % 256 := by rw [Int.tmod_eq_emod_of_nonneg h3]; omega
    rw [if_pos (by omega), if_pos (by omega), if_pos (by omega), wn i (by omega), e1, e2]
theorem ref_put (x : Int) (m : Nat) (hm : m ≤ 8) (h3 : 0 ≤ x) (h4 : x < 18446744073709551616) : Ev (fun k => footlockerref07_Put.f k x (m : Int)) (bytesOf m x) :=
  Ev.of_eq (ref_put_l0 m hm m 0 x [] h3 h4 (by omega) (by simp)) fun k => rfl
theorem wrap64u (x : Int) : 0 ≤ IntKind.u64.wrap x ∧ IntKind.u64.wrap x < 18446744073709551616 := by
  simp only [IntKind.wrap, IntKind.bits, IntKind.signed]
  simp
  omega
def layOf (m : Nat) (ns : List Int) : List Int := ns.flatMap fun n => bytesOf m (IntKind.u64.wrap n)
theorem layOf_length (m : Nat) (ns : List Int) : (layOf m ns).length = m * ns.length := by
  unfold layOf
  induction ns with
  | nil => simp
  | cons x l ih => rw [List.flatMap_cons, List.length_append, kBQ, ih, List.length_cons]; rw [Nat.mul_add]; omega
theorem layOf_byte (m : Nat) (ns : List Int) : ∀ b ∈ layOf m ns, 0 ≤ b ∧ b < 256 := by
  intro b hb
  obtain ⟨n, _, h⟩ := List.mem_flatMap.1 hb
  exact bytesOf_byte _ _ b h
theorem lay_int (m : Nat) (hm : m ≤ 8) (ns : List Int) (hn : ns.length ≤ 1000000) : Ev (fun k => seal_lay_int.f k ns (m : Int)) (layOf m ns) := by
  have := ev_fold0 ns (fun s x => s ++ bytesOf m (IntKind.u64.wrap x)) (fun i s => s.length ≤ 8 * i) (fun s i k => seal_lay_int.l0 k (m : Int) s ns (ns.length : Int) i) (fun s => s) [] (by simp)
    (fun s _ => Ev.done fun k => by simp only [seal_lay_int.l0]; rw [if_neg (by omega)])
    (fun i s hi hs => ⟨by rw [List.length_append, kBQ]; omega, fun r' h => by
      refine Ev.stepBind2 (G := ?G) (put_ev (IntKind.u64.wrap ns[i]) m hm) h (fun k => ?_) (fun k => ?_)
      · exact fun k t => if s.length + t.length < 140737488355328 then seal_lay_int.l0 k (m : Int) (s ++ t) ns (ns.length : Int) ((i + 1 : Nat) : Int) else none
      · simp only [seal_lay_int.l0]
        rw [if_pos (by omega), if_pos (by omega), if_pos (by omega), rd_get _ _ hi, wn i (by omega)]
      · have := kBQ m (IntKind.u64.wrap ns[i])
        rw [if_pos (by omega)]⟩)
  rw [foldl_app, List.nil_append] at this
  exact Ev.of_eq this fun k => rfl
theorem lay_uint32 (m : Nat) (hm : m ≤ 8) (ns : List Int) (hn : ns.length ≤ 1000000) : Ev (fun k => seal_lay_uint32.f k ns (m : Int)) (layOf m ns) := by
  have := ev_fold0 ns (fun s x => s ++ bytesOf m (IntKind.u64.wrap x)) (fun i s => s.length ≤ 8 * i) (fun s i k => seal_lay_uint32.l0 k (m : Int) s ns (ns.length : Int) i) (fun s => s) [] (by simp)
    (fun s _ => Ev.done fun k => by simp only [seal_lay_uint32.l0]; rw [if_neg (by omega)])
    (fun i s hi hs => ⟨by rw [List.length_append, kBQ]; omega, fun r' h => by
      refine Ev.stepBind2 (G := ?G) (put_ev (IntKind.u64.wrap ns[i]) m hm) h (fun k => ?_) (fun k => ?_)
      · exact fun k t => if s.length + t.length < 140737488355328 then seal_lay_uint32.l0 k (m : Int) (s ++ t) ns (ns.length : Int) ((i + 1 : Nat) : Int) else none
      · simp only [seal_lay_uint32.l0]
        rw [if_pos (by omega), if_pos (by omega), if_pos (by omega), rd_get _ _ hi, wn i (by omega)]
      · have := kBQ m (IntKind.u64.wrap ns[i])
        rw [if_pos (by omega)]⟩)
  rw [foldl_app, List.nil_append] at this
  exact Ev.of_eq this fun k => rfl
theorem ref_numbers (a b c d e : Int) (ha : 0 ≤ a ∧ a < 18446744073709551616) (hb : 0 ≤ b ∧ b < 18446744073709551616) (hc : 0 ≤ c ∧ c < 18446744073709551616) (hd : 0 ≤ d ∧ d < 18446744073709551616) (he : 0 ≤ e ∧ e < 18446744073709551616) :
    Ev (fun k => footlockerref18_Numbers.f k [a, b, c, d, e] [2, 2, 2, 4, 4]) (bytesOf 2 a ++ bytesOf 2 b ++ bytesOf 2 c ++ bytesOf 4 d ++ bytesOf 4 e) := by
  have step : ∀ (s : List Int) (i : Nat) (x : Int) (m : Nat) (r : List Int), s.length ≤ 100 → i < 5 → m ≤ 8 → rd [a, b, c, d, e] (i : Int) = x → rd [2, 2, 2, 4, 4] (i : Int) = (m : Int) → 0 ≤ x ∧ x < 18446744073709551616 →
      Ev (fun k => footlockerref18_Numbers.l0 k [a, b, c, d, e] [2, 2, 2, 4, 4] (s ++ bytesOf m x) ((i + 1 : Nat) : Int)) r → Ev (fun k => footlockerref18_Numbers.l0 k [a, b, c, d, e] [2, 2, 2, 4, 4] s (i : Int)) r := by
    intro s i x m r h1 h2 hm h3 h4 h5 h
    refine Ev.stepBind2 (G := ?G) (ref_put x m hm h5.1 h5.2) h (fun k => ?_) (fun k => ?_)
    · exact fun k t => if s.length + t.length < 140737488355328 then footlockerref18_Numbers.l0 k [a, b, c, d, e] [2, 2, 2, 4, 4] (s ++ t) ((i + 1 : Nat) : Int) else none
    · simp only [footlockerref18_Numbers.l0]
      rw [if_pos (by simp; omega), if_pos (by omega), if_pos (by simp; omega), h3, h4, wn i (by omega)]
    · have := kBQ m x
      rw [if_pos (by omega)]
  have e5 : Ev (fun k => footlockerref18_Numbers.l0 k [a, b, c, d, e] [2, 2, 2, 4, 4] (((((([] : List Int) ++ bytesOf 2 a) ++ bytesOf 2 b) ++ bytesOf 2 c) ++ bytesOf 4 d) ++ bytesOf 4 e) ((4 + 1 : Nat) : Int)) (bytesOf 2 a ++ bytesOf 2 b ++ bytesOf 2 c ++ bytesOf 4 d ++ bytesOf 4 e) := Ev.done fun k => by
    simp only [footlockerref18_Numbers.l0]
    rw [if_neg (by simp)]
    simp
  have := step [] 0 a 2 _ (by simp) (by omega) (by omega) rfl rfl ha (step _ 1 b 2 _ (by simp [kBQ]) (by omega) (by omega) rfl rfl hb (step _ 2 c 2 _ (by simp [kBQ]) (by omega) (by omega) rfl rfl hc (step _ 3 d 4 _ (by simp [kBQ]) (by omega) (by omega) rfl rfl hd (step _ 4 e 4 _ (by simp [kBQ]) (by omega) (by omega) rfl rfl he e5))))
  exact Ev.of_eq this fun k => rfl
theorem foldl_len (L : List (List Int)) : ∀ (n : Nat), L.foldl (fun s x => s + x.length) n = n + L.flatten.length := by
  induction L with
  | nil => intro n; simp
  | cons x l ih => intro n; rw [List.foldl_cons, ih]; simp [List.length_append]; omega
theorem foldl_join (L : List (List Int)) : ∀ (s : List Int), L.foldl (fun s x => s ++ x) s = s ++ L.flatten := by
  induction L with
  | nil => intro n; simp
  | cons x l ih => intro n; rw [List.foldl_cons, ih]; simp
theorem flat_take (L : List (List Int)) (i : Nat) (hi : i < L.length) : (L.take (i + 1)).flatten = (L.take i).flatten ++ L[i] := by
  rw [List.take_add_one, List.getElem?_eq_getElem hi, List.flatten_append]; simp
theorem flat_take_le (L : List (List Int)) (i : Nat) : (L.take i).flatten.length ≤ L.flatten.length := by
  conv => rhs; rw [← List.take_append_drop i L]
  rw [List.flatten_append, List.length_append]; omega
theorem join_ev (L : List (List Int)) (hn : L.length ≤ 1000000) (ht : L.flatten.length ≤ 1000000000) : Ev (fun k => footlockerref01_Join.f k L) L.flatten := by
  have := ev_fold0 L (fun s x => s ++ x) (fun i s => s = (L.take i).flatten) (fun s i k => footlockerref01_Join.l0 k L s i) (fun s => s) [] (by simp)
    (fun s _ => Ev.done fun k => by simp only [footlockerref01_Join.l0]; rw [if_neg (by omega)])
    (fun i s hi hs => ⟨by rw [flat_take L i hi, hs], fun r' h => by
      refine Ev.step h fun k => ?_
      have h1 := flat_take_le L (i + 1)
      rw [flat_take L i hi, ← hs, List.length_append] at h1
      simp only [footlockerref01_Join.l0]
      rw [if_pos (by omega), if_pos (by omega), rdL8_get _ _ hi, if_pos (by omega), wn i (by omega)]⟩)
  rw [foldl_join, List.nil_append] at this
  exact Ev.of_eq this fun k => rfl
theorem concat_l1 (L : List (List Int)) (hn : L.length ≤ 1000000) (ht : L.flatten.length ≤ 1000000000) : Ev (fun k => slices_Concat_byte_byte.l1 k [] L (L.length : Int) 0) L.flatten := by
  have := ev_fold0 L (fun s x => s ++ x) (fun i s => s = (L.take i).flatten) (fun s i k => slices_Concat_byte_byte.l1 k s L (L.length : Int) i) (fun s => s) [] (by simp)
    (fun s _ => Ev.done fun k => by simp only [slices_Concat_byte_byte.l1]; rw [if_neg (by omega)])
    (fun i s hi hs => ⟨by rw [flat_take L i hi, hs], fun r' h => by
      refine Ev.step h fun k => ?_
      have h1 := flat_take_le L (i + 1)
      rw [flat_take L i hi, ← hs, List.length_append] at h1
      simp only [slices_Concat_byte_byte.l1]
      rw [if_pos (by omega), if_pos (by omega), if_pos (by omega), rdL8_get _ _ hi, if_pos (by omega), wn i (by omega)]⟩)
  rw [foldl_join, List.nil_append] at this
  exact this
theorem concat_ev (L : List (List Int)) (hn : L.length ≤ 1000000) (h0 : 0 < L.flatten.length) (ht : L.flatten.length ≤ 1000000000) : Ev (fun k => slices_Concat_byte_byte.f k L) L.flatten := by
  have := ev_fold0 L (fun s x => s + x.length) (fun i s => s = (L.take i).flatten.length) (fun (s : Nat) i k => slices_Concat_byte_byte.l0 k L (s : Int) L (L.length : Int) i) (fun _ => L.flatten) 0 (by simp)
    (fun s hs => by
      rw [List.take_length] at hs
      subst hs
      refine Ev.step (concat_l1 L hn ht) fun k => ?_
      simp only [slices_Concat_byte_byte.l0]
      rw [if_neg (by omega)]
      simp only [slices_Grow_byte_byte.f]
      rw [if_pos trivial, if_pos (by omega), if_pos (by omega), Option.bind_some])
    (fun i s hi hs => ⟨by rw [flat_take L i hi, hs, List.length_append], fun r' h => by
      refine Ev.step h fun k => ?_
      have h1 := flat_take_le L (i + 1)
      rw [flat_take L i hi, List.length_append, ← hs] at h1
      have e1 : wrap64 ((s : Int) + ((rd_L8 L (i : Int)).length : Int)) = ((s + L[i].length : Nat) : Int) := by rw [rdL8_get _ _ hi, wrap_in _ (by omega) (by omega)]; omega
      simp only [slices_Concat_byte_byte.l0]
      rw [if_pos (by omega), if_pos (by omega), if_pos (by omega), e1, if_neg (by omega), wn i (by omega)]⟩)
  exact Ev.of_eq this fun k => rfl
theorem l1_ev (x1 : List Int) (i : Nat) : ∀ (d j : Nat) (x : Nat) (r : Int), 8 = j + d → x < 4294967296 → Ev (fun k => footlockerref06_Update.l0 k x1 ((Nat.repeat st d x : Nat) : Int) (wrap64 ((i : Int) + 1))) r → Ev (fun k => footlockerref06_Update.l1 k x1 (x : Int) (i : Int) (j : Int)) r := by
  intro d
  induction d with
  | zero =>
    intro j x r h1 h2 h
    refine Ev.step h fun k => ?_
    simp only [footlockerref06_Update.l1]
    rw [if_neg (by omega)]
    rfl
  | succ d ih =>
    intro j x r h1 h2 h
    have hrep : ∀ d (x : Nat), Nat.repeat st (d + 1) x = Nat.repeat st d (st x) := by
      intro d
      induction d with
      | zero => intro x; rfl
      | succ d ih => intro x; show st (Nat.repeat st (d + 1) x) = st (Nat.repeat st d (st x)); rw [ih]
    rw [hrep] at h
    refine Ev.step (ih (j + 1) (st x) r (by omega) (st_lt h2) h) fun k => ?_
    simp only [footlockerref06_Update.l1]
    rw [if_pos (by omega), wn j (by omega)]
    have e2 : ((x : Int) / 2) = ((x / 2 : Nat) : Int) := by omega
    by_cases hx : x % 2 = 1
    · rw [if_pos (by rw [Int.tmod_eq_emod_of_nonneg (by omega)]; omega), e2, show (3988292384 : Int) = ((3988292384 : Nat) : Int) from rfl, bits_xor_nat (x / 2) 3988292384 (by omega) (by decide)]
      unfold st
      rw [if_pos hx]
    · rw [if_neg (by rw [Int.tmod_eq_emod_of_nonneg (by omega)]; omega), e2]
      unfold st
      rw [if_neg hx, Nat.xor_zero]
def isByte (x : Int) : Prop := 0 ≤ x ∧ x < 256
theorem upd_ev (l : List Int) (hb : ∀ x ∈ l, isByte x) (hl : l.length < 9223372036854775807) : Ev (fun k => footlockerref06_Update.l0 k l (Go.bits .xor .u32 IntKind.u32.max 0) 0) (crcOf l) := by
  have e0 : Go.bits .xor .u32 IntKind.u32.max 0 = ((4294967295 : Nat) : Int) := by decide
  have := ev_fold0 l (fun s x => crcStep s x) (fun i s => ∃ n : Nat, s = (n : Int) ∧ n < 4294967296) (fun s i k => footlockerref06_Update.l0 k l s i) (fun s => Go.bits .xor .u32 IntKind.u32.max s) (Go.bits .xor .u32 IntKind.u32.max 0) ⟨_, e0, by decide⟩
    (fun s _ => Ev.done fun k => by simp only [footlockerref06_Update.l0]; rw [if_neg (by omega)])
    (fun i s hi hs => by
      obtain ⟨n, rfl, hn⟩ := hs
      obtain ⟨b, hbb⟩ : ∃ b : Nat, l[i] = (b : Int) := ⟨l[i].toNat, by have := (hb l[i] (List.getElem_mem hi)).1; omega⟩
      have hb2 : b < 256 := by have := (hb l[i] (List.getElem_mem hi)).2; omega
      have hx : n ^^^ b < 4294967296 := Nat.xor_lt_two_pow (n := 32) hn (by omega)
      rw [hbb, crcStep_nat n b hn (by omega)]
      refine ⟨⟨_, rfl, st8_lt hx⟩, fun r' h => ?_⟩
      refine Ev.step (l1_ev l i 8 0 (n ^^^ b) r' rfl hx (by rw [wn i (by omega)]; exact h)) fun k => ?_
      simp only [footlockerref06_Update.l0]
      rw [if_pos (by omega), if_pos (by omega), rd_get _ _ hi, hbb, show ((b : Int) % 4294967296) = (b : Int) from by omega, bits_xor_nat n b hn (by omega)]
      rfl)
  exact this
theorem ref_sum (l : List Int) (hb : ∀ x ∈ l, isByte x) (hl : l.length < 9223372036854775807) : Ev (fun k => footlockerref06_Sum.f k l) (crcOf l) := by
  refine Ev.of_eq (upd_ev l hb hl) fun k => ?_
  simp only [footlockerref06_Sum.f, footlockerref06_Update.f]
  cases footlockerref06_Update.l0 k l (Go.bits .xor .u32 IntKind.u32.max 0) 0 <;> rfl
theorem sum_eq (l : List Int) : crc_Sum.f l = some (crcOf l) := rfl
end Go.Proofs.YtoamamnbapilhaaDoor.X
