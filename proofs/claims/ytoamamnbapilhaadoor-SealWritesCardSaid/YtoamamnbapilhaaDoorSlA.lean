import Derived.Test.YtoamamnbapilhaaDoorXx3
namespace Go.Proofs.YtoamamnbapilhaaDoor.X
open Go.RowKit Go.Proofs.YtoamamnbapilhaaDoorW.PrintWords Go.Proofs.YtoamamnbapilhaaDoorW.PrintLast Go.Proofs.YtoamamnbapilhaaDoorW.PrintMore
set_option linter.unusedVariables false
set_option linter.unusedSimpArgs false
def Ev {α : Type} (F : Nat → Option α) (r : α) : Prop := ∃ k0, ∀ k, k0 ≤ k → F k = some r
theorem Ev.done {α : Type} {F : Nat → Option α} {r : α} (h : ∀ k, F (k + 1) = some r) : Ev F r :=
  ⟨1, fun k hk => by obtain ⟨k, rfl⟩ : ∃ k', k = k' + 1 := ⟨k - 1, by omega⟩; exact h k⟩
theorem Ev.step {α : Type} {F G : Nat → Option α} {r : α} (hg : Ev G r) (h : ∀ k, F (k + 1) = G k) : Ev F r := by
  obtain ⟨k0, h0⟩ := hg
  exact ⟨k0 + 1, fun k hk => by obtain ⟨k, rfl⟩ : ∃ k', k = k' + 1 := ⟨k - 1, by omega⟩; rw [h]; exact h0 k (by omega)⟩
theorem Ev.bind {α β : Type} {F : Nat → Option α} {G : α → Nat → Option β} {a : α} {r : β} (h1 : Ev F a) (h2 : Ev (G a) r) : Ev (fun k => (F k).bind fun x => G x k) r := by
  obtain ⟨k1, h1⟩ := h1
  obtain ⟨k2, h2⟩ := h2
  exact ⟨max k1 k2, fun k hk => by simp only [h1 k (by omega), Option.bind_some]; exact h2 k (by omega)⟩
theorem Ev.of_eq {α : Type} {F G : Nat → Option α} {r : α} (hg : Ev G r) (h : ∀ k, F k = G k) : Ev F r := by
  obtain ⟨k0, h0⟩ := hg
  exact ⟨k0, fun k hk => by rw [h]; exact h0 k hk⟩
theorem Ev.pure {α : Type} {F : Nat → Option α} {r : α} (h : ∀ k, F k = some r) : Ev F r := ⟨0, fun k _ => h k⟩
theorem Ev.stepBind {α β : Type} {F : Nat → Option β} {C : Nat → Option α} {G : α → Nat → Option β} {a : α} {r : β} (h1 : Ev C a) (h2 : Ev (G a) r) (h : ∀ k, F (k + 1) = (C k).bind fun x => G x k) : Ev F r :=
  Ev.step (Ev.bind h1 h2) h
theorem Ev.stepBind2 {α β : Type} {F : Nat → Option β} {C : Nat → Option α} {G : Nat → α → Option β} {H : Nat → Option β} {a : α} {r : β} (h1 : Ev C a) (h2 : Ev H r) (h : ∀ k, F (k + 1) = (C k).bind (G k)) (hG : ∀ k, G k a = H k) : Ev F r := by
  obtain ⟨k1, h1⟩ := h1
  obtain ⟨k2, h2⟩ := h2
  exact ⟨max k1 k2 + 1, fun k hk => by obtain ⟨k, rfl⟩ : ∃ k', k = k' + 1 := ⟨k - 1, by omega⟩; rw [h, h1 k (by omega), Option.bind_some, hG]; exact h2 k (by omega)⟩
theorem Ev.bind2 {α β : Type} {F : Nat → Option β} {C : Nat → Option α} {G : Nat → α → Option β} {H : Nat → Option β} {a : α} {r : β} (h1 : Ev C a) (h2 : Ev H r) (h : ∀ k, F k = (C k).bind (G k)) (hG : ∀ k, G k a = H k) : Ev F r := by
  obtain ⟨k1, h1⟩ := h1
  obtain ⟨k2, h2⟩ := h2
  exact ⟨max k1 k2, fun k hk => by rw [h, h1 k (by omega), Option.bind_some, hG]; exact h2 k (by omega)⟩
theorem Ev.some_eq {α : Type} {F : Nat → Option α} {r s : α} (h1 : Ev F r) {k : Nat} (h : F k = some s) (hm : ∀ k, LeO (F k) (F (k + 1))) : s = r := by
  obtain ⟨k0, h0⟩ := h1
  have up : ∀ d, F (k + d) = some s := by
    intro d
    induction d with
    | zero => exact h
    | succ d ih => exact hm _ _ ih
  have := up k0
  rw [h0 _ (by omega)] at this
  exact (Option.some.inj this).symm
theorem wrap_in (x : Int) (h0 : -9223372036854775808 ≤ x) (h1 : x ≤ 9223372036854775807) : wrap64 x = x := by unfold wrap64; omega
theorem wn (i : Nat) (h : i < 9223372036854775807) : wrap64 ((i : Int) + 1) = ((i + 1 : Nat) : Int) := by rw [wrap_in _ (by omega) (by omega)]; omega
theorem rd_get (l : List Int) (i : Nat) (h : i < l.length) : rd l (i : Int) = l[i] := by simp [rd, h]
theorem rdL3_get (l : List (List Int)) (i : Nat) (h : i < l.length) : rd_L3 l (i : Int) = l[i] := by simp [rd_L3, h]
theorem rdL8_get (l : List (List Int)) (i : Nat) (h : i < l.length) : rd_L8 l (i : Int) = l[i] := by simp [rd_L8, h]
theorem ev_fold {S R A : Type} (L : List A) (step : S → A → S) (inv : Nat → S → Prop) (F : S → Int → Nat → Option R) (r : S → R)
    (hdone : ∀ s, inv L.length s → Ev (F s (L.length : Int)) (r s))
    (hstep : ∀ i s, (h : i < L.length) → inv i s → inv (i + 1) (step s L[i]) ∧ ∀ r', Ev (F (step s L[i]) ((i + 1 : Nat) : Int)) r' → Ev (F s (i : Int)) r') :
    ∀ d i s, L.length = i + d → inv i s → Ev (F s (i : Int)) (r ((L.drop i).foldl step s)) := by
  intro d
  induction d with
  | zero =>
    intro i s h1 h2
    rw [List.drop_of_length_le (by omega)]
    have : i = L.length := by omega
    subst this
    exact hdone s h2
  | succ d ih =>
    intro i s h1 h2
    have hlt : i < L.length := by omega
    obtain ⟨h3, h4⟩ := hstep i s hlt h2
    rw [List.drop_eq_getElem_cons hlt, List.foldl_cons]
    exact h4 _ (ih (i + 1) _ (by omega) h3)
theorem ev_fold0 {S R A : Type} (L : List A) (step : S → A → S) (inv : Nat → S → Prop) (F : S → Int → Nat → Option R) (r : S → R) (s : S) (h0 : inv 0 s)
    (hdone : ∀ s, inv L.length s → Ev (F s (L.length : Int)) (r s))
    (hstep : ∀ i s, (h : i < L.length) → inv i s → inv (i + 1) (step s L[i]) ∧ ∀ r', Ev (F (step s L[i]) ((i + 1 : Nat) : Int)) r' → Ev (F s (i : Int)) r') :
    Ev (F s 0) (r (L.foldl step s)) := by
  have := ev_fold L step inv F r hdone hstep L.length 0 s (by omega) h0
  rw [List.drop_zero] at this
  exact this
theorem foldl_app {A B : Type} (f : A → List B) : ∀ (l : List A) (acc : List B), l.foldl (fun s x => s ++ f x) acc = acc ++ l.flatMap f := by
  intro l
  induction l with
  | nil => intro acc; simp
  | cons x l ih => intro acc; rw [List.foldl_cons, ih, List.flatMap_cons, List.append_assoc]
theorem bits_xor_nat (a b : Nat) (ha : a < 4294967296) (hb : b < 4294967296) : Go.bits .xor .u32 (a : Int) (b : Int) = ((a ^^^ b : Nat) : Int) := by
  have ha' : a % 2 ^ 32 = a := Nat.mod_eq_of_lt ha
  have hb' : b % 2 ^ 32 = b := Nat.mod_eq_of_lt hb
  have hx : a ^^^ b < 2 ^ 32 := Nat.xor_lt_two_pow ha hb
  show IntKind.u32.wrap ((BitVec.ofInt 32 ((a : Nat) : Int) ^^^ BitVec.ofInt 32 ((b : Nat) : Int)).toNat : Int) = _
  rw [BitVec.ofInt_natCast, BitVec.ofInt_natCast, BitVec.toNat_xor, BitVec.toNat_ofNat, BitVec.toNat_ofNat, ha', hb', IntKind.wrap_u32]
  omega
theorem bits_and15_nat (a : Nat) (ha : a < 4294967296) : Go.bits .and .u32 (a : Int) 15 = ((a % 16 : Nat) : Int) := by
  have ha' : a % 2 ^ 32 = a := Nat.mod_eq_of_lt ha
  have h15 : a &&& 15 = a % 16 := Nat.and_two_pow_sub_one_eq_mod a 4
  show IntKind.u32.wrap ((BitVec.ofInt 32 ((a : Nat) : Int) &&& BitVec.ofInt 32 ((15 : Nat) : Int)).toNat : Int) = _
  rw [BitVec.ofInt_natCast, BitVec.ofInt_natCast, BitVec.toNat_and, BitVec.toNat_ofNat, BitVec.toNat_ofNat, ha', Nat.mod_eq_of_lt (show 15 < 2 ^ 32 by decide), h15, IntKind.wrap_u32]
  omega
def nibT (i : Nat) : Nat := (nibAt i).toNat
theorem nibT_all : ∀ i, i < 16 → nibAt i = ((nibT i : Nat) : Int) ∧ nibT i < 4294967296 := by decide
def st (x : Nat) : Nat := x / 2 ^^^ (if x % 2 = 1 then 3988292384 else 0)
theorem st_lt {x : Nat} (h : x < 4294967296) : st x < 4294967296 := by
  unfold st
  exact Nat.xor_lt_two_pow (n := 32) (by omega) (by split <;> decide)
theorem xor_odd (x y : Nat) : (x ^^^ y) % 2 = (x + y) % 2 := by
  have h := Nat.testBit_xor x y 0
  rw [Nat.testBit_zero, Nat.testBit_zero, Nat.testBit_zero] at h
  have a0 : (x ^^^ y) % 2 = 0 ∨ (x ^^^ y) % 2 = 1 := by omega
  have a1 : x % 2 = 0 ∨ x % 2 = 1 := by omega
  have a2 : y % 2 = 0 ∨ y % 2 = 1 := by omega
  rcases a0 with a0 | a0 <;> rcases a1 with a1 | a1 <;> rcases a2 with a2 | a2 <;> simp [a0, a1, a2] at h <;> omega
theorem st_xor (x y : Nat) : st (x ^^^ y) = st x ^^^ st y := by
  have h1 : (x ^^^ y) / 2 = x / 2 ^^^ y / 2 := by
    have := Nat.shiftRight_xor_distrib (a := x) (b := y) (i := 1)
    simpa [Nat.shiftRight_eq_div_pow] using this
  have h2 : (x ^^^ y) % 2 = (x + y) % 2 := xor_odd x y
  unfold st
  rw [h1, h2]
  have a1 : x % 2 = 0 ∨ x % 2 = 1 := by omega
  have a2 : y % 2 = 0 ∨ y % 2 = 1 := by omega
  rcases a1 with a1 | a1 <;> rcases a2 with a2 | a2
  · rw [if_neg (by omega), if_neg (by omega), if_neg (by omega)]; simp
  · rw [if_pos (by omega), if_neg (by omega), if_pos (by omega)]; simp [Nat.xor_assoc]
  · rw [if_pos (by omega), if_pos (by omega), if_neg (by omega), Nat.xor_zero, Nat.xor_assoc, Nat.xor_assoc, Nat.xor_comm (y / 2)]
  · rw [if_neg (by omega), if_pos (by omega), if_pos (by omega), Nat.xor_zero]
    rw [Nat.xor_assoc, ← Nat.xor_assoc 3988292384, Nat.xor_comm 3988292384 (y / 2), Nat.xor_assoc (y / 2), Nat.xor_self, Nat.xor_zero]
theorem st_even (h : Nat) : st (2 * h) = h := by
  unfold st
  rw [if_neg (by omega), Nat.xor_zero]
  omega
theorem halves (s : Nat) : s = (2 * (2 * (2 * (2 * (s / 16))))) ^^^ (s % 16) := by
  have e : 2 * (2 * (2 * (2 * (s / 16)))) = 2 ^ 4 * (s / 2 ^ 4) := by omega
  rw [e]
  refine Nat.eq_of_testBit_eq fun i => ?_
  rw [Nat.testBit_xor, Nat.testBit_two_pow_mul, show (16 : Nat) = 2 ^ 4 from rfl, Nat.testBit_mod_two_pow]
  by_cases hi : i < 4
  · have : ¬ 4 ≤ i := by omega
    simp [hi, this]
  · have h4 : 4 ≤ i := by omega
    simp only [hi, h4, decide_true, decide_false, Bool.true_and, Bool.false_and, Bool.xor_false]
    rw [← Nat.shiftRight_eq_div_pow, Nat.testBit_shiftRight]
    congr 1
    omega
theorem st4_low : ∀ i, i < 16 → st (st (st (st i))) = nibT i := by decide
theorem st4 (s : Nat) : st (st (st (st s))) = s / 16 ^^^ nibT (s % 16) := by
  conv => lhs; rw [halves s]
  rw [st_xor, st_xor, st_xor, st_xor, st_even, st_even, st_even, st_even, st4_low _ (Nat.mod_lt _ (by decide))]
def st8 (s : Nat) : Nat := st (st (st (st (st (st (st (st s)))))))
theorem st8_lt {x : Nat} (h : x < 4294967296) : st8 x < 4294967296 := by
  unfold st8
  exact st_lt (st_lt (st_lt (st_lt (st_lt (st_lt (st_lt (st_lt h)))))))
theorem nib_nat (s : Nat) (h : s < 4294967296) : nib (s : Int) = ((st (st (st (st s))) : Nat) : Int) := by
  have h16 := nibT_all (s % 16) (Nat.mod_lt _ (by decide))
  unfold nib
  rw [bits_and15_nat s h, Int.toNat_natCast, h16.1, st4 s, ← bits_xor_nat _ _ (by omega) h16.2]
  rfl
theorem crcStep_nat (s c : Nat) (hs : s < 4294967296) (hc : c < 4294967296) : crcStep (s : Int) (c : Int) = ((st8 (s ^^^ c) : Nat) : Int) := by
  have hx : s ^^^ c < 4294967296 := Nat.xor_lt_two_pow (n := 32) hs hc
  unfold crcStep
  rw [show ((c : Int) % 4294967296) = (c : Int) from by omega, bits_xor_nat s c hs hc, nib_nat _ hx, nib_nat _ (st_lt (st_lt (st_lt (st_lt hx))))]
  rfl
end Go.Proofs.YtoamamnbapilhaaDoor.X
