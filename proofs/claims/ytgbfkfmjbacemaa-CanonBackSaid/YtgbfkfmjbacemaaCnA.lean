/- The contracts of canon's functions that only read lists: a list of lengths is looked through by a closure. -/
import Derived.Test.YtgbfkfmjbacemaaPCanonReadsx1
namespace Go.Proofs.Ytgbfkfmjbacemaa.Cn
open Go.RowKit Go.Proofs.YtgbfkfmjbacemaaW.PrintWords Go.Proofs.YtgbfkfmjbacemaaW.PrintLast Go.Proofs.YtgbfkfmjbacemaaW.PrintMore Go.Proofs.Ytgbfkfmjbacemaa.PCanonReads
attribute [local go_sem] max2_int min2_int max_two min_two
set_option linter.unusedVariables false
set_option linter.unusedSimpArgs false

def bad (x : Int) : Bool := decide (x < 0) || decide (15 < x)

theorem bad_calls (x : Int) (w : World) : Calls Try.prog 32 #[.int .i64 x] w fun e w' => e = .returned (.bool (bad x)) ∧ Drawn0 w w' := by
  by_cases h1 : x < 0
  · go_enter Try.func32, Try.ntmps32
    go_wp2
    go_ret
    exact ⟨by simp [bad, h1], Drawn0.refl _⟩
  · by_cases h2 : 15 < x
    · go_enter Try.func32, Try.ntmps32
      go_wp2
      go_ret
      exact ⟨by simp [bad, h1, h2], Drawn0.refl _⟩
    · go_enter Try.func32, Try.ntmps32
      go_wp2
      go_ret
      exact ⟨by simp [bad, h1, h2], Drawn0.refl _⟩

/-- slices.IndexFunc at a list of ints and canon.check's own predicate: is there one? -/
theorem indexFunc_calls (A0 : Option Addr) (c0 : Nat) (l0 : List Int) (w : World) (hr0 : Kd.C (Kd.int .i64) w A0 l0.length l0) :
    Calls Try.prog 38 #[.slice A0 l0.length c0, .func (.func 32) #[] #[]] w fun e w' => (∃ i : Int, e = .returned (.int .i64 i) ∧ Aside0 (0 ≤ i ↔ l0.any bad = true)) ∧ Drawn0 w w' := by
  have HR := Aside0.mk hr0
  have hm := Kd.C_max hr0
  clear hr0
  go_enter Try.func38, Try.ntmps38
  go_wp2
  go_loopw [5, 8] (fun v5 v8 w' => ∃ (k : Nat), v8 = .int .i64 k ∧ k ≤ l0.length ∧ Aside0 ((l0.take k).any bad = false) ∧ Drawn0 w w') (fun _ v8 _ => l0.length - (intOf v8).toNat)
  case atStart => exact ⟨0, rfl, Nat.zero_le _, ⟨by simp⟩, Drawn0.refl _⟩
  case round =>
    obtain ⟨k, rfl, hk, HA, ⟨m, rfl⟩⟩ := hrel
    by_cases hlt : k < l0.length
    · obtain ⟨ad, e1, hx⟩ := Kd.at_int HR.out (k : Int) (by omega) (by omega)
      cases e1
      rw [Int.toNat_natCast] at hx
      have hrd : rd l0 (k : Int) = l0[k] := by simp [rd, hlt]
      have HRD := Aside0.mk hrd
      clear hrd
      by_cases hb : bad (rd l0 (k : Int)) = true
      · go_wp2_with (go_at_call 32; refine (bad_calls (rd l0 (k : Int)) _).mono ?_; rintro e w1 ⟨rfl, ⟨m1, rfl⟩⟩)
        go_ret
        refine ⟨⟨_, rfl, ⟨fun _ => ?_, fun _ => by omega⟩⟩, ⟨⟨_, rfl⟩⟩⟩
        rw [List.any_eq_true]
        exact ⟨_, List.getElem_mem hlt, by rw [← HRD.out]; exact hb⟩
      · have hb' : bad (rd l0 (k : Int)) = false := by simpa using hb
        clear hb
        go_wp2_with (go_at_call 32; refine (bad_calls (rd l0 (k : Int)) _).mono ?_; rintro e w1 ⟨rfl, ⟨m1, rfl⟩⟩)
        go_roundw
        case rel => exact ⟨k + 1, by go_num, by omega, ⟨by rw [List.take_succ_eq_append_getElem hlt, List.any_append, HA.out, ← HRD.out]; simp [hb']⟩, ⟨⟨_, rfl⟩⟩⟩
        case measure => simp [intOf]; omega
    · go_wp2
      go_ret
      refine ⟨⟨_, rfl, ⟨fun h => absurd h (by omega), fun h => ?_⟩⟩, ⟨⟨_, rfl⟩⟩⟩
      have := HA.out
      rw [List.take_of_length_le (by omega)] at this
      rw [h] at this
      cases this
end Go.Proofs.Ytgbfkfmjbacemaa.Cn
