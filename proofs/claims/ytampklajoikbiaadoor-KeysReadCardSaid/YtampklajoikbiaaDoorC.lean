/- keys.Check and trellisref.IsKey: both tell of any key whether it can be told, and alike. -/
import Derived.Test.YtampklajoikbiaaDoorB
import Derived.Test.YtampklajoikbiaaDoorS
set_option linter.unusedVariables false
set_option linter.unusedSimpArgs false
namespace Go.Proofs.YtampklajoikbiaaDoor
open Go.RowKit Go.Proofs.YtampklajoikbiaaDoorW.PrintWords PKeysRead

def chk (k : Key) : Bool :=
  decide (0 ≤ k.f3 ∧ k.f3 ≤ 7) && ((k.f0 != 1) == (k.f1 == 0)) && ((k.f0 != 15) == (k.f2 == 0)) &&
  (if k.f0 = 1 then (if k.f3 = 0 ∨ k.f3 = 2 then decide (0 < wid k.f1) && validR k.f1 && (decide (k.f3 = 0) || (decide (k.f1 ≠ 91) && decide (k.f1 ≠ 79)))
      else if k.f3 = 4 ∨ k.f3 = 6 then decide (97 ≤ k.f1 ∧ k.f1 ≤ 122) && decide (k.f1 ≠ 105 ∧ k.f1 ≠ 109 ∧ k.f1 ≠ 104) else false)
    else if k.f0 = 2 ∨ k.f0 = 4 then decide (k.f3 = 0 ∨ k.f3 = 2)
    else if k.f0 = 3 then decide (k.f3 = 0 ∨ k.f3 = 1)
    else if k.f0 = 5 then decide (k.f3 = 0)
    else if k.f0 = 15 then decide (1 ≤ k.f2 ∧ k.f2 ≤ 12)
    else decide (6 ≤ k.f0 ∧ k.f0 ≤ 14))

theorem band_0_1 : Go.bits .and .i64 0 1 = 0 := by kernel_rfl
theorem band_0_2 : Go.bits .and .i64 0 2 = 0 := by kernel_rfl
theorem band_0_4 : Go.bits .and .i64 0 4 = 0 := by kernel_rfl
theorem bnot_0_2 : Go.bits .andNot .i64 0 2 = 0 := by kernel_rfl
theorem band_1_1 : Go.bits .and .i64 1 1 = 1 := by kernel_rfl
theorem band_1_2 : Go.bits .and .i64 1 2 = 0 := by kernel_rfl
theorem band_1_4 : Go.bits .and .i64 1 4 = 0 := by kernel_rfl
theorem bnot_1_2 : Go.bits .andNot .i64 1 2 = 1 := by kernel_rfl
theorem band_2_1 : Go.bits .and .i64 2 1 = 0 := by kernel_rfl
theorem band_2_2 : Go.bits .and .i64 2 2 = 2 := by kernel_rfl
theorem band_2_4 : Go.bits .and .i64 2 4 = 0 := by kernel_rfl
theorem bnot_2_2 : Go.bits .andNot .i64 2 2 = 0 := by kernel_rfl
theorem band_3_1 : Go.bits .and .i64 3 1 = 1 := by kernel_rfl
theorem band_3_2 : Go.bits .and .i64 3 2 = 2 := by kernel_rfl
theorem band_3_4 : Go.bits .and .i64 3 4 = 0 := by kernel_rfl
theorem bnot_3_2 : Go.bits .andNot .i64 3 2 = 1 := by kernel_rfl
theorem band_4_1 : Go.bits .and .i64 4 1 = 0 := by kernel_rfl
theorem band_4_2 : Go.bits .and .i64 4 2 = 0 := by kernel_rfl
theorem band_4_4 : Go.bits .and .i64 4 4 = 4 := by kernel_rfl
theorem bnot_4_2 : Go.bits .andNot .i64 4 2 = 4 := by kernel_rfl
theorem band_5_1 : Go.bits .and .i64 5 1 = 1 := by kernel_rfl
theorem band_5_2 : Go.bits .and .i64 5 2 = 0 := by kernel_rfl
theorem band_5_4 : Go.bits .and .i64 5 4 = 4 := by kernel_rfl
theorem bnot_5_2 : Go.bits .andNot .i64 5 2 = 5 := by kernel_rfl
theorem band_6_1 : Go.bits .and .i64 6 1 = 0 := by kernel_rfl
theorem band_6_2 : Go.bits .and .i64 6 2 = 2 := by kernel_rfl
theorem band_6_4 : Go.bits .and .i64 6 4 = 4 := by kernel_rfl
theorem bnot_6_2 : Go.bits .andNot .i64 6 2 = 4 := by kernel_rfl
theorem band_7_1 : Go.bits .and .i64 7 1 = 1 := by kernel_rfl
theorem band_7_2 : Go.bits .and .i64 7 2 = 2 := by kernel_rfl
theorem band_7_4 : Go.bits .and .i64 7 4 = 4 := by kernel_rfl
theorem bnot_7_2 : Go.bits .andNot .i64 7 2 = 5 := by kernel_rfl

theorem width_some' (a : Int) : text_Width.f 59 a = some (wid a) := by
  have h : ∀ n, text_Width.f (51 + n) a = some (wid a) := by
    intro n
    induction n with
    | zero => exact width_some a
    | succ n ih => exact leO_some (text_Width.mono a _) ih
  exact h 8
theorem valid_some' (a : Int) : utf8_ValidRune.f 59 a = some (validR a) := by
  have h : ∀ n, utf8_ValidRune.f (1 + n) a = some (validR a) := by
    intro n
    induction n with
    | zero => exact valid_some a
    | succ n ih => exact leO_some (utf8_ValidRune.mono a _) ih
  exact h 58

theorem check_some (k : Key) : keys_Check.f 60 k.f0 k.f1 k.f2 k.f3 = some (chk k) := by
  obtain ⟨a, b, c, d⟩ := k
  show keys_Check.f 60 a b c d = _
  unfold keys_Check.f chk
  dsimp only
  by_cases h1 : d < 0
  · rw [if_pos h1]
    simp [keys_Check.j0, show ¬ (0 ≤ d) by omega]
  rw [if_neg h1]
  by_cases h2 : d > 7
  · rw [if_pos h2]
    simp [keys_Check.j0, show ¬ (d ≤ 7) by omega]
  rw [if_neg h2]
  cases hx : (a != 1) == (b == 0) with
  | false =>
    rw [if_pos (by simpa using hx)]
    simp [keys_Check.j0]
  | true =>
    rw [if_neg (by simpa using hx)]
    cases hy : (a != 15) == (c == 0) with
    | false =>
      have : ((a != 15) != (c == 0)) = true := by simpa using hy
      simp [keys_Check.j0, this]
    | true =>
      have : ((a != 15) != (c == 0)) = false := by simpa using hy
      rw [this]
      have hd : d = 0 ∨ d = 1 ∨ d = 2 ∨ d = 3 ∨ d = 4 ∨ d = 5 ∨ d = 6 ∨ d = 7 := by omega
      simp only [keys_Check.j0, width_some', valid_some', Option.bind_some]
      rcases hd with rfl | rfl | rfl | rfl | rfl | rfl | rfl | rfl
      all_goals
        simp only [band_0_1, band_0_2, band_0_4, bnot_0_2, band_1_1, band_1_2, band_1_4, bnot_1_2, band_2_1, band_2_2, band_2_4, bnot_2_2, band_3_1, band_3_2, band_3_4, bnot_3_2, band_4_1, band_4_2, band_4_4, bnot_4_2, band_5_1, band_5_2, band_5_4, bnot_5_2, band_6_1, band_6_2, band_6_4, bnot_6_2, band_7_1, band_7_2, band_7_4, bnot_7_2]
        simp only [keys_Check.j1, band_0_1, band_0_2, band_0_4, bnot_0_2, band_1_1, band_1_2, band_1_4, bnot_1_2, band_2_1, band_2_2, band_2_4, bnot_2_2, band_3_1, band_3_2, band_3_4, bnot_3_2, band_4_1, band_4_2, band_4_4, bnot_4_2, band_5_1, band_5_2, band_5_4, bnot_5_2, band_6_1, band_6_2, band_6_4, bnot_6_2, band_7_1, band_7_2, band_7_4, bnot_7_2]
        clear this
        by_cases ha : a = 1
        · subst ha
          simp only [if_true]
          by_cases hb0 : b = 0
          · subst hb0; simp at hx
          simp at hx hy
          clear h1 h2 hx
          first
            | (by_cases hw : 0 < wid b
               · cases hv : validR b <;> simp [hw, hv]; done
               · simp [hw])
            | (by_cases hw : 0 < wid b
               · cases hv : validR b
                 · simp [hw, hv]
                 · by_cases hb1 : b = 91
                   · simp [hw, hv, hb1]
                   · by_cases hb2 : b = 79 <;> simp [hw, hv, hb1, hb2]
               · simp [hw])
            | (by_cases hb1 : 97 ≤ b
               · by_cases hb2 : b ≤ 122
                 · by_cases hb3 : b = 105
                   · simp [hb3]
                   · by_cases hb4 : b = 109
                     · simp [hb4]
                     · by_cases hb5 : b = 104 <;> simp [hb1, hb2, hb3, hb4, hb5]
                 · simp [hb1, hb2]
               · simp [hb1])
            | grind
        · grind

theorem Check_calls (k : Key) (w : World) : Calls Tryd.prog 10 #[kv k] w fun e w' => e = .returned (.bool (chk k)) ∧ Below w.heap.size w w' := keys_Check.calls 60 k.f0 k.f1 k.f2 k.f3 _ w (check_some k)
end Go.Proofs.YtampklajoikbiaaDoor
