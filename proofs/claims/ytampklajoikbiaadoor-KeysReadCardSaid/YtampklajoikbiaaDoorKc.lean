/- keys.Write of any key that can be told. -/
import Derived.Test.YtampklajoikbiaaDoorKb
set_option linter.unusedVariables false
set_option linter.unusedSimpArgs false
namespace Go.Proofs.YtampklajoikbiaaDoor
open Go.RowKit Go.Proofs.YtampklajoikbiaaDoorW.PrintWords PKeysRead

theorem chk_cases {a b c d : Int} (h : chk ⟨a, b, c, d⟩ = true) :
    (a = 1 ∧ c = 0 ∧ (d = 0 ∨ d = 2 ∨ ((d = 4 ∨ d = 6) ∧ 97 ≤ b ∧ b ≤ 122))) ∨
    (b = 0 ∧ c = 0 ∧ ((a = 2 ∧ d = 0) ∨ (a = 2 ∧ d = 2) ∨ (a = 4 ∧ d = 0) ∨ (a = 4 ∧ d = 2) ∨ (a = 5 ∧ d = 0) ∨ (a = 3 ∧ d = 0) ∨ (a = 3 ∧ d = 1))) ∨
    (b = 0 ∧ c = 0 ∧ 6 ≤ a ∧ a ≤ 11 ∧ 0 ≤ d ∧ d ≤ 7) ∨
    (b = 0 ∧ 0 ≤ d ∧ d ≤ 7 ∧ ((12 ≤ a ∧ a ≤ 14 ∧ c = 0) ∨ (a = 15 ∧ 1 ≤ c ∧ c ≤ 12))) := by
  simp only [chk, Bool.and_eq_true, decide_eq_true_eq, beq_iff_eq] at h
  obtain ⟨⟨⟨⟨h0, h7⟩, hb⟩, hc⟩, hk⟩ := h
  have hb' : a = 1 ∨ b = 0 := by
    by_cases h1 : a = 1
    · exact .inl h1
    · have h2 : (a != 1) = true := by simp [h1]
      rw [h2] at hb
      exact .inr (by simpa using hb.symm)
  have hc' : (a = 15 ∧ c ≠ 0) ∨ (a ≠ 15 ∧ c = 0) := by
    by_cases h1 : a = 15
    · subst h1
      exact .inl ⟨rfl, by simpa using hc⟩
    · have h2 : (a != 15) = true := by simp [h1]
      rw [h2] at hc
      exact .inr ⟨h1, by simpa using hc.symm⟩
  clear hb hc
  by_cases h1 : a = 1
  · subst h1
    have hc0 : c = 0 := by omega
    refine .inl ⟨rfl, hc0, ?_⟩
    rw [if_pos rfl] at hk
    split at hk
    · omega
    · split at hk
      · simp at hk; omega
      · cases hk
  · rw [if_neg h1] at hk
    have hb0 : b = 0 := by omega
    subst hb0
    by_cases h24 : a = 2 ∨ a = 4
    · have hc0 : c = 0 := by omega
      subst hc0
      rw [if_pos h24] at hk
      rcases h24 with rfl | rfl
      · rcases of_decide_eq_true hk with rfl | rfl <;> simp
      · rcases of_decide_eq_true hk with rfl | rfl <;> simp
    · rw [if_neg h24] at hk
      by_cases h3 : a = 3
      · subst h3
        have hc0 : c = 0 := by omega
        subst hc0
        rw [if_pos rfl] at hk
        rcases of_decide_eq_true hk with rfl | rfl <;> simp
      · rw [if_neg h3] at hk
        by_cases h5 : a = 5
        · subst h5
          have hc0 : c = 0 := by omega
          subst hc0
          rw [if_pos rfl] at hk
          obtain rfl := of_decide_eq_true hk
          simp
        · rw [if_neg h5] at hk
          by_cases h15 : a = 15
          · subst h15
            rw [if_pos rfl] at hk
            obtain ⟨h8, h9⟩ := of_decide_eq_true hk
            exact .inr (.inr (.inr ⟨rfl, h0, h7, .inr ⟨rfl, h8, h9⟩⟩))
          · rw [if_neg h15] at hk
            obtain ⟨h8, h9⟩ := of_decide_eq_true hk
            have hc0 : c = 0 := by omega
            by_cases h11 : a ≤ 11
            · exact .inr (.inr (.inl ⟨rfl, hc0, h8, h11, h0, h7⟩))
            · exact .inr (.inr (.inr ⟨rfl, h0, h7, .inl ⟨by omega, h9, hc0⟩⟩))

theorem Write_ok (a b c d : Int) (kp : Bool) (w : World) (h : chk ⟨a, b, c, d⟩ = true) : Calls Tryd.prog 7 #[.agg #[.int .i64 a, .int .i32 b, .int .i64 c, .int .i64 d], .bool kp] w (WPost w (kb a b c d kp)) := by
  rcases chk_cases h with ⟨rfl, rfl, rfl | rfl | ⟨rfl | rfl, h0, h1⟩⟩ | ⟨rfl, rfl, hh⟩ | ⟨rfl, rfl, h0, h1, h2, h3⟩ | ⟨rfl, h0, h1, hh⟩
  · exact Write_rune0 b kp w h
  · exact Write_rune2 b kp w h
  · exact Write_rune4 b kp w h h0 h1
  · exact Write_rune6 b kp w h h0 h1
  · rcases hh with ⟨rfl, rfl⟩ | ⟨rfl, rfl⟩ | ⟨rfl, rfl⟩ | ⟨rfl, rfl⟩ | ⟨rfl, rfl⟩ | ⟨rfl, rfl⟩ | ⟨rfl, rfl⟩
    · exact Write_2_0 kp w
    · exact Write_2_2 kp w
    · exact Write_4_0 kp w
    · exact Write_4_2 kp w
    · exact Write_5_0 kp w
    · exact Write_3_0 kp w
    · exact Write_3_1 kp w
  · by_cases hd : d = 0
    · subst hd
      exact Write_arrow0 a kp w h0 h1
    · exact Write_arrow1 a d kp w h0 h1 (by omega) h3
  · by_cases hd : d = 0
    · subst hd
      exact Write_num0 a c kp w hh
    · exact Write_num1 a c d kp w (by omega) h1 hh
end Go.Proofs.YtampklajoikbiaaDoor
