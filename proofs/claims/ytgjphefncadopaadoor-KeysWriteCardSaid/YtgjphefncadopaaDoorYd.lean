/- trellisref.KeyBytes of any key that can be told; trellisref.IsKey and keys.Check are one. -/
import Derived.Test.YtgjphefncadopaaDoorYc
import Derived.Test.YtgjphefncadopaaDoorKc
set_option linter.unusedVariables false
set_option linter.unusedSimpArgs false
namespace Go.Proofs.YtgjphefncadopaaDoor
open Go.RowKit Go.Proofs.YtgjphefncadopaaDoorW.PrintWords PKeysRead

theorem dig_1 (n : Nat) (h : n < 10) : Lib.decDigits n = [UInt8.ofNat (48 + n)] := by rw [Lib.decDigits, dif_pos h]
theorem dig_2 (n : Nat) (h : 10 ≤ n) (h' : n < 100) : Lib.decDigits n = [UInt8.ofNat (48 + n / 10), UInt8.ofNat (48 + n % 10)] := by
  rw [Lib.decDigits, dif_neg (by omega), dig_1 _ (by omega)]; rfl

theorem KeyBytes_ok (a b c d : Int) (kp : Bool) (w : World) (h : chk ⟨a, b, c, d⟩ = true) : Calls Tryd.prog 11 #[.agg #[.int .i64 a, .int .i32 b, .int .i64 c, .int .i64 d], .bool kp] w (BPost w (kb a b c d kp)) := by
  rcases chk_cases h with ⟨rfl, rfl, rfl | rfl | ⟨rfl | rfl, h0, h1⟩⟩ | ⟨rfl, rfl, hh⟩ | ⟨rfl, rfl, h0, h1, h2, h3⟩ | ⟨rfl, h0, h1, hh⟩
  · exact Bytes_rune0 b kp w
  · exact Bytes_rune2 b kp w
  · exact Bytes_rune4 b kp w h0 h1
  · exact Bytes_rune6 b kp w h0 h1
  · rcases hh with ⟨rfl, rfl⟩ | ⟨rfl, rfl⟩ | ⟨rfl, rfl⟩ | ⟨rfl, rfl⟩ | ⟨rfl, rfl⟩ | ⟨rfl, rfl⟩ | ⟨rfl, rfl⟩
    · exact Bytes_2_0 kp w
    · exact Bytes_2_2 kp w
    · exact Bytes_4_0 kp w
    · exact Bytes_4_2 kp w
    · exact Bytes_5_0 kp w
    · exact Bytes_3_0 kp w
    · exact Bytes_3_1 kp w
  · have key : ∀ L : UInt8, sq a 0 0 = ⟨#[L]⟩ → ((L.toNat : Int) == 126) = false → arrB d kp L = kb a 0 0 d kp → Calls Tryd.prog 11 #[.agg #[.int .i64 a, .int .i32 0, .int .i64 0, .int .i64 d], .bool kp] w (BPost w (kb a 0 0 d kp)) :=
      fun L h4 h5 h6 => h6 ▸ Bytes_arrow a 0 0 d L kp w h4 h5 h2 h3
    have hb : ∀ L : UInt8, L = UInt8.ofNat (letterF a).toNat → letterF a ≠ 0 → arrB d kp L = kb a 0 0 d kp := by
      intro L hL h6
      subst hL
      have e1 : a ≠ 1 := by omega
      have e2 : a ≠ 2 := by omega
      have e3 : a ≠ 3 := by omega
      have e4 : a ≠ 4 := by omega
      have e5 : a ≠ 5 := by omega
      by_cases hd : 0 < d
      · have e0 : d ≠ 0 := by omega
        simp only [arrB, kb, kbL, e1, e2, e3, e4, e5, h6, hd, e0, if_true, if_false, ne_eq, not_false_eq_true, not_true_eq_false]
      · have e0 : d = 0 := by omega
        subst e0
        cases kp <;> simp only [arrB, kb, kbL, e1, e2, e3, e4, e5, h6, Int.lt_irrefl, if_true, if_false, ne_eq, not_false_eq_true, not_true_eq_false] <;> rfl
    have : a = 6 ∨ a = 7 ∨ a = 8 ∨ a = 9 ∨ a = 10 ∨ a = 11 := by omega
    rcases this with rfl | rfl | rfl | rfl | rfl | rfl
    · exact key 65 rfl rfl (hb _ rfl (by decide))
    · exact key 66 rfl rfl (hb _ rfl (by decide))
    · exact key 67 rfl rfl (hb _ rfl (by decide))
    · exact key 68 rfl rfl (hb _ rfl (by decide))
    · exact key 72 rfl rfl (hb _ rfl (by decide))
    · exact key 70 rfl rfl (hb _ rfl (by decide))
  · have hb : ∀ l : List UInt8, l = Lib.decDigits (numberF a c).toNat → letterF a = 0 → 5 < a → numB d l = kb a 0 c d kp := by
      intro l hl h6 h7
      subst hl
      have e1 : a ≠ 1 := by omega
      have e2 : a ≠ 2 := by omega
      have e3 : a ≠ 3 := by omega
      have e4 : a ≠ 4 := by omega
      have e5 : a ≠ 5 := by omega
      by_cases hd : 0 < d
      · have e0 : d ≠ 0 := by omega
        simp only [numB, kb, kbL, e1, e2, e3, e4, e5, h6, hd, e0, if_true, if_false, ne_eq, not_false_eq_true, not_true_eq_false]
      · have e0 : d = 0 := by omega
        subst e0
        simp only [numB, kb, kbL, e1, e2, e3, e4, e5, h6, Int.lt_irrefl, if_true, if_false, ne_eq, not_false_eq_true, not_true_eq_false]
    rcases hh with ⟨h2, h3, rfl⟩ | ⟨rfl, h2, h3⟩
    · have : a = 12 ∨ a = 13 ∨ a = 14 := by omega
      rcases this with rfl | rfl | rfl
      · exact hb [53] (dig_1 5 (by decide)).symm rfl (by decide) ▸ Bytes_num1 12 0 0 d 53 0 kp w rfl h0 h1
      · exact hb [54] (dig_1 6 (by decide)).symm rfl (by decide) ▸ Bytes_num1 13 0 0 d 54 0 kp w rfl h0 h1
      · exact hb [51] (dig_1 3 (by decide)).symm rfl (by decide) ▸ Bytes_num1 14 0 0 d 51 0 kp w rfl h0 h1
    · have : c = 1 ∨ c = 2 ∨ c = 3 ∨ c = 4 ∨ c = 5 ∨ c = 6 ∨ c = 7 ∨ c = 8 ∨ c = 9 ∨ c = 10 ∨ c = 11 ∨ c = 12 := by omega
      rcases this with rfl | rfl | rfl | rfl | rfl | rfl | rfl | rfl | rfl | rfl | rfl | rfl
      · exact hb [49, 49] (dig_2 11 (by decide) (by decide)).symm rfl (by decide) ▸ Bytes_num2 15 0 1 d 49 49 kp w rfl h0 h1
      · exact hb [49, 50] (dig_2 12 (by decide) (by decide)).symm rfl (by decide) ▸ Bytes_num2 15 0 2 d 49 50 kp w rfl h0 h1
      · exact hb [49, 51] (dig_2 13 (by decide) (by decide)).symm rfl (by decide) ▸ Bytes_num2 15 0 3 d 49 51 kp w rfl h0 h1
      · exact hb [49, 52] (dig_2 14 (by decide) (by decide)).symm rfl (by decide) ▸ Bytes_num2 15 0 4 d 49 52 kp w rfl h0 h1
      · exact hb [49, 53] (dig_2 15 (by decide) (by decide)).symm rfl (by decide) ▸ Bytes_num2 15 0 5 d 49 53 kp w rfl h0 h1
      · exact hb [49, 55] (dig_2 17 (by decide) (by decide)).symm rfl (by decide) ▸ Bytes_num2 15 0 6 d 49 55 kp w rfl h0 h1
      · exact hb [49, 56] (dig_2 18 (by decide) (by decide)).symm rfl (by decide) ▸ Bytes_num2 15 0 7 d 49 56 kp w rfl h0 h1
      · exact hb [49, 57] (dig_2 19 (by decide) (by decide)).symm rfl (by decide) ▸ Bytes_num2 15 0 8 d 49 57 kp w rfl h0 h1
      · exact hb [50, 48] (dig_2 20 (by decide) (by decide)).symm rfl (by decide) ▸ Bytes_num2 15 0 9 d 50 48 kp w rfl h0 h1
      · exact hb [50, 49] (dig_2 21 (by decide) (by decide)).symm rfl (by decide) ▸ Bytes_num2 15 0 10 d 50 49 kp w rfl h0 h1
      · exact hb [50, 51] (dig_2 23 (by decide) (by decide)).symm rfl (by decide) ▸ Bytes_num2 15 0 11 d 50 51 kp w rfl h0 h1
      · exact hb [50, 52] (dig_2 24 (by decide) (by decide)).symm rfl (by decide) ▸ Bytes_num2 15 0 12 d 50 52 kp w rfl h0 h1

theorem sq_some (a b c : Int) (h : b = 0 ∧ ((c = 0 ∧ 6 ≤ a ∧ a ≤ 14) ∨ (a = 15 ∧ 1 ≤ c ∧ c ≤ 12))) : (sq a b c).toList ≠ [] := by
  rw [ByteArray.toList_eq]
  rcases h with ⟨rfl, ⟨rfl, h1, h2⟩ | ⟨rfl, h1, h2⟩⟩
  · have : a = 6 ∨ a = 7 ∨ a = 8 ∨ a = 9 ∨ a = 10 ∨ a = 11 ∨ a = 12 ∨ a = 13 ∨ a = 14 := by omega
    rcases this with rfl | rfl | rfl | rfl | rfl | rfl | rfl | rfl | rfl <;> decide
  · have : c = 1 ∨ c = 2 ∨ c = 3 ∨ c = 4 ∨ c = 5 ∨ c = 6 ∨ c = 7 ∨ c = 8 ∨ c = 9 ∨ c = 10 ∨ c = 11 ∨ c = 12 := by omega
    rcases this with rfl | rfl | rfl | rfl | rfl | rfl | rfl | rfl | rfl | rfl | rfl | rfl <;> decide

theorem isK_chk (a b c d : Int) : isK a b c d = chk ⟨a, b, c, d⟩ := by
  unfold isK
  by_cases hd : d < 0 ∨ 7 < d
  · rw [if_pos hd]
    simp [chk, show ¬ (0 ≤ d ∧ d ≤ 7) by omega]
  rw [if_neg hd]
  have h07 : decide (0 ≤ d ∧ d ≤ 7) = true := by simp; omega
  by_cases hq : b = 0 ∧ ((c = 0 ∧ 6 ≤ a ∧ a ≤ 14) ∨ (a = 15 ∧ 1 ≤ c ∧ c ≤ 12))
  · rw [if_pos (sq_some a b c hq)]
    simp only [chk, h07, Bool.true_and]
    rcases hq with ⟨rfl, ⟨rfl, h1, h2⟩ | ⟨rfl, h1, h2⟩⟩
    · rw [if_neg (by omega), if_neg (by omega), if_neg (by omega), if_neg (by omega), if_neg (by omega)]
      simp [show a ≠ 1 by omega, show a ≠ 15 by omega]; omega
    · rw [if_neg (by omega), if_neg (by omega), if_neg (by omega), if_neg (by omega), if_pos rfl]
      simp; omega
  · rw [if_neg (by rw [sq_none a b c hq, ByteArray.toList_eq]; decide)]
    simp only [chk, h07, Bool.true_and]
    by_cases hc : c ≠ 0 ∨ (a ≠ 1 ∧ b ≠ 0)
    · rw [if_pos hc]
      by_cases h1 : a = 1
      · subst h1
        have hc0 : c ≠ 0 := by omega
        simp [hc0]
      · by_cases hb : b = 0
        · subst hb
          have hc0 : c ≠ 0 := by omega
          by_cases h15 : a = 15
          · subst h15
            simp [hc0]; omega
          · have e2 : ((a != 15) == (c == 0)) = false := by
              rw [show (a != 15) = true by simp [h15], show (c == 0) = false by simp [hc0]]; rfl
            simp only [e2, Bool.and_false, Bool.false_and]
        · have e1 : ((a != 1) == (b == 0)) = false := by
            rw [show (a != 1) = true by simp [h1], show (b == 0) = false by simp [hb]]; rfl
          simp only [e1, Bool.false_and]
    · rw [if_neg hc]
      have hc0 : c = 0 := by omega
      subst hc0
      by_cases h1 : a = 1
      · subst h1
        rw [if_pos rfl, if_pos rfl]
        by_cases hb : b = 0
        · subst hb
          have e : wid 0 = 0 := by decide
          simp [e]
        · simp [hb]
      · have hb0 : b = 0 := by omega
        subst hb0
        rw [if_neg h1, if_neg h1]
        by_cases h15 : a = 15
        · subst h15; simp
        · simp only [h15, if_false]
          have e1 : ((a != 1) == ((0 : Int) == 0)) = true := by simp [h1]
          have e2 : ((a != 15) == ((0 : Int) == 0)) = true := by simp [h15]
          rw [e1, e2]
          simp only [Bool.true_and]
          have e3 : decide (6 ≤ a ∧ a ≤ 14) = false := by simp; omega
          rw [e3]

theorem IsKey_ok (a b c d : Int) (w : World) : Calls Tryd.prog 8 #[.agg #[.int .i64 a, .int .i32 b, .int .i64 c, .int .i64 d]] w fun e w' => e = .returned (.bool (chk ⟨a, b, c, d⟩)) ∧ Below w.heap.size w w' := isK_chk a b c d ▸ IsKey_calls a b c d w
end Go.Proofs.YtgjphefncadopaaDoor
