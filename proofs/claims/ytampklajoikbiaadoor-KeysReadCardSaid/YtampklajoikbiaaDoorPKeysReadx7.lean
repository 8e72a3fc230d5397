-- PRINTED BY print.sh 35421559b90ae4d0a3588c463048766b98c2df88dd9212a6774a882060cdf62d: not written by this session
import Derived.Test.YtampklajoikbiaaDoorPKeysReadx0
import Derived.Test.YtampklajoikbiaaDoorPKeysReadx1
namespace Go.Proofs.YtampklajoikbiaaDoor.PKeysRead
open Go.RowKit Go.Proofs.YtampklajoikbiaaDoorW.PrintWords Go.Proofs.YtampklajoikbiaaDoorW.PrintLast Go.Proofs.YtampklajoikbiaaDoorW.PrintMore
attribute [local go_sem] max2_int min2_int max_two min_two max_three min_three max_four min_four   -- for this text's walks alone
set_option linter.unusedVariables false
set_option linter.unusedSimpArgs false

attribute [local go_sem high] eqA23
-- NOT PRINTED: function 99 (strconv_ParseUint)

-- NOT PRINTED: function 82 (strconv_ParseInt)

-- NOT PRINTED: function 67 (strconv_Atoi_67)

-- NOT PRINTED: function 100 (stringslite_Clone)

-- NOT PRINTED: function 83 (strconv_syntaxError)

-- NOT PRINTED: function 84 (strconv_rangeError)

-- NOT PRINTED: function 101 (errors_New)

-- NOT PRINTED: function 85 (strconv_baseError)

-- NOT PRINTED: function 86 (strconv_bitSizeError)

-- NOT PRINTED: function 68 (strconv_toError)

-- NOT PRINTED: function 48 (strconv_Atoi_48)

/-! ### strings_trimLeftByte: function 107 -/
def strings_trimLeftByte.l0 : Nat → ByteArray → Int → Option (ByteArray)
  | 0, _, _ => none
  | k + 1, x0, x1 => if (x0.size : Int) > 0 then (if 0 < (x0.size : Int) then (if (bt x0 0) = x1 then (if 1 ≤ (x0.size : Int) then (strings_trimLeftByte.l0 k (x0.extract 1 x0.size) x1) else (none)) else (some x0)) else (none)) else (some x0)
def strings_trimLeftByte.f (k : Nat) (a0 : ByteArray) (a1 : Int) : Option (ByteArray) := strings_trimLeftByte.l0 k a0 a1
theorem strings_trimLeftByte.mono_l : ∀ k, (∀ y0 y1, LeO (strings_trimLeftByte.l0 k y0 y1) (strings_trimLeftByte.l0 (k + 1) y0 y1))
  | 0 => fun _ _ r h => by simp [strings_trimLeftByte.l0] at h
  | k + 1 => by
    have ih0 := strings_trimLeftByte.mono_l k
    · intro y0 y1
      unfold strings_trimLeftByte.l0
      repeat' first
      | (with_reducible exact ih0 _ _)
      | (with_reducible exact LeO.refl _)
      | (with_reducible exact LeO.none _)
      | (with_reducible refine LeO.ite ?_ ?_)
      | (with_reducible refine LeO.bind ?_ (fun _ => ?_))
      | exact ih0 _ _
      | exact LeO.none _
      | refine LeO.ite ?_ ?_
      | refine LeO.bind ?_ (fun _ => ?_)
theorem strings_trimLeftByte.mono : ∀ a0 a1 k, LeO (strings_trimLeftByte.f k a0 a1) (strings_trimLeftByte.f (k + 1) a0 a1) := by
  intro a0 a1 k
  have ih0 := strings_trimLeftByte.mono_l k
  unfold strings_trimLeftByte.f
  repeat' first
      | (with_reducible exact ih0 _ _)
      | (with_reducible exact LeO.refl _)
      | (with_reducible exact LeO.none _)
      | (with_reducible refine LeO.ite ?_ ?_)
      | (with_reducible refine LeO.bind ?_ (fun _ => ?_))
      | exact ih0 _ _
      | exact LeO.none _
      | refine LeO.ite ?_ ?_
      | refine LeO.bind ?_ (fun _ => ?_)
set_option maxHeartbeats 8000000 in
set_option maxRecDepth 100000 in
theorem strings_trimLeftByte.calls (k : Nat) (a0 : ByteArray) (a1 : Int) (r : ByteArray) (w : World) (h : strings_trimLeftByte.f k a0 a1 = some r) :
    Calls Tryd.prog 107 #[.string a0, .int .u8 a1] w fun e w' => e = .returned (.string r) ∧ Drawn0 w w' := by
  have H : (strings_trimLeftByte.l0 k a0 a1) = some r := h
  clear h
  have H' := Aside0.mk H
  clear H
  go_enter Tryd.func107, Tryd.ntmps107
  go_wp2
  go_loopg [0] k (fun kq v0 w' => ∃ (x0_1 : ByteArray), v0 = .string x0_1 ∧ Aside0 (strings_trimLeftByte.l0 kq x0_1 a1 = some r) ∧ Aside0 (kq ≤ k) ∧ Drawn0 w w')
  case atStart => exact ⟨(a0), (by first | rfl | (simp; done) | (simp [*]; done)), H', ⟨Nat.le_refl _⟩, by repeat (first | exact Drawn0.refl _ | apply Drawn0.step)⟩
  case round =>
    clear H'
    try clear c1
    try clear p2
    obtain ⟨x0_1, rfl, HA, HK1, ⟨m1, rfl⟩⟩ := hrel
    cases gk with
    | zero => exact absurd HA.out (by simp [strings_trimLeftByte.l0])
    | succ k1 =>
      have H := HA.out
      clear HA
      simp only [strings_trimLeftByte.l0] at H
      by_cases c3 : (x0_1.size : Int) > 0
      · rw [if_pos c3] at H
        have c3b0 : decide (0 < (x0_1.size : Int)) = true := decide_eq_true c3
        have c3b1 : decide (0 < x0_1.size) = true := decide_eq_true (by omega)
        clear c3
        by_cases c4 : 0 < (x0_1.size : Int)
        · rw [if_pos c4] at H
          have c4b0 : decide (0 < (x0_1.size : Int)) = true := decide_eq_true c4
          have c4b1 : decide (0 < x0_1.size) = true := decide_eq_true (by omega)
          clear c4
          by_cases c6 : (bt x0_1 0) = a1
          · rw [if_pos c6] at H
            have c6b0 : ((bt x0_1 0) == a1) = true := beq_iff_eq.mpr c6
            have c6b1 : ((bt x0_1 0) != a1) = false := bne_eq_false_iff_eq.mpr c6
            clear c6
            by_cases c7 : 1 ≤ (x0_1.size : Int)
            · rw [if_pos c7] at H
              have c7b0 := eq_true c7
              have c7b1 : decide (1 ≤ (x0_1.size : Int)) = true := decide_eq_true c7
              clear c7
              have H' := Aside0.mk H
              clear H
              have p5 : 0 ≤ (0 : Int) := (by omega)
              have q5 : 0 < x0_1.size := (by have : (0 : Int) < (x0_1.size : Int) := of_decide_eq_true (by first | (with_reducible assumption) | assumption); omega)
              have hx5 : ∀ h : 0 < x0_1.size, ((x0_1[0]'h).toNat : Int) = bt x0_1 0 := bt_at x0_1 0
              clear p5
              have qi5 : (0 < (x0_1.size : Int)) = True := eq_true (of_decide_eq_true (by first | (with_reducible assumption) | assumption))
              replace q5 := eq_true q5
              go_wp2
              go_roundg k1
              case measure => have := HK1.out; omega
              case rel => exact ⟨(x0_1.extract 1 x0_1.size), (by first | rfl | (simp; done) | (simp [*]; done)), H', ⟨by have := HK1.out; omega⟩, by repeat (first | exact Drawn0.refl _ | apply Drawn0.step)⟩
            · rw [if_neg c7] at H
              exact absurd H (by simp)
          · rw [if_neg c6] at H
            have c6b0 : ((bt x0_1 0) == a1) = false := beq_eq_false_iff_ne.mpr c6
            have c6b1 : ((bt x0_1 0) != a1) = true := bne_iff_ne.mpr c6
            obtain rfl := Option.some.inj H
            have p5 : 0 ≤ (0 : Int) := (by omega)
            have q5 : 0 < x0_1.size := (by have : (0 : Int) < (x0_1.size : Int) := of_decide_eq_true (by first | (with_reducible assumption) | assumption); omega)
            have hx5 : ∀ h : 0 < x0_1.size, ((x0_1[0]'h).toNat : Int) = bt x0_1 0 := bt_at x0_1 0
            clear p5
            have qi5 : (0 < (x0_1.size : Int)) = True := eq_true (of_decide_eq_true (by first | (with_reducible assumption) | assumption))
            replace q5 := eq_true q5
            go_wp2
            go_ret
            exact ⟨by first | rfl | (simp; done) | (simp [*]; done), by repeat (first | exact Drawn0.refl _ | apply Drawn0.step)⟩
        · rw [if_neg c4] at H
          exact absurd H (by simp)
      · rw [if_neg c3] at H
        have c3b0 : decide (0 < (x0_1.size : Int)) = false := decide_eq_false c3
        have c3b1 : decide (0 < x0_1.size) = false := decide_eq_false (by omega)
        clear c3
        obtain rfl := Option.some.inj H
        go_wp2
        go_ret
        exact ⟨by first | rfl | (simp; done) | (simp [*]; done), by repeat (first | exact Drawn0.refl _ | apply Drawn0.step)⟩

-- NOT PRINTED: function 108 (strings_makeASCIISet)

-- NOT PRINTED: function 116 (strings_asciiSet_contains)

-- NOT PRINTED: function 109 (strings_trimLeftASCII)

-- NOT PRINTED: function 59 (strings_IndexByte)

-- NOT PRINTED: function 51 (strings_IndexRune)

-- NOT PRINTED: function 35 (strings_ContainsRune)

-- NOT PRINTED: function 110 (strings_trimLeftUnicode)

-- NOT PRINTED: function 91 (strings_TrimLeft)

-- NOT PRINTED: function 73 (keys_told)

-- NOT PRINTED: function 56 (keys_sequence)

-- NOT PRINTED: function 37 (keys_first)

-- NOT PRINTED: function 12 (keys_Read)

/-! ### api_Key: function 14 -/
def api_Key.l0 : Nat → List (S23) → List (S23) → Int → Int → Option (Bool)
  | 0, _, _, _, _ => none
  | k + 1, x0, x1, x12, x13 => if x13 < x12 then (if 0 ≤ x13 then (if x13 < (x0.length : Int) then (if x13 < (x1.length : Int) then (if (!(((rd_T23 x0 x13).f0) == ((rd_T23 x1 x13).f0)) || (!(((rd_T23 x0 x13).f1) == ((rd_T23 x1 x13).f1)) || (!(((rd_T23 x0 x13).f2) == ((rd_T23 x1 x13).f2)) || (!(((rd_T23 x0 x13).f3) == ((rd_T23 x1 x13).f3)))))) = true then (some false) else (api_Key.l0 k x0 x1 x12 (wrap64 (x13 + 1)))) else (none)) else (none)) else (none)) else (some true)
def api_Key.f (k : Nat) (l0 : List (S23)) (l1 : List (S23)) : Option (Bool) := if (l0.length : Int) = (l1.length : Int) then (api_Key.l0 k l0 l1 (l0.length : Int) 0) else (some false)
theorem api_Key.mono_l : ∀ k, (∀ y0 y1 y2 y3, LeO (api_Key.l0 k y0 y1 y2 y3) (api_Key.l0 (k + 1) y0 y1 y2 y3))
  | 0 => fun _ _ _ _ r h => by simp [api_Key.l0] at h
  | k + 1 => by
    have ih0 := api_Key.mono_l k
    · intro y0 y1 y2 y3
      unfold api_Key.l0
      repeat' first
      | (with_reducible exact ih0 _ _ _ _)
      | (with_reducible exact LeO.refl _)
      | (with_reducible exact LeO.none _)
      | (with_reducible refine LeO.ite ?_ ?_)
      | (with_reducible refine LeO.bind ?_ (fun _ => ?_))
      | exact ih0 _ _ _ _
      | exact LeO.none _
      | refine LeO.ite ?_ ?_
      | refine LeO.bind ?_ (fun _ => ?_)
theorem api_Key.mono : ∀ a0 a1 k, LeO (api_Key.f k a0 a1) (api_Key.f (k + 1) a0 a1) := by
  intro a0 a1 k
  have ih0 := api_Key.mono_l k
  unfold api_Key.f
  repeat' first
      | (with_reducible exact ih0 _ _ _ _)
      | (with_reducible exact LeO.refl _)
      | (with_reducible exact LeO.none _)
      | (with_reducible refine LeO.ite ?_ ?_)
      | (with_reducible refine LeO.bind ?_ (fun _ => ?_))
      | exact ih0 _ _ _ _
      | exact LeO.none _
      | refine LeO.ite ?_ ?_
      | refine LeO.bind ?_ (fun _ => ?_)
set_option maxHeartbeats 8000000 in
set_option maxRecDepth 100000 in
theorem api_Key.calls (k : Nat) (A0 : Option Addr) (c0 : Nat) (l0 : List (S23)) (A1 : Option Addr) (c1 : Nat) (l1 : List (S23)) (r : Bool) (w : World) (hr0 : Kd.C k23 w A0 l0.length l0) (hc0 : l0.length ≤ c0) (hr1 : Kd.C k23 w A1 l1.length l1) (hc1 : l1.length ≤ c1) (h : api_Key.f k l0 l1 = some r) :
    Calls Tryd.prog 14 #[.slice A0 l0.length c0, .slice A1 l1.length c1] w fun e w' => e = .returned (.bool r) ∧ Drawn0 w w' := by
  have hu23 := Tryd.underlying23
  have HR0 := Aside0.mk hr0
  have HC0 := Aside0.mk hc0
  clear hr0 hc0
  have HR1 := Aside0.mk hr1
  have HC1 := Aside0.mk hc1
  clear hr1 hc1
  have H : (if (l0.length : Int) = (l1.length : Int) then (api_Key.l0 k l0 l1 (l0.length : Int) 0) else (some false)) = some r := h
  clear h
  by_cases c3 : (l0.length : Int) = (l1.length : Int)
  · rw [if_pos c3] at H
    have c3b0 : ((l0.length : Int) == (l1.length : Int)) = true := beq_iff_eq.mpr c3
    have c3b1 : ((l0.length : Int) != (l1.length : Int)) = false := bne_eq_false_iff_eq.mpr c3
    have c3b2 : (l0.length == l1.length) = true := by first | simpa using c3 | (simp at c3 ⊢; omega)
    clear c3
    have H' := Aside0.mk H
    clear H
    go_enter Tryd.func14, Tryd.ntmps14
    go_wp2
    repeat (go_quiet (fail); try go_wp2)
    go_loopg [13] k (fun kq v13 w' => ∃ (x13_1 : Int), v13 = .int .i64 x13_1 ∧ Aside0 (api_Key.l0 kq l0 l1 (l0.length : Int) x13_1 = some r) ∧ Aside0 (kq ≤ k) ∧ Drawn0 w w')
    case atStart => exact ⟨(0), (by first | rfl | (simp; done) | (simp [*]; done)), H', ⟨Nat.le_refl _⟩, by repeat (first | exact Drawn0.refl _ | apply Drawn0.step)⟩
    case round =>
      clear H'
      try clear c1
      try clear p2
      try clear c3
      try clear c3b0
      try clear c3b1
      try clear c3b2
      obtain ⟨x13_1, rfl, HA, HK1, ⟨m1, rfl⟩⟩ := hrel
      cases gk with
      | zero => exact absurd HA.out (by simp [api_Key.l0])
      | succ k1 =>
        have H := HA.out
        clear HA
        simp only [api_Key.l0] at H
        by_cases c4 : x13_1 < (l0.length : Int)
        · rw [if_pos c4] at H
          have c4b0 : decide (x13_1 < (l0.length : Int)) = true := decide_eq_true c4
          clear c4
          by_cases c5 : 0 ≤ x13_1
          · rw [if_pos c5] at H
            have c5b0 : decide (0 ≤ x13_1) = true := decide_eq_true c5
            clear c5
            by_cases c6 : x13_1 < (l0.length : Int)
            · rw [if_pos c6] at H
              have c6b0 : decide (x13_1 < (l0.length : Int)) = true := decide_eq_true c6
              clear c6
              by_cases c7 : x13_1 < (l1.length : Int)
              · rw [if_pos c7] at H
                have c7b0 : decide (x13_1 < (l1.length : Int)) = true := decide_eq_true c7
                clear c7
                by_cases c8 : (!(((rd_T23 l0 x13_1).f0) == ((rd_T23 l1 x13_1).f0)) || (!(((rd_T23 l0 x13_1).f1) == ((rd_T23 l1 x13_1).f1)) || (!(((rd_T23 l0 x13_1).f2) == ((rd_T23 l1 x13_1).f2)) || (!(((rd_T23 l0 x13_1).f3) == ((rd_T23 l1 x13_1).f3)))))) = true
                · rw [if_pos c8] at H
                  have c8b0 : (!(((rd_T23 l0 x13_1).f0) == ((rd_T23 l1 x13_1).f0)) || (!(((rd_T23 l0 x13_1).f1) == ((rd_T23 l1 x13_1).f1)) || (!(((rd_T23 l0 x13_1).f2) == ((rd_T23 l1 x13_1).f2)) || (!(((rd_T23 l0 x13_1).f3) == ((rd_T23 l1 x13_1).f3)))))) = true := c8
                  clear c8
                  obtain rfl := Option.some.inj H
                  have p168 : 0 ≤ (x13_1 : Int) := of_decide_eq_true (by first | (with_reducible assumption) | assumption)
                  have q168 : x13_1 < (l0.length : Int) := of_decide_eq_true (by first | (with_reducible assumption) | assumption)
                  obtain ⟨ad168, e168, hx168_0, hx168_1, hx168_2, hx168_3⟩ := at_T23 HR0.out x13_1 p168 q168
                  cases e168
                  replace p168 := eq_true p168
                  replace q168 := eq_true q168
                  have p169 : 0 ≤ (x13_1 : Int) := of_decide_eq_true (by first | (with_reducible assumption) | assumption)
                  have q169 : x13_1 < (l1.length : Int) := of_decide_eq_true (by first | (with_reducible assumption) | assumption)
                  obtain ⟨ad169, e169, hx169_0, hx169_1, hx169_2, hx169_3⟩ := at_T23 HR1.out x13_1 p169 q169
                  cases e169
                  replace p169 := eq_true p169
                  replace q169 := eq_true q169
                  go_wp2
                  repeat (go_quiet (fail); try go_wp2)
                  go_ret
                  exact ⟨by first | rfl | (simp; done) | (simp [*]; done), by repeat (first | exact Drawn0.refl _ | apply Drawn0.step)⟩
                · rw [if_neg c8] at H
                  have c8b0 : (!(((rd_T23 l0 x13_1).f0) == ((rd_T23 l1 x13_1).f0)) || (!(((rd_T23 l0 x13_1).f1) == ((rd_T23 l1 x13_1).f1)) || (!(((rd_T23 l0 x13_1).f2) == ((rd_T23 l1 x13_1).f2)) || (!(((rd_T23 l0 x13_1).f3) == ((rd_T23 l1 x13_1).f3)))))) = false := by simpa using c8
                  clear c8
                  have H' := Aside0.mk H
                  clear H
                  have p168 : 0 ≤ (x13_1 : Int) := of_decide_eq_true (by first | (with_reducible assumption) | assumption)
                  have q168 : x13_1 < (l0.length : Int) := of_decide_eq_true (by first | (with_reducible assumption) | assumption)
                  obtain ⟨ad168, e168, hx168_0, hx168_1, hx168_2, hx168_3⟩ := at_T23 HR0.out x13_1 p168 q168
                  cases e168
                  replace p168 := eq_true p168
                  replace q168 := eq_true q168
                  have p169 : 0 ≤ (x13_1 : Int) := of_decide_eq_true (by first | (with_reducible assumption) | assumption)
                  have q169 : x13_1 < (l1.length : Int) := of_decide_eq_true (by first | (with_reducible assumption) | assumption)
                  obtain ⟨ad169, e169, hx169_0, hx169_1, hx169_2, hx169_3⟩ := at_T23 HR1.out x13_1 p169 q169
                  cases e169
                  replace p169 := eq_true p169
                  replace q169 := eq_true q169
                  go_wp2
                  repeat (go_quiet (fail); try go_wp2)
                  go_roundg k1
                  case measure => have := HK1.out; omega
                  case rel => exact ⟨(wrap64 (x13_1 + 1)), (by first | rfl | (simp; done) | (simp [*]; done)), H', ⟨by have := HK1.out; omega⟩, by repeat (first | exact Drawn0.refl _ | apply Drawn0.step)⟩
              · rw [if_neg c7] at H
                exact absurd H (by simp)
            · rw [if_neg c6] at H
              exact absurd H (by simp)
          · rw [if_neg c5] at H
            exact absurd H (by simp)
        · rw [if_neg c4] at H
          have c4b0 : decide (x13_1 < (l0.length : Int)) = false := decide_eq_false c4
          clear c4
          obtain rfl := Option.some.inj H
          go_wp2
          repeat (go_quiet (fail); try go_wp2)
          go_ret
          exact ⟨by first | rfl | (simp; done) | (simp [*]; done), by repeat (first | exact Drawn0.refl _ | apply Drawn0.step)⟩
  · rw [if_neg c3] at H
    have c3b0 : ((l0.length : Int) == (l1.length : Int)) = false := beq_eq_false_iff_ne.mpr c3
    have c3b1 : ((l0.length : Int) != (l1.length : Int)) = true := bne_iff_ne.mpr c3
    have c3b2 : (l0.length == l1.length) = false := by first | simpa using c3 | (simp at c3 ⊢; omega)
    obtain rfl := Option.some.inj H
    go_enter Tryd.func14, Tryd.ntmps14
    go_wp2
    repeat (go_quiet (fail); try go_wp2)
    go_ret
    exact ⟨by first | rfl | (simp; done) | (simp [*]; done), by repeat (first | exact Drawn0.refl _ | apply Drawn0.step)⟩

-- NOT PRINTED: function 9 (trellislaw_struck)

/-! ### trellisref_WidthOf: function 33 -/
mutual
def trellisref_WidthOf.j0 : Nat → Int → Bool → Option (Int)
  | 0, _, _ => none
  | k + 1, x0, x11 => if x11 = true then (some 0) else ((some (([(⟨0, 0⟩ : S93), (⟨32, 1⟩ : S93), (⟨127, 0⟩ : S93), (⟨160, 1⟩ : S93), (⟨768, 0⟩ : S93), (⟨880, 1⟩ : S93), (⟨4352, 2⟩ : S93), (⟨4448, 1⟩ : S93), (⟨8203, 0⟩ : S93), (⟨8208, 1⟩ : S93), (⟨8232, 0⟩ : S93), (⟨8239, 1⟩ : S93), (⟨8400, 0⟩ : S93), (⟨8448, 1⟩ : S93), (⟨11904, 2⟩ : S93), (⟨12351, 1⟩ : S93), (⟨12353, 2⟩ : S93), (⟨19904, 1⟩ : S93), (⟨19968, 2⟩ : S93), (⟨42192, 1⟩ : S93), (⟨44032, 2⟩ : S93), (⟨55204, 1⟩ : S93), (⟨55296, 0⟩ : S93), (⟨57344, 1⟩ : S93), (⟨63744, 2⟩ : S93), (⟨64256, 1⟩ : S93), (⟨65024, 0⟩ : S93), (⟨65040, 1⟩ : S93), (⟨65072, 2⟩ : S93), (⟨65136, 1⟩ : S93), (⟨65279, 0⟩ : S93), (⟨65280, 2⟩ : S93), (⟨65377, 1⟩ : S93), (⟨65504, 2⟩ : S93), (⟨65511, 1⟩ : S93), (⟨127744, 2⟩ : S93), (⟨128592, 1⟩ : S93), (⟨129280, 2⟩ : S93), (⟨129536, 1⟩ : S93), (⟨131072, 2⟩ : S93), (⟨262142, 1⟩ : S93)] : List (S93)) : List (S93))).bind fun y170 => (trellisref_WidthOf.l0 k x0 0 y170 (y170.length : Int) 0))
def trellisref_WidthOf.l0 : Nat → Int → Int → List (S93) → Int → Int → Option (Int)
  | 0, _, _, _, _, _ => none
  | k + 1, x0, x3, x53, x54, x55 => if x55 < x54 then (if 0 ≤ x55 then (if x55 < (x53.length : Int) then (if x0 ≥ ((rd_T93 x53 x55).f0) then (trellisref_WidthOf.l0 k x0 ((rd_T93 x53 x55).f1) x53 x54 (wrap64 (x55 + 1))) else (trellisref_WidthOf.l0 k x0 x3 x53 x54 (wrap64 (x55 + 1)))) else (none)) else (none)) else (some x3)
end
def trellisref_WidthOf.f (k : Nat) (a0 : Int) : Option (Int) := if a0 < 0 then (trellisref_WidthOf.j0 k a0 true) else (trellisref_WidthOf.j0 k a0 (decide (a0 > 1114111)))
theorem trellisref_WidthOf.mono_l : ∀ k, (∀ y0 y1, LeO (trellisref_WidthOf.j0 k y0 y1) (trellisref_WidthOf.j0 (k + 1) y0 y1)) ∧ (∀ y0 y1 y2 y3 y4, LeO (trellisref_WidthOf.l0 k y0 y1 y2 y3 y4) (trellisref_WidthOf.l0 (k + 1) y0 y1 y2 y3 y4))
  | 0 => ⟨fun _ _ r h => by simp [trellisref_WidthOf.j0] at h, fun _ _ _ _ _ r h => by simp [trellisref_WidthOf.l0] at h⟩
  | k + 1 => by
    obtain ⟨ih0, ih1⟩ := trellisref_WidthOf.mono_l k
    refine ⟨?_, ?_⟩
    · intro y0 y1
      unfold trellisref_WidthOf.j0
      repeat' first
      | (with_reducible exact ih0 _ _)
      | (with_reducible exact ih1 _ _ _ _ _)
      | (with_reducible exact LeO.refl _)
      | (with_reducible exact LeO.none _)
      | (with_reducible refine LeO.ite ?_ ?_)
      | (with_reducible refine LeO.bind ?_ (fun _ => ?_))
      | exact ih0 _ _
      | exact ih1 _ _ _ _ _
      | exact LeO.none _
      | refine LeO.ite ?_ ?_
      | refine LeO.bind ?_ (fun _ => ?_)
    · intro y0 y1 y2 y3 y4
      unfold trellisref_WidthOf.l0
      repeat' first
      | (with_reducible exact ih0 _ _)
      | (with_reducible exact ih1 _ _ _ _ _)
      | (with_reducible exact LeO.refl _)
      | (with_reducible exact LeO.none _)
      | (with_reducible refine LeO.ite ?_ ?_)
      | (with_reducible refine LeO.bind ?_ (fun _ => ?_))
      | exact ih0 _ _
      | exact ih1 _ _ _ _ _
      | exact LeO.none _
      | refine LeO.ite ?_ ?_
      | refine LeO.bind ?_ (fun _ => ?_)
theorem trellisref_WidthOf.mono : ∀ a0 k, LeO (trellisref_WidthOf.f k a0) (trellisref_WidthOf.f (k + 1) a0) := by
  intro a0 k
  obtain ⟨ih0, ih1⟩ := trellisref_WidthOf.mono_l k
  unfold trellisref_WidthOf.f
  repeat' first
      | (with_reducible exact ih0 _ _)
      | (with_reducible exact ih1 _ _ _ _ _)
      | (with_reducible exact LeO.refl _)
      | (with_reducible exact LeO.none _)
      | (with_reducible refine LeO.ite ?_ ?_)
      | (with_reducible refine LeO.bind ?_ (fun _ => ?_))
      | exact ih0 _ _
      | exact ih1 _ _ _ _ _
      | exact LeO.none _
      | refine LeO.ite ?_ ?_
      | refine LeO.bind ?_ (fun _ => ?_)
set_option maxHeartbeats 8000000 in
set_option maxRecDepth 100000 in
theorem trellisref_WidthOf.calls (k : Nat) (a0 : Int) (r : Int) (w : World) (h : trellisref_WidthOf.f k a0 = some r) :
    Calls Tryd.prog 33 #[.int .i32 a0] w fun e w' => e = .returned (.int .i64 r) ∧ Below w.heap.size w w' := by
  have hu93 := Tryd.underlying93
  have HB := Aside0.mk (Below.refl w.heap.size w)
  have H : (if a0 < 0 then (trellisref_WidthOf.j0 k a0 true) else (trellisref_WidthOf.j0 k a0 (decide (a0 > 1114111)))) = some r := h
  clear h
  have HC2 := Aside0.mk H
  clear H
  go_enter Tryd.func33, Tryd.ntmps33
  go_upto_region 1 with (fail)
  go_cut [11] (fun v11 wc => ∃ (kq : Nat) (x11_1 : Bool), v11 = .bool x11_1 ∧ Aside0 (trellisref_WidthOf.j0 kq a0 x11_1 = some r) ∧ Aside0 (kq ≤ k) ∧ Aside0 (Below w.heap.size w wc))
  case first =>
    have H := HC2.out
    clear HC2
    by_cases c3 : a0 < 0
    · rw [if_pos c3] at H
      have c3b0 : decide (a0 < 0) = true := decide_eq_true c3
      clear c3
      (first | rw [c3b0] | (simp only [i64_w, i32_w]; rw [c3b0]) | skip)
      have H' := Aside0.mk H
      clear H
      go_wp2
      go_meet
      case rel => exact ⟨_, (true), (by first | rfl | (simp; done) | (simp [*]; done)), H', ⟨by first | omega | exact Nat.le_refl _⟩, ⟨by repeat (first | (with_reducible first | exact HB.out | apply below_alloc | apply pw_below_drewN | apply below_drew1) | exact HB.out)⟩⟩
    · rw [if_neg c3] at H
      have c3b0 : decide (a0 < 0) = false := decide_eq_false c3
      clear c3
      (first | rw [c3b0] | (simp only [i64_w, i32_w]; rw [c3b0]) | skip)
      have H' := Aside0.mk H
      clear H
      go_wp2
      go_meet
      case rel => exact ⟨_, (decide (a0 > 1114111)), (by first | rfl | (simp; done) | (simp [*]; done)), H', ⟨by first | omega | exact Nat.le_refl _⟩, ⟨by repeat (first | (with_reducible first | exact HB.out | apply below_alloc | apply pw_below_drewN | apply below_drew1) | exact HB.out)⟩⟩
  case rest =>
    clear HC2
    try clear p2
    try clear c3
    try clear c3b0
    obtain ⟨kq, x11_1, rfl, HA, HJ1, HB⟩ := hcut
    cases kq with
    | zero => exact absurd HA.out (by simp [trellisref_WidthOf.j0])
    | succ kj1 =>
      have H := HA.out
      clear HA
      simp only [trellisref_WidthOf.j0] at H
      by_cases c4 : x11_1 = true
      · subst c4
        have H1 : (some 0) = some r := by rw [if_pos rfl] at H; exact H
        clear H
        have H := H1
        clear H1
        obtain rfl := Option.some.inj H
        go_wp2
        go_ret
        exact ⟨by first | rfl | (simp [errW_none, errW_some] <;> rfl) | (simp [*, errW_none, errW_some] <;> rfl), by repeat (first | (with_reducible first | exact HB.out | apply below_alloc | apply pw_below_drewN | apply below_drew1) | exact HB.out)⟩
      · replace c4 := Bool.eq_false_iff.mpr c4
        subst c4
        have H1 : ((some (([(⟨0, 0⟩ : S93), (⟨32, 1⟩ : S93), (⟨127, 0⟩ : S93), (⟨160, 1⟩ : S93), (⟨768, 0⟩ : S93), (⟨880, 1⟩ : S93), (⟨4352, 2⟩ : S93), (⟨4448, 1⟩ : S93), (⟨8203, 0⟩ : S93), (⟨8208, 1⟩ : S93), (⟨8232, 0⟩ : S93), (⟨8239, 1⟩ : S93), (⟨8400, 0⟩ : S93), (⟨8448, 1⟩ : S93), (⟨11904, 2⟩ : S93), (⟨12351, 1⟩ : S93), (⟨12353, 2⟩ : S93), (⟨19904, 1⟩ : S93), (⟨19968, 2⟩ : S93), (⟨42192, 1⟩ : S93), (⟨44032, 2⟩ : S93), (⟨55204, 1⟩ : S93), (⟨55296, 0⟩ : S93), (⟨57344, 1⟩ : S93), (⟨63744, 2⟩ : S93), (⟨64256, 1⟩ : S93), (⟨65024, 0⟩ : S93), (⟨65040, 1⟩ : S93), (⟨65072, 2⟩ : S93), (⟨65136, 1⟩ : S93), (⟨65279, 0⟩ : S93), (⟨65280, 2⟩ : S93), (⟨65377, 1⟩ : S93), (⟨65504, 2⟩ : S93), (⟨65511, 1⟩ : S93), (⟨127744, 2⟩ : S93), (⟨128592, 1⟩ : S93), (⟨129280, 2⟩ : S93), (⟨129536, 1⟩ : S93), (⟨131072, 2⟩ : S93), (⟨262142, 1⟩ : S93)] : List (S93)) : List (S93))).bind fun y170 => (trellisref_WidthOf.l0 kj1 a0 0 y170 (y170.length : Int) 0)) = some r := by rw [if_neg (show ¬ (false = true) by decide)] at H; exact H
        clear H
        have H := H1
        clear H1
        obtain ⟨y170, hy170⟩ : ∃ y_ : List (S93), y_ = (([(⟨0, 0⟩ : S93), (⟨32, 1⟩ : S93), (⟨127, 0⟩ : S93), (⟨160, 1⟩ : S93), (⟨768, 0⟩ : S93), (⟨880, 1⟩ : S93), (⟨4352, 2⟩ : S93), (⟨4448, 1⟩ : S93), (⟨8203, 0⟩ : S93), (⟨8208, 1⟩ : S93), (⟨8232, 0⟩ : S93), (⟨8239, 1⟩ : S93), (⟨8400, 0⟩ : S93), (⟨8448, 1⟩ : S93), (⟨11904, 2⟩ : S93), (⟨12351, 1⟩ : S93), (⟨12353, 2⟩ : S93), (⟨19904, 1⟩ : S93), (⟨19968, 2⟩ : S93), (⟨42192, 1⟩ : S93), (⟨44032, 2⟩ : S93), (⟨55204, 1⟩ : S93), (⟨55296, 0⟩ : S93), (⟨57344, 1⟩ : S93), (⟨63744, 2⟩ : S93), (⟨64256, 1⟩ : S93), (⟨65024, 0⟩ : S93), (⟨65040, 1⟩ : S93), (⟨65072, 2⟩ : S93), (⟨65136, 1⟩ : S93), (⟨65279, 0⟩ : S93), (⟨65280, 2⟩ : S93), (⟨65377, 1⟩ : S93), (⟨65504, 2⟩ : S93), (⟨65511, 1⟩ : S93), (⟨127744, 2⟩ : S93), (⟨128592, 1⟩ : S93), (⟨129280, 2⟩ : S93), (⟨129536, 1⟩ : S93), (⟨131072, 2⟩ : S93), (⟨262142, 1⟩ : S93)] : List (S93))) := ⟨_, rfl⟩
        replace H : (trellisref_WidthOf.l0 kj1 a0 0 y170 (y170.length : Int) 0) = some r := by first | (rw [hy170]; with_reducible exact H) | (have H2_ := (Option.bind_some _ _).symm.trans H; rw [hy170]; with_reducible exact H2_) | (have H2_ := (Option.bind_some _ _).symm.trans H; with_reducible exact H2_) | with_reducible exact H | (rw [hy170]; exact H) | exact H
        have Ny170 := Aside0.mk hy170
        clear hy170
        have H' := Aside0.mk H
        clear H
        go_wp2_with (first | ((with_reducible refine gate_dst (N := 53) rfl ?_); refine Kd.R_lit k93 _ 93 ?hg (N := 53) ?hd (xs := ([(⟨0, 0⟩ : S93), (⟨32, 1⟩ : S93), (⟨127, 0⟩ : S93), (⟨160, 1⟩ : S93), (⟨768, 0⟩ : S93), (⟨880, 1⟩ : S93), (⟨4352, 2⟩ : S93), (⟨4448, 1⟩ : S93), (⟨8203, 0⟩ : S93), (⟨8208, 1⟩ : S93), (⟨8232, 0⟩ : S93), (⟨8239, 1⟩ : S93), (⟨8400, 0⟩ : S93), (⟨8448, 1⟩ : S93), (⟨11904, 2⟩ : S93), (⟨12351, 1⟩ : S93), (⟨12353, 2⟩ : S93), (⟨19904, 1⟩ : S93), (⟨19968, 2⟩ : S93), (⟨42192, 1⟩ : S93), (⟨44032, 2⟩ : S93), (⟨55204, 1⟩ : S93), (⟨55296, 0⟩ : S93), (⟨57344, 1⟩ : S93), (⟨63744, 2⟩ : S93), (⟨64256, 1⟩ : S93), (⟨65024, 0⟩ : S93), (⟨65040, 1⟩ : S93), (⟨65072, 2⟩ : S93), (⟨65136, 1⟩ : S93), (⟨65279, 0⟩ : S93), (⟨65280, 2⟩ : S93), (⟨65377, 1⟩ : S93), (⟨65504, 2⟩ : S93), (⟨65511, 1⟩ : S93), (⟨127744, 2⟩ : S93), (⟨128592, 1⟩ : S93), (⟨129280, 2⟩ : S93), (⟨129536, 1⟩ : S93), (⟨131072, 2⟩ : S93), (⟨262142, 1⟩ : S93)] : List (S93))) (inner := [.int .i32 0, .int .i64 0, .int .i32 32, .int .i64 1, .int .i32 127, .int .i64 0, .int .i32 160, .int .i64 1, .int .i32 768, .int .i64 0, .int .i32 880, .int .i64 1, .int .i32 4352, .int .i64 2, .int .i32 4448, .int .i64 1, .int .i32 8203, .int .i64 0, .int .i32 8208, .int .i64 1, .int .i32 8232, .int .i64 0, .int .i32 8239, .int .i64 1, .int .i32 8400, .int .i64 0, .int .i32 8448, .int .i64 1, .int .i32 11904, .int .i64 2, .int .i32 12351, .int .i64 1, .int .i32 12353, .int .i64 2, .int .i32 19904, .int .i64 1, .int .i32 19968, .int .i64 2, .int .i32 42192, .int .i64 1, .int .i32 44032, .int .i64 2, .int .i32 55204, .int .i64 1, .int .i32 55296, .int .i64 0, .int .i32 57344, .int .i64 1, .int .i32 63744, .int .i64 2, .int .i32 64256, .int .i64 1, .int .i32 65024, .int .i64 0, .int .i32 65040, .int .i64 1, .int .i32 65072, .int .i64 2, .int .i32 65136, .int .i64 1, .int .i32 65279, .int .i64 0, .int .i32 65280, .int .i64 2, .int .i32 65377, .int .i64 1, .int .i32 65504, .int .i64 2, .int .i32 65511, .int .i64 1, .int .i32 127744, .int .i64 2, .int .i32 128592, .int .i64 1, .int .i32 129280, .int .i64 2, .int .i32 129536, .int .i64 1, .int .i32 131072, .int .i64 2, .int .i32 262142, .int .i64 1]) (ok := fun _ => True) (okp := fun _ => True) ?hr ?hp (fun _ hk => hk) trivial (Below.refl _ _) (Nat.le_refl _) (by simp) ?_; (case hd => rfl); (case hg => rfl); (case hr => first | (go_simp; done) | (go_simp; rfl)); (case hp => exact (Reps.c2 (show Kd.M k93 _ _ _ (⟨0, 0⟩ : S93) [.int .i32 0, .int .i64 0] from (k93_mkM _ _ _ (⟨0, 0⟩ : S93) )) (Reps.c2 (show Kd.M k93 _ _ _ (⟨32, 1⟩ : S93) [.int .i32 32, .int .i64 1] from (k93_mkM _ _ _ (⟨32, 1⟩ : S93) )) (Reps.c2 (show Kd.M k93 _ _ _ (⟨127, 0⟩ : S93) [.int .i32 127, .int .i64 0] from (k93_mkM _ _ _ (⟨127, 0⟩ : S93) )) (Reps.c2 (show Kd.M k93 _ _ _ (⟨160, 1⟩ : S93) [.int .i32 160, .int .i64 1] from (k93_mkM _ _ _ (⟨160, 1⟩ : S93) )) (Reps.c2 (show Kd.M k93 _ _ _ (⟨768, 0⟩ : S93) [.int .i32 768, .int .i64 0] from (k93_mkM _ _ _ (⟨768, 0⟩ : S93) )) (Reps.c2 (show Kd.M k93 _ _ _ (⟨880, 1⟩ : S93) [.int .i32 880, .int .i64 1] from (k93_mkM _ _ _ (⟨880, 1⟩ : S93) )) (Reps.c2 (show Kd.M k93 _ _ _ (⟨4352, 2⟩ : S93) [.int .i32 4352, .int .i64 2] from (k93_mkM _ _ _ (⟨4352, 2⟩ : S93) )) (Reps.c2 (show Kd.M k93 _ _ _ (⟨4448, 1⟩ : S93) [.int .i32 4448, .int .i64 1] from (k93_mkM _ _ _ (⟨4448, 1⟩ : S93) )) (Reps.c2 (show Kd.M k93 _ _ _ (⟨8203, 0⟩ : S93) [.int .i32 8203, .int .i64 0] from (k93_mkM _ _ _ (⟨8203, 0⟩ : S93) )) (Reps.c2 (show Kd.M k93 _ _ _ (⟨8208, 1⟩ : S93) [.int .i32 8208, .int .i64 1] from (k93_mkM _ _ _ (⟨8208, 1⟩ : S93) )) (Reps.c2 (show Kd.M k93 _ _ _ (⟨8232, 0⟩ : S93) [.int .i32 8232, .int .i64 0] from (k93_mkM _ _ _ (⟨8232, 0⟩ : S93) )) (Reps.c2 (show Kd.M k93 _ _ _ (⟨8239, 1⟩ : S93) [.int .i32 8239, .int .i64 1] from (k93_mkM _ _ _ (⟨8239, 1⟩ : S93) )) (Reps.c2 (show Kd.M k93 _ _ _ (⟨8400, 0⟩ : S93) [.int .i32 8400, .int .i64 0] from (k93_mkM _ _ _ (⟨8400, 0⟩ : S93) )) (Reps.c2 (show Kd.M k93 _ _ _ (⟨8448, 1⟩ : S93) [.int .i32 8448, .int .i64 1] from (k93_mkM _ _ _ (⟨8448, 1⟩ : S93) )) (Reps.c2 (show Kd.M k93 _ _ _ (⟨11904, 2⟩ : S93) [.int .i32 11904, .int .i64 2] from (k93_mkM _ _ _ (⟨11904, 2⟩ : S93) )) (Reps.c2 (show Kd.M k93 _ _ _ (⟨12351, 1⟩ : S93) [.int .i32 12351, .int .i64 1] from (k93_mkM _ _ _ (⟨12351, 1⟩ : S93) )) (Reps.c2 (show Kd.M k93 _ _ _ (⟨12353, 2⟩ : S93) [.int .i32 12353, .int .i64 2] from (k93_mkM _ _ _ (⟨12353, 2⟩ : S93) )) (Reps.c2 (show Kd.M k93 _ _ _ (⟨19904, 1⟩ : S93) [.int .i32 19904, .int .i64 1] from (k93_mkM _ _ _ (⟨19904, 1⟩ : S93) )) (Reps.c2 (show Kd.M k93 _ _ _ (⟨19968, 2⟩ : S93) [.int .i32 19968, .int .i64 2] from (k93_mkM _ _ _ (⟨19968, 2⟩ : S93) )) (Reps.c2 (show Kd.M k93 _ _ _ (⟨42192, 1⟩ : S93) [.int .i32 42192, .int .i64 1] from (k93_mkM _ _ _ (⟨42192, 1⟩ : S93) )) (Reps.c2 (show Kd.M k93 _ _ _ (⟨44032, 2⟩ : S93) [.int .i32 44032, .int .i64 2] from (k93_mkM _ _ _ (⟨44032, 2⟩ : S93) )) (Reps.c2 (show Kd.M k93 _ _ _ (⟨55204, 1⟩ : S93) [.int .i32 55204, .int .i64 1] from (k93_mkM _ _ _ (⟨55204, 1⟩ : S93) )) (Reps.c2 (show Kd.M k93 _ _ _ (⟨55296, 0⟩ : S93) [.int .i32 55296, .int .i64 0] from (k93_mkM _ _ _ (⟨55296, 0⟩ : S93) )) (Reps.c2 (show Kd.M k93 _ _ _ (⟨57344, 1⟩ : S93) [.int .i32 57344, .int .i64 1] from (k93_mkM _ _ _ (⟨57344, 1⟩ : S93) )) (Reps.c2 (show Kd.M k93 _ _ _ (⟨63744, 2⟩ : S93) [.int .i32 63744, .int .i64 2] from (k93_mkM _ _ _ (⟨63744, 2⟩ : S93) )) (Reps.c2 (show Kd.M k93 _ _ _ (⟨64256, 1⟩ : S93) [.int .i32 64256, .int .i64 1] from (k93_mkM _ _ _ (⟨64256, 1⟩ : S93) )) (Reps.c2 (show Kd.M k93 _ _ _ (⟨65024, 0⟩ : S93) [.int .i32 65024, .int .i64 0] from (k93_mkM _ _ _ (⟨65024, 0⟩ : S93) )) (Reps.c2 (show Kd.M k93 _ _ _ (⟨65040, 1⟩ : S93) [.int .i32 65040, .int .i64 1] from (k93_mkM _ _ _ (⟨65040, 1⟩ : S93) )) (Reps.c2 (show Kd.M k93 _ _ _ (⟨65072, 2⟩ : S93) [.int .i32 65072, .int .i64 2] from (k93_mkM _ _ _ (⟨65072, 2⟩ : S93) )) (Reps.c2 (show Kd.M k93 _ _ _ (⟨65136, 1⟩ : S93) [.int .i32 65136, .int .i64 1] from (k93_mkM _ _ _ (⟨65136, 1⟩ : S93) )) (Reps.c2 (show Kd.M k93 _ _ _ (⟨65279, 0⟩ : S93) [.int .i32 65279, .int .i64 0] from (k93_mkM _ _ _ (⟨65279, 0⟩ : S93) )) (Reps.c2 (show Kd.M k93 _ _ _ (⟨65280, 2⟩ : S93) [.int .i32 65280, .int .i64 2] from (k93_mkM _ _ _ (⟨65280, 2⟩ : S93) )) (Reps.c2 (show Kd.M k93 _ _ _ (⟨65377, 1⟩ : S93) [.int .i32 65377, .int .i64 1] from (k93_mkM _ _ _ (⟨65377, 1⟩ : S93) )) (Reps.c2 (show Kd.M k93 _ _ _ (⟨65504, 2⟩ : S93) [.int .i32 65504, .int .i64 2] from (k93_mkM _ _ _ (⟨65504, 2⟩ : S93) )) (Reps.c2 (show Kd.M k93 _ _ _ (⟨65511, 1⟩ : S93) [.int .i32 65511, .int .i64 1] from (k93_mkM _ _ _ (⟨65511, 1⟩ : S93) )) (Reps.c2 (show Kd.M k93 _ _ _ (⟨127744, 2⟩ : S93) [.int .i32 127744, .int .i64 2] from (k93_mkM _ _ _ (⟨127744, 2⟩ : S93) )) (Reps.c2 (show Kd.M k93 _ _ _ (⟨128592, 1⟩ : S93) [.int .i32 128592, .int .i64 1] from (k93_mkM _ _ _ (⟨128592, 1⟩ : S93) )) (Reps.c2 (show Kd.M k93 _ _ _ (⟨129280, 2⟩ : S93) [.int .i32 129280, .int .i64 2] from (k93_mkM _ _ _ (⟨129280, 2⟩ : S93) )) (Reps.c2 (show Kd.M k93 _ _ _ (⟨129536, 1⟩ : S93) [.int .i32 129536, .int .i64 1] from (k93_mkM _ _ _ (⟨129536, 1⟩ : S93) )) (Reps.c2 (show Kd.M k93 _ _ _ (⟨131072, 2⟩ : S93) [.int .i32 131072, .int .i64 2] from (k93_mkM _ _ _ (⟨131072, 2⟩ : S93) )) (Reps.c2 (show Kd.M k93 _ _ _ (⟨262142, 1⟩ : S93) [.int .i32 262142, .int .i64 1] from (k93_mkM _ _ _ (⟨262142, 1⟩ : S93) )) (Reps.none _ _))))))))))))))))))))))))))))))))))))))))))); intro v171 w5 ho6 hb hg_ hnew_; clear hg_ hnew_; (first | rw [← Ny170.out] at ho6 | (simp only [Int.reduceToNat] at ho6; rw [← Ny170.out] at ho6)); have n0_ := Aside0.mk (Kd.R_lower ho6 (below_size (by repeat (first | (with_reducible first | exact HB.out | apply below_alloc | apply pw_below_drewN | apply below_drew1) | exact HB.out)))); have n1_ := Aside0.mk (below_step (by repeat (first | (with_reducible first | exact HB.out | apply below_alloc | apply pw_below_drewN | apply below_drew1) | exact HB.out)) hb); clear HB; have HO172 := n0_; have HB := n1_; clear n0_ n1_; clear hb ho6; obtain ⟨Ao7, co7, eo7⟩ := Kd.R_slice HO172.out; subst eo7))
        go_loopg [3, 55] kj1 (fun kq v3 v55 w' => ∃ (x3_2 : Int) (x55_2 : Int), v3 = .int .i64 x3_2 ∧ v55 = .int .i64 x55_2 ∧ Aside0 (trellisref_WidthOf.l0 kq a0 x3_2 y170 (y170.length : Int) x55_2 = some r) ∧ Aside0 (kq ≤ kj1) ∧ Aside0 (Kd.R k93 93 w' w.heap.size (fun _ => True) (.slice Ao7 y170.length co7) y170) ∧ Aside0 (Below w.heap.size w w'))
        case atStart => exact ⟨(0), (0), (by first | rfl | (simp; done) | (simp [*]; done)), (by first | rfl | (simp; done) | (simp [*]; done)), H', ⟨Nat.le_refl _⟩, ⟨by (with_reducible repeat (first | apply Kd.R_alloc | apply Kd.R_drewN | apply Kd.R_drew)); exact HO172.out⟩, ⟨by repeat (first | (with_reducible first | exact HB.out | apply below_alloc | apply pw_below_drewN | apply below_drew1) | exact HB.out)⟩⟩
        case round =>
          clear H'
          try clear c2
          try clear p2
          try clear c3
          try clear c3b0
          try clear c4
          try clear p2
          obtain ⟨x3_2, x55_2, rfl, rfl, HA, HK2, HO_53, HB⟩ := hrel
          cases gk with
          | zero => exact absurd HA.out (by simp [trellisref_WidthOf.l0])
          | succ k2 =>
            have H := HA.out
            clear HA
            simp only [trellisref_WidthOf.l0] at H
            by_cases c8 : x55_2 < (y170.length : Int)
            · rw [if_pos c8] at H
              have c8b0 : decide (x55_2 < (y170.length : Int)) = true := decide_eq_true c8
              clear c8
              by_cases c9 : 0 ≤ x55_2
              · rw [if_pos c9] at H
                have c9b0 : decide (0 ≤ x55_2) = true := decide_eq_true c9
                clear c9
                by_cases c10 : x55_2 < (y170.length : Int)
                · rw [if_pos c10] at H
                  have c10b0 : decide (x55_2 < (y170.length : Int)) = true := decide_eq_true c10
                  clear c10
                  by_cases c11 : a0 ≥ ((rd_T93 y170 x55_2).f0)
                  · rw [if_pos c11] at H
                    have c11b0 : decide (((rd_T93 y170 x55_2).f0) ≤ a0) = true := decide_eq_true c11
                    clear c11
                    have H' := Aside0.mk H
                    clear H
                    have p173 : 0 ≤ (x55_2 : Int) := of_decide_eq_true (by first | (with_reducible assumption) | assumption)
                    have q173 : x55_2 < (y170.length : Int) := of_decide_eq_true (by first | (with_reducible assumption) | assumption)
                    obtain ⟨ad173, e173, hx173_0, hx173_1⟩ := at_T93 (Kd.R_reads' HO_53.out).2.2 x55_2 p173 q173
                    cases e173
                    replace p173 := eq_true p173
                    replace q173 := eq_true q173
                    go_wp2_with (first | ((with_reducible refine gate_dst (N := 5) rfl ?_); refine box_event ?hg (N := 5) ?hd (cs := #[.int .i32 0, .int .i64 0]) (t := 93) ?hr ?_; (case hd => rfl); (case hg => rfl); (case hr => first | (go_simp; done) | (go_simp; rfl)); intro gb174 hg w12 hbox hb; have n0_ := Aside0.mk (Kd.R_below (Kd.R_elderB (by (with_reducible repeat (first | apply Kd.R_alloc | apply Kd.R_drewN | apply Kd.R_drew)); exact HO_53.out) gb174 (Nat.le_of_eq hg.symm)) hb); have n1_ := Aside0.mk (below_step (by repeat (first | (with_reducible first | exact HB.out | apply below_alloc | apply pw_below_drewN | apply below_drew1) | exact HB.out)) hb); have n2_ := Aside0.mk (hbox); have n3_ := Aside0.mk ((by rw [hg]; exact (below_size (by repeat (first | (with_reducible first | exact HB.out | apply below_alloc | apply pw_below_drewN | apply below_drew1) | exact HB.out))) : w.heap.size ≤ gb174)); have n4_ := Aside0.mk ((by rw [hg]; exact (below_size (by repeat (first | (with_reducible first | exact HB.out | apply below_alloc | apply pw_below_drewN | apply below_drew1) | exact HB.out))) : w.heap.size ≤ gb174)); clear HO_53; clear HB; have HO_53 := n0_; have HB := n1_; have BK174 := n2_; have GW174 := n3_; have GE174 := n4_; clear n0_ n1_ n2_ n3_ n4_; clear hb hbox hg; have hcz13_0 : w12.cell? ⟨gb174, 0, none⟩ = some (.int .i32 0) := (blk_cell BK174.out 0).trans rfl; have hcz13_1 : w12.cell? ⟨gb174, 1, none⟩ = some (.int .i64 0) := (blk_cell BK174.out 1).trans rfl; have hfz13_0 := blk_frozen BK174.out 0; have hfz13_1 := blk_frozen BK174.out 1))
                    go_roundg k2
                    case measure => have := HJ1.out; have := HK2.out; omega
                    case rel => exact ⟨((rd_T93 y170 x55_2).f1), (wrap64 (x55_2 + 1)), (by first | rfl | (simp; done) | (simp [*]; done)), (by first | rfl | (simp; done) | (simp [*]; done)), H', ⟨by have := HJ1.out; have := HK2.out; omega⟩, ⟨by (with_reducible repeat (first | apply Kd.R_alloc | apply Kd.R_drewN | apply Kd.R_drew)); exact Kd.R_mono (Kd.R_far (p := ⟨gb174, 1, none⟩) (Kd.R_far (p := ⟨gb174, 0, none⟩) (Kd.R_mono HO_53.out (fun k_ hk => (⟨hk, hk.2⟩ : _ ∧ k_ ≠ gb174))) (fun _ hk => hk.2) (.int .i32 ((rd_T93 y170 x55_2).f0))) (fun _ hk => hk.2) (.int .i64 ((rd_T93 y170 x55_2).f1))) (fun _ hk => trivial)⟩, ⟨by repeat (first | (with_reducible first | exact HB.out | apply below_alloc | apply pw_below_drewN | apply below_drew1 | refine below_set ?_ GE174.out) | exact HB.out)⟩⟩
                  · rw [if_neg c11] at H
                    have c11b0 : decide (((rd_T93 y170 x55_2).f0) ≤ a0) = false := decide_eq_false c11
                    clear c11
                    have H' := Aside0.mk H
                    clear H
                    have p173 : 0 ≤ (x55_2 : Int) := of_decide_eq_true (by first | (with_reducible assumption) | assumption)
                    have q173 : x55_2 < (y170.length : Int) := of_decide_eq_true (by first | (with_reducible assumption) | assumption)
                    obtain ⟨ad173, e173, hx173_0, hx173_1⟩ := at_T93 (Kd.R_reads' HO_53.out).2.2 x55_2 p173 q173
                    cases e173
                    replace p173 := eq_true p173
                    replace q173 := eq_true q173
                    go_wp2_with (first | ((with_reducible refine gate_dst (N := 5) rfl ?_); refine box_event ?hg (N := 5) ?hd (cs := #[.int .i32 0, .int .i64 0]) (t := 93) ?hr ?_; (case hd => rfl); (case hg => rfl); (case hr => first | (go_simp; done) | (go_simp; rfl)); intro gb174 hg w14 hbox hb; have n0_ := Aside0.mk (Kd.R_below (Kd.R_elderB (by (with_reducible repeat (first | apply Kd.R_alloc | apply Kd.R_drewN | apply Kd.R_drew)); exact HO_53.out) gb174 (Nat.le_of_eq hg.symm)) hb); have n1_ := Aside0.mk (below_step (by repeat (first | (with_reducible first | exact HB.out | apply below_alloc | apply pw_below_drewN | apply below_drew1) | exact HB.out)) hb); have n2_ := Aside0.mk (hbox); have n3_ := Aside0.mk ((by rw [hg]; exact (below_size (by repeat (first | (with_reducible first | exact HB.out | apply below_alloc | apply pw_below_drewN | apply below_drew1) | exact HB.out))) : w.heap.size ≤ gb174)); have n4_ := Aside0.mk ((by rw [hg]; exact (below_size (by repeat (first | (with_reducible first | exact HB.out | apply below_alloc | apply pw_below_drewN | apply below_drew1) | exact HB.out))) : w.heap.size ≤ gb174)); clear HO_53; clear HB; have HO_53 := n0_; have HB := n1_; have BK174 := n2_; have GW174 := n3_; have GE174 := n4_; clear n0_ n1_ n2_ n3_ n4_; clear hb hbox hg; have hcz15_0 : w14.cell? ⟨gb174, 0, none⟩ = some (.int .i32 0) := (blk_cell BK174.out 0).trans rfl; have hcz15_1 : w14.cell? ⟨gb174, 1, none⟩ = some (.int .i64 0) := (blk_cell BK174.out 1).trans rfl; have hfz15_0 := blk_frozen BK174.out 0; have hfz15_1 := blk_frozen BK174.out 1))
                    go_roundg k2
                    case measure => have := HJ1.out; have := HK2.out; omega
                    case rel => exact ⟨(x3_2), (wrap64 (x55_2 + 1)), (by first | rfl | (simp; done) | (simp [*]; done)), (by first | rfl | (simp; done) | (simp [*]; done)), H', ⟨by have := HJ1.out; have := HK2.out; omega⟩, ⟨by (with_reducible repeat (first | apply Kd.R_alloc | apply Kd.R_drewN | apply Kd.R_drew)); exact Kd.R_mono (Kd.R_far (p := ⟨gb174, 1, none⟩) (Kd.R_far (p := ⟨gb174, 0, none⟩) (Kd.R_mono HO_53.out (fun k_ hk => (⟨hk, hk.2⟩ : _ ∧ k_ ≠ gb174))) (fun _ hk => hk.2) (.int .i32 ((rd_T93 y170 x55_2).f0))) (fun _ hk => hk.2) (.int .i64 ((rd_T93 y170 x55_2).f1))) (fun _ hk => trivial)⟩, ⟨by repeat (first | (with_reducible first | exact HB.out | apply below_alloc | apply pw_below_drewN | apply below_drew1 | refine below_set ?_ GE174.out) | exact HB.out)⟩⟩
                · rw [if_neg c10] at H
                  exact absurd H (by simp)
              · rw [if_neg c9] at H
                exact absurd H (by simp)
            · rw [if_neg c8] at H
              have c8b0 : decide (x55_2 < (y170.length : Int)) = false := decide_eq_false c8
              clear c8
              obtain rfl := Option.some.inj H
              go_wp2
              go_ret
              exact ⟨by first | rfl | (simp [errW_none, errW_some] <;> rfl) | (simp [*, errW_none, errW_some] <;> rfl), by repeat (first | (with_reducible first | exact HB.out | apply below_alloc | apply pw_below_drewN | apply below_drew1) | exact HB.out)⟩

-- NOT PRINTED: function 32 (trellisref_sequences)

-- NOT PRINTED: function 60 (trellisref_keyOf)

-- NOT PRINTED: function 38 (trellisref_firstKey)

-- NOT PRINTED: function 13 (trellisref_ReadKeys)

-- NOT PRINTED: function 4 (trellislaw_KeysRead)

end Go.Proofs.YtampklajoikbiaaDoor.PKeysRead
