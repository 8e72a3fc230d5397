/- keys.Write: the bytes that a key is told by, errors too. -/
import Derived.Test.YtampklajoikbiaaDoorI
import Derived.Test.YtampklajoikbiaaDoorA
import Derived.Deep.RegionWith
import Derived.Laws.Cover4
import Derived.Laws.BytesArg
set_option linter.unusedVariables false
set_option linter.unusedSimpArgs false
namespace Go.Proofs.YtampklajoikbiaaDoor
open Go.RowKit Go.Proofs.YtampklajoikbiaaDoorW.PrintWords PKeysRead

def altL (d : Int) : List UInt8 := if d = 2 ∨ d = 3 ∨ d = 6 ∨ d = 7 then [27] else []
def kbL (a b c d : Int) (kp : Bool) : List UInt8 :=
  if a = 1 then altL d ++ (if 4 ≤ d then [UInt8.ofNat (b - 96).toNat] else (Utf8.encode b).data.toList)
  else if a = 2 then altL d ++ [13]
  else if a = 4 then altL d ++ [127]
  else if a = 5 then [27]
  else if a = 3 then (if d ≠ 0 then [27, 91, 90] else [9])
  else if letterF a ≠ 0 then (if d ≠ 0 then [27, 91, 49, 59, UInt8.ofNat (48 + (d + 1).toNat), UInt8.ofNat (letterF a).toNat] else if kp then [27, 79, UInt8.ofNat (letterF a).toNat] else [27, 91, UInt8.ofNat (letterF a).toNat])
  else [27, 91] ++ Lib.decDigits (numberF a c).toNat ++ (if d ≠ 0 then [59, UInt8.ofNat (48 + (d + 1).toNat)] else []) ++ [126]
def kb (a b c d : Int) (kp : Bool) : ByteArray := ⟨(kbL a b c d kp).toArray⟩

theorem enc_size (b : Int) : (Utf8.encode b).size ≤ 4 := encode_size_le b
theorem conv1 (x : Int) (W : World) : (convert 61 9 (.slice (some ⟨W.heap.size, 0, none⟩) 1 1)).run Tryd.prog (W.alloc (.cells #[.int .u8 x] 5)) = .ok (.string ⟨#[UInt8.ofNat x.toNat]⟩) (W.alloc (.cells #[.int .u8 x] 5)) := by
  have h := run_convert_bytes_arg (P := Tryd.prog) (W.alloc (.cells #[.int .u8 x] 5)) 61 5 Tryd.underlying61 Tryd.underlying5 W.heap.size 0 1 1 [x] rfl (by
    intro i hi
    obtain rfl : i = 0 := by omega
    exact (cell_of_row _ _ 0 _ _ _ (heap_alloc_new W _)).trans rfl) 9 Tryd.underlying9
  exact h

theorem conv1d (x : Int) (W : World) : (convert 61 9 (.slice (some ⟨W.heap.size, 0, none⟩) 1 1)).run Tryd.prog (W.alloc (.cells #[.int .u8 x] 5)).drew = .ok (.string ⟨#[UInt8.ofNat x.toNat]⟩) (W.alloc (.cells #[.int .u8 x] 5)).drew := conv1 x W.drew

theorem itoa1 (n : Int) (h0 : 0 ≤ n) (h1 : n < 10) (w : World) : Calls Tryd.prog 30 #[.int .i64 n] w fun e w' => e = .returned (.string ⟨#[UInt8.ofNat (48 + n.toNat)]⟩) ∧ w = w' := by
  have := itoa_lit n [UInt8.ofNat (48 + n.toNat)] h0 (by omega) (by rw [Lib.decDigits]; rw [dif_pos (by omega)]) w
  exact this

def WPost (w : World) (s : ByteArray) (e : Ending) (w' : World) : Prop := e = .returned (.tuple #[.string s, .int .i64 0]) ∧ Below w.heap.size w w'
theorem ba_eq {x y : ByteArray} (h : x.data.toList = y.data.toList) : x = y := by
  cases x; cases y
  simp only [Array.toList_inj] at h
  rw [h]

theorem Write_bad (a b c d : Int) (kp : Bool) (w : World) (h : chk ⟨a, b, c, d⟩ = false) : Calls Tryd.prog 7 #[.agg #[.int .i64 a, .int .i32 b, .int .i64 c, .int .i64 d], .bool kp] w fun e w' => e = .returned (.tuple #[.string ⟨#[]⟩, .int .i64 5]) ∧ Below w.heap.size w w' := by
  have hh := Lib.hid h
  clear h
  go_enter Tryd.func7, Tryd.ntmps7
  go_wp2_with (go_at_call 10; refine (Check_calls ⟨a, b, c, d⟩ _).mono ?_; rintro e w1 ⟨rfl, hb⟩; rw [hh.out]; obtain ⟨hcc, hff⟩ := bcell hb; have hB1 : Below w.heap.size w w1 := bt (by go_grown) hb; have hz1 : w.heap.size < w1.heap.size := (by have := hb.size; simp at this; omega); clear hb)
  all_goals (go_ret2; exact ⟨rfl, by go_grown⟩)

theorem ret_str {s s' : ByteArray} (h : s = s') : Ending.returned (.tuple #[.string s, .int .i64 0]) = .returned (.tuple #[.string s', .int .i64 0]) := by rw [h]

set_option maxRecDepth 100000 in
set_option maxHeartbeats 2000000 in
theorem Write_rune0 (b : Int) (kp : Bool) (w : World) (h : chk ⟨1, b, 0, 0⟩ = true) : Calls Tryd.prog 7 #[.agg #[.int .i64 1, .int .i32 b, .int .i64 0, .int .i64 0], .bool kp] w (WPost w (kb 1 b 0 0 kp)) := by
  have he : ¬ 9223372036854775807 < (Utf8.encode b).size := by have := enc_size b; omega
  have he2 : ¬ 9223372036854775807 < 1 + (Utf8.encode b).size := by have := enc_size b; omega
  have cv := conv1
  have cvd := conv1d
  have hh := Lib.hid h
  clear h
  go_enter Tryd.func7, Tryd.ntmps7
  go_wp2_with (go_at_call 10; refine (Check_calls ⟨1, b, 0, 0⟩ _).mono ?_; rintro e w1 ⟨rfl, hb⟩; rw [hh.out]; obtain ⟨hcc, hff⟩ := bcell hb; have hB1 : Below w.heap.size w w1 := bt (by go_grown) hb; have hz1 : w.heap.size < w1.heap.size := (by have := hb.size; simp at this; omega); clear hb)
  all_goals (go_ret2; refine ⟨?_, by go_grown⟩; exact ret_str (ba_eq (by simp [kb, kbL, altL, show b - 97 + 1 = b - 96 by omega])))

set_option maxRecDepth 100000 in
set_option maxHeartbeats 2000000 in
theorem Write_rune2 (b : Int) (kp : Bool) (w : World) (h : chk ⟨1, b, 0, 2⟩ = true) : Calls Tryd.prog 7 #[.agg #[.int .i64 1, .int .i32 b, .int .i64 0, .int .i64 2], .bool kp] w (WPost w (kb 1 b 0 2 kp)) := by
  have he : ¬ 9223372036854775807 < (Utf8.encode b).size := by have := enc_size b; omega
  have he2 : ¬ 9223372036854775807 < 1 + (Utf8.encode b).size := by have := enc_size b; omega
  have cv := conv1
  have cvd := conv1d
  have hh := Lib.hid h
  clear h
  go_enter Tryd.func7, Tryd.ntmps7
  go_wp2_with (go_at_call 10; refine (Check_calls ⟨1, b, 0, 2⟩ _).mono ?_; rintro e w1 ⟨rfl, hb⟩; rw [hh.out]; obtain ⟨hcc, hff⟩ := bcell hb; have hB1 : Below w.heap.size w w1 := bt (by go_grown) hb; have hz1 : w.heap.size < w1.heap.size := (by have := hb.size; simp at this; omega); clear hb)
  all_goals (go_ret2; refine ⟨?_, by go_grown⟩; exact ret_str (ba_eq (by simp [kb, kbL, altL, show b - 97 + 1 = b - 96 by omega])))

set_option maxRecDepth 100000 in
set_option maxHeartbeats 2000000 in
theorem Write_rune4 (b : Int) (kp : Bool) (w : World) (h : chk ⟨1, b, 0, 4⟩ = true) (h0 : 97 ≤ b) (h1 : b ≤ 122) : Calls Tryd.prog 7 #[.agg #[.int .i64 1, .int .i32 b, .int .i64 0, .int .i64 4], .bool kp] w (WPost w (kb 1 b 0 4 kp)) := by
  have he : ¬ 9223372036854775807 < (Utf8.encode b).size := by have := enc_size b; omega
  have he2 : ¬ 9223372036854775807 < 1 + (Utf8.encode b).size := by have := enc_size b; omega
  have cv := conv1
  have cvd := conv1d
  have hh := Lib.hid h
  clear h
  go_enter Tryd.func7, Tryd.ntmps7
  go_wp2_with (go_at_call 10; refine (Check_calls ⟨1, b, 0, 4⟩ _).mono ?_; rintro e w1 ⟨rfl, hb⟩; rw [hh.out]; obtain ⟨hcc, hff⟩ := bcell hb; have hB1 : Below w.heap.size w w1 := bt (by go_grown) hb; have hz1 : w.heap.size < w1.heap.size := (by have := hb.size; simp at this; omega); clear hb)
  all_goals (go_ret2; refine ⟨?_, by go_grown⟩; exact ret_str (ba_eq (by simp [kb, kbL, altL, show b - 97 + 1 = b - 96 by omega])))

set_option maxRecDepth 100000 in
set_option maxHeartbeats 2000000 in
theorem Write_rune6 (b : Int) (kp : Bool) (w : World) (h : chk ⟨1, b, 0, 6⟩ = true) (h0 : 97 ≤ b) (h1 : b ≤ 122) : Calls Tryd.prog 7 #[.agg #[.int .i64 1, .int .i32 b, .int .i64 0, .int .i64 6], .bool kp] w (WPost w (kb 1 b 0 6 kp)) := by
  have he : ¬ 9223372036854775807 < (Utf8.encode b).size := by have := enc_size b; omega
  have he2 : ¬ 9223372036854775807 < 1 + (Utf8.encode b).size := by have := enc_size b; omega
  have cv := conv1
  have cvd := conv1d
  have hh := Lib.hid h
  clear h
  go_enter Tryd.func7, Tryd.ntmps7
  go_wp2_with (go_at_call 10; refine (Check_calls ⟨1, b, 0, 6⟩ _).mono ?_; rintro e w1 ⟨rfl, hb⟩; rw [hh.out]; obtain ⟨hcc, hff⟩ := bcell hb; have hB1 : Below w.heap.size w w1 := bt (by go_grown) hb; have hz1 : w.heap.size < w1.heap.size := (by have := hb.size; simp at this; omega); clear hb)
  all_goals (go_ret2; refine ⟨?_, by go_grown⟩; exact ret_str (ba_eq (by simp [kb, kbL, altL, show b - 97 + 1 = b - 96 by omega])))

theorem num_bd (a c : Int) (h : (12 ≤ a ∧ a ≤ 14 ∧ c = 0) ∨ (a = 15 ∧ 1 ≤ c ∧ c ≤ 12)) : 0 ≤ numberF a c ∧ numberF a c < 100 := by
  rcases h with ⟨h1, h2, rfl⟩ | ⟨rfl, h1, h2⟩
  · have : a = 12 ∨ a = 13 ∨ a = 14 := by omega
    rcases this with rfl | rfl | rfl <;> decide
  · have : c = 1 ∨ c = 2 ∨ c = 3 ∨ c = 4 ∨ c = 5 ∨ c = 6 ∨ c = 7 ∨ c = 8 ∨ c = 9 ∨ c = 10 ∨ c = 11 ∨ c = 12 := by omega
    rcases this with rfl | rfl | rfl | rfl | rfl | rfl | rfl | rfl | rfl | rfl | rfl | rfl <;> decide
theorem dig2 (n : Int) (h0 : 0 ≤ n) (h1 : n < 100) : (Lib.decDigits n.toNat).length ≤ 2 := by
  rw [Lib.decDigits]
  split
  · simp
  · rw [Lib.decDigits, dif_pos (by omega)]; simp

set_option maxRecDepth 100000 in
set_option maxHeartbeats 2000000 in
theorem Write_2_0 (kp : Bool) (w : World) : Calls Tryd.prog 7 #[.agg #[.int .i64 2, .int .i32 0, .int .i64 0, .int .i64 0], .bool kp] w (WPost w (kb 2 0 0 0 kp)) := by
  have h : chk ⟨2, 0, 0, 0⟩ = true := by decide
  have hh := Lib.hid h
  clear h
  go_enter Tryd.func7, Tryd.ntmps7
  go_wp2_with (go_at_call 10; refine (Check_calls ⟨2, 0, 0, 0⟩ _).mono ?_; rintro e w1 ⟨rfl, hb⟩; rw [hh.out]; obtain ⟨hcc, hff⟩ := bcell hb; have hB1 : Below w.heap.size w w1 := bt (by go_grown) hb; have hz1 : w.heap.size < w1.heap.size := (by have := hb.size; simp at this; omega); clear hb)
  all_goals (go_ret2; refine ⟨?_, by go_grown⟩; exact ret_str (ba_eq (by simp [kb, kbL, altL])))

set_option maxRecDepth 100000 in
set_option maxHeartbeats 2000000 in
theorem Write_2_2 (kp : Bool) (w : World) : Calls Tryd.prog 7 #[.agg #[.int .i64 2, .int .i32 0, .int .i64 0, .int .i64 2], .bool kp] w (WPost w (kb 2 0 0 2 kp)) := by
  have h : chk ⟨2, 0, 0, 2⟩ = true := by decide
  have hh := Lib.hid h
  clear h
  go_enter Tryd.func7, Tryd.ntmps7
  go_wp2_with (go_at_call 10; refine (Check_calls ⟨2, 0, 0, 2⟩ _).mono ?_; rintro e w1 ⟨rfl, hb⟩; rw [hh.out]; obtain ⟨hcc, hff⟩ := bcell hb; have hB1 : Below w.heap.size w w1 := bt (by go_grown) hb; have hz1 : w.heap.size < w1.heap.size := (by have := hb.size; simp at this; omega); clear hb)
  all_goals (go_ret2; refine ⟨?_, by go_grown⟩; exact ret_str (ba_eq (by simp [kb, kbL, altL])))

set_option maxRecDepth 100000 in
set_option maxHeartbeats 2000000 in
theorem Write_4_0 (kp : Bool) (w : World) : Calls Tryd.prog 7 #[.agg #[.int .i64 4, .int .i32 0, .int .i64 0, .int .i64 0], .bool kp] w (WPost w (kb 4 0 0 0 kp)) := by
  have h : chk ⟨4, 0, 0, 0⟩ = true := by decide
  have hh := Lib.hid h
  clear h
  go_enter Tryd.func7, Tryd.ntmps7
  go_wp2_with (go_at_call 10; refine (Check_calls ⟨4, 0, 0, 0⟩ _).mono ?_; rintro e w1 ⟨rfl, hb⟩; rw [hh.out]; obtain ⟨hcc, hff⟩ := bcell hb; have hB1 : Below w.heap.size w w1 := bt (by go_grown) hb; have hz1 : w.heap.size < w1.heap.size := (by have := hb.size; simp at this; omega); clear hb)
  all_goals (go_ret2; refine ⟨?_, by go_grown⟩; exact ret_str (ba_eq (by simp [kb, kbL, altL])))

set_option maxRecDepth 100000 in
set_option maxHeartbeats 2000000 in
theorem Write_4_2 (kp : Bool) (w : World) : Calls Tryd.prog 7 #[.agg #[.int .i64 4, .int .i32 0, .int .i64 0, .int .i64 2], .bool kp] w (WPost w (kb 4 0 0 2 kp)) := by
  have h : chk ⟨4, 0, 0, 2⟩ = true := by decide
  have hh := Lib.hid h
  clear h
  go_enter Tryd.func7, Tryd.ntmps7
  go_wp2_with (go_at_call 10; refine (Check_calls ⟨4, 0, 0, 2⟩ _).mono ?_; rintro e w1 ⟨rfl, hb⟩; rw [hh.out]; obtain ⟨hcc, hff⟩ := bcell hb; have hB1 : Below w.heap.size w w1 := bt (by go_grown) hb; have hz1 : w.heap.size < w1.heap.size := (by have := hb.size; simp at this; omega); clear hb)
  all_goals (go_ret2; refine ⟨?_, by go_grown⟩; exact ret_str (ba_eq (by simp [kb, kbL, altL])))

set_option maxRecDepth 100000 in
set_option maxHeartbeats 2000000 in
theorem Write_5_0 (kp : Bool) (w : World) : Calls Tryd.prog 7 #[.agg #[.int .i64 5, .int .i32 0, .int .i64 0, .int .i64 0], .bool kp] w (WPost w (kb 5 0 0 0 kp)) := by
  have h : chk ⟨5, 0, 0, 0⟩ = true := by decide
  have hh := Lib.hid h
  clear h
  go_enter Tryd.func7, Tryd.ntmps7
  go_wp2_with (go_at_call 10; refine (Check_calls ⟨5, 0, 0, 0⟩ _).mono ?_; rintro e w1 ⟨rfl, hb⟩; rw [hh.out]; obtain ⟨hcc, hff⟩ := bcell hb; have hB1 : Below w.heap.size w w1 := bt (by go_grown) hb; have hz1 : w.heap.size < w1.heap.size := (by have := hb.size; simp at this; omega); clear hb)
  all_goals (go_ret2; refine ⟨?_, by go_grown⟩; exact ret_str (ba_eq (by simp [kb, kbL, altL])))

set_option maxRecDepth 100000 in
set_option maxHeartbeats 2000000 in
theorem Write_3_0 (kp : Bool) (w : World) : Calls Tryd.prog 7 #[.agg #[.int .i64 3, .int .i32 0, .int .i64 0, .int .i64 0], .bool kp] w (WPost w (kb 3 0 0 0 kp)) := by
  have h : chk ⟨3, 0, 0, 0⟩ = true := by decide
  have hh := Lib.hid h
  clear h
  go_enter Tryd.func7, Tryd.ntmps7
  go_wp2_with (go_at_call 10; refine (Check_calls ⟨3, 0, 0, 0⟩ _).mono ?_; rintro e w1 ⟨rfl, hb⟩; rw [hh.out]; obtain ⟨hcc, hff⟩ := bcell hb; have hB1 : Below w.heap.size w w1 := bt (by go_grown) hb; have hz1 : w.heap.size < w1.heap.size := (by have := hb.size; simp at this; omega); clear hb)
  all_goals (go_ret2; refine ⟨?_, by go_grown⟩; exact ret_str (ba_eq (by simp [kb, kbL, altL])))

set_option maxRecDepth 100000 in
set_option maxHeartbeats 2000000 in
theorem Write_3_1 (kp : Bool) (w : World) : Calls Tryd.prog 7 #[.agg #[.int .i64 3, .int .i32 0, .int .i64 0, .int .i64 1], .bool kp] w (WPost w (kb 3 0 0 1 kp)) := by
  have h : chk ⟨3, 0, 0, 1⟩ = true := by decide
  have hh := Lib.hid h
  clear h
  go_enter Tryd.func7, Tryd.ntmps7
  go_wp2_with (go_at_call 10; refine (Check_calls ⟨3, 0, 0, 1⟩ _).mono ?_; rintro e w1 ⟨rfl, hb⟩; rw [hh.out]; obtain ⟨hcc, hff⟩ := bcell hb; have hB1 : Below w.heap.size w w1 := bt (by go_grown) hb; have hz1 : w.heap.size < w1.heap.size := (by have := hb.size; simp at this; omega); clear hb)
  all_goals (go_ret2; refine ⟨?_, by go_grown⟩; exact ret_str (ba_eq (by simp [kb, kbL, altL])))

set_option maxRecDepth 100000 in
set_option maxHeartbeats 4000000 in
theorem Write_arrow0 (a : Int) (kp : Bool) (w : World) (h0 : 6 ≤ a) (h1 : a ≤ 11) : Calls Tryd.prog 7 #[.agg #[.int .i64 a, .int .i32 0, .int .i64 0, .int .i64 0], .bool kp] w (WPost w (kb a 0 0 0 kp)) := by
  have hh : Hid (chk ⟨a, 0, 0, 0⟩ = true) := by
    have : a = 6 ∨ a = 7 ∨ a = 8 ∨ a = 9 ∨ a = 10 ∨ a = 11 := by omega
    rcases this with rfl | rfl | rfl | rfl | rfl | rfl <;> exact Lib.hid (by decide)
  have hl : (letterF a != 0) = true := by
    have : a = 6 ∨ a = 7 ∨ a = 8 ∨ a = 9 ∨ a = 10 ∨ a = 11 := by omega
    rcases this with rfl | rfl | rfl | rfl | rfl | rfl <;> decide
  have cv := conv1
  have cvd := conv1d
  go_enter Tryd.func7, Tryd.ntmps7
  go_wp2_with (first | (go_at_call 10; refine (Check_calls ⟨a, 0, 0, 0⟩ _).mono ?_; rintro e w1 ⟨rfl, hb⟩; rw [hh.out]; obtain ⟨hcc, hff⟩ := bcell hb; have hB1 : Below w.heap.size w w1 := bt (by go_grown) hb; have hz1 : w.heap.size < w1.heap.size := (by have := hb.size; simp at this; omega); clear hb) | (go_at_call 29; refine (letter_calls _ _).mono ?_; rintro e w2 ⟨rfl, rfl⟩) | (go_at_call 30; refine (itoa_small _ (by omega) (by omega) _).mono ?_; rintro e w3 ⟨rfl, rfl⟩))
  all_goals (go_ret2; refine ⟨?_, by go_grown⟩; exact ret_str (ba_eq (by simp at hl; simp [kb, kbL, show a ≠ 1 by omega, show a ≠ 2 by omega, show a ≠ 4 by omega, show a ≠ 5 by omega, show a ≠ 3 by omega, hl, *])))

set_option maxRecDepth 100000 in
set_option maxHeartbeats 4000000 in
theorem Write_num0 (a c : Int) (kp : Bool) (w : World) (hac : (12 ≤ a ∧ a ≤ 14 ∧ c = 0) ∨ (a = 15 ∧ 1 ≤ c ∧ c ≤ 12)) : Calls Tryd.prog 7 #[.agg #[.int .i64 a, .int .i32 0, .int .i64 c, .int .i64 0], .bool kp] w (WPost w (kb a 0 c 0 kp)) := by
  have hh : Hid (chk ⟨a, 0, c, 0⟩ = true) := by
    apply Lib.hid
    simp [chk, show a ≠ 1 by omega, show ¬ (a = 2 ∨ a = 4) by omega, show a ≠ 3 by omega, show a ≠ 5 by omega]
    rcases hac with ⟨_, _, rfl⟩ | ⟨rfl, _, _⟩
    · simp [show a ≠ 15 by omega]; omega
    · simp; omega
  have hl : (letterF a != 0) = false := by simp [letterF, show a ≠ 6 by omega, show a ≠ 7 by omega, show a ≠ 8 by omega, show a ≠ 9 by omega, show a ≠ 10 by omega, show a ≠ 11 by omega]
  have hn := num_bd a c hac
  obtain ⟨hn0, hn1⟩ := hn
  have hsz := dig2 (numberF a c) hn0 hn1
  have hsz1 : ¬ 9223372036854775807 < 2 + (Lib.decDigits (numberF a c).toNat).length := by omega
  have hsz2 : ¬ 9223372036854775807 < 2 + (Lib.decDigits (numberF a c).toNat).length + 1 := by omega
  have hca : a = 15 → 0 ≤ c ∧ c ≤ 12 := by omega
  have ha1 : ¬ a = 1 := by omega
  have ha2 : ¬ a = 2 := by omega
  have ha3 : ¬ a = 3 := by omega
  have ha4 : ¬ a = 4 := by omega
  have ha5 : ¬ a = 5 := by omega
  have HC := Lib.hid hca
  clear hca hsz
  have HA := Lib.hid hac
  clear hac
  go_enter Tryd.func7, Tryd.ntmps7
  go_wp2_with (first | (go_at_call 10; refine (Check_calls ⟨a, 0, c, 0⟩ _).mono ?_; rintro e w1 ⟨rfl, hb⟩; rw [hh.out]; obtain ⟨hcc, hff⟩ := bcell hb; have hB1 : Below w.heap.size w w1 := bt (by go_grown) hb; have hz1 : w.heap.size < w1.heap.size := (by have := hb.size; simp at this; omega); clear hb) | (go_at_call 29; refine (letter_calls _ _).mono ?_; rintro e w2 ⟨rfl, rfl⟩) | (go_at_call 31; refine (number_calls a 0 c _ _ HC.out).mono ?_; rintro e w4 ⟨rfl, hb4⟩; obtain ⟨hcc4, hff4⟩ := bcell hb4; have hB4 : Below w.heap.size w w4 := bt (by go_grown) hb4; have hz4 : w.heap.size < w4.heap.size := (by have := hb4.size; omega); clear hb4) | (go_at_call 30; refine (itoa_small _ hn0 hn1 _).mono ?_; rintro e w3 ⟨rfl, rfl⟩))
  all_goals (go_ret2; refine ⟨?_, by go_grown⟩; exact ret_str (ba_eq (by simp at hl; simp [kb, kbL, ha1, ha2, ha3, ha4, ha5, hl])))
set_option maxRecDepth 100000 in
set_option maxHeartbeats 4000000 in
theorem Write_num1 (a c d : Int) (kp : Bool) (w : World) (h2 : 1 ≤ d) (h3 : d ≤ 7) (hac : (12 ≤ a ∧ a ≤ 14 ∧ c = 0) ∨ (a = 15 ∧ 1 ≤ c ∧ c ≤ 12)) : Calls Tryd.prog 7 #[.agg #[.int .i64 a, .int .i32 0, .int .i64 c, .int .i64 d], .bool kp] w (WPost w (kb a 0 c d kp)) := by
  have hh : Hid (chk ⟨a, 0, c, d⟩ = true) := by
    apply Lib.hid
    simp [chk, show a ≠ 1 by omega, show ¬ (a = 2 ∨ a = 4) by omega, show a ≠ 3 by omega, show a ≠ 5 by omega]
    rcases hac with ⟨_, _, rfl⟩ | ⟨rfl, _, _⟩
    · simp [show a ≠ 15 by omega]; omega
    · simp; omega
  have hl : (letterF a != 0) = false := by simp [letterF, show a ≠ 6 by omega, show a ≠ 7 by omega, show a ≠ 8 by omega, show a ≠ 9 by omega, show a ≠ 10 by omega, show a ≠ 11 by omega]
  have hn := num_bd a c hac
  obtain ⟨hn0, hn1⟩ := hn
  have hsz := dig2 (numberF a c) hn0 hn1
  have hsz1 : ¬ 9223372036854775807 < 2 + (Lib.decDigits (numberF a c).toNat).length := by omega
  have hsz3 : ¬ 9223372036854775807 < 2 + (Lib.decDigits (numberF a c).toNat).length + 2 := by omega
  have hsz4 : ¬ 9223372036854775807 < 2 + (Lib.decDigits (numberF a c).toNat).length + 2 + 1 := by omega
  have hd0 : d ≠ 0 := by omega
  have hsz2 : ¬ 9223372036854775807 < 2 + (Lib.decDigits (numberF a c).toNat).length + 1 := by omega
  have hca : a = 15 → 0 ≤ c ∧ c ≤ 12 := by omega
  have ha1 : ¬ a = 1 := by omega
  have ha2 : ¬ a = 2 := by omega
  have ha3 : ¬ a = 3 := by omega
  have ha4 : ¬ a = 4 := by omega
  have ha5 : ¬ a = 5 := by omega
  have HC := Lib.hid hca
  clear hca hsz
  have HA := Lib.hid hac
  clear hac
  go_enter Tryd.func7, Tryd.ntmps7
  go_wp2_with (first | (go_at_call 10; refine (Check_calls ⟨a, 0, c, d⟩ _).mono ?_; rintro e w1 ⟨rfl, hb⟩; rw [hh.out]; obtain ⟨hcc, hff⟩ := bcell hb; have hB1 : Below w.heap.size w w1 := bt (by go_grown) hb; have hz1 : w.heap.size < w1.heap.size := (by have := hb.size; simp at this; omega); clear hb) | (go_at_call 29; refine (letter_calls _ _).mono ?_; rintro e w2 ⟨rfl, rfl⟩) | (go_at_call 31; refine (number_calls a 0 c _ _ HC.out).mono ?_; rintro e w4 ⟨rfl, hb4⟩; obtain ⟨hcc4, hff4⟩ := bcell hb4; have hB4 : Below w.heap.size w w4 := bt (by go_grown) hb4; have hz4 : w.heap.size < w4.heap.size := (by have := hb4.size; omega); clear hb4) | (go_at_call 30; first | (refine (itoa_small (numberF a c) hn0 hn1 _).mono ?_; rintro e w3 ⟨rfl, rfl⟩) | (refine (itoa1 _ (by omega) (by omega) _).mono ?_; rintro e w5 ⟨rfl, rfl⟩)))
  all_goals (go_ret2; refine ⟨?_, by go_grown⟩; exact ret_str (ba_eq (by simp at hl; simp [kb, kbL, ha1, ha2, ha3, ha4, ha5, hl, hd0])))
end Go.Proofs.YtampklajoikbiaaDoor
