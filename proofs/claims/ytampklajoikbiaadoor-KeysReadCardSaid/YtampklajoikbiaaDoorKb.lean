/- keys.Write at an arrow with something held. -/
import Derived.Test.YtampklajoikbiaaDoorKa
set_option linter.unusedVariables false
set_option linter.unusedSimpArgs false
namespace Go.Proofs.YtampklajoikbiaaDoor
open Go.RowKit Go.Proofs.YtampklajoikbiaaDoorW.PrintWords PKeysRead

set_option maxRecDepth 100000 in
set_option maxHeartbeats 4000000 in
theorem Write_arrow1 (a d : Int) (kp : Bool) (w : World) (h0 : 6 ≤ a) (h1 : a ≤ 11) (h2 : 1 ≤ d) (h3 : d ≤ 7) : Calls Tryd.prog 7 #[.agg #[.int .i64 a, .int .i32 0, .int .i64 0, .int .i64 d], .bool kp] w (WPost w (kb a 0 0 d kp)) := by
  have hh : Hid (chk ⟨a, 0, 0, d⟩ = true) := by
    apply Lib.hid
    simp [chk, show a ≠ 1 by omega, show a ≠ 15 by omega, show ¬ (a = 2 ∨ a = 4) by omega, show a ≠ 3 by omega, show a ≠ 5 by omega]
    omega
  have hl : (letterF a != 0) = true := by
    have : a = 6 ∨ a = 7 ∨ a = 8 ∨ a = 9 ∨ a = 10 ∨ a = 11 := by omega
    rcases this with rfl | rfl | rfl | rfl | rfl | rfl <;> decide
  have hd0 : d ≠ 0 := by omega
  have cv := conv1
  have cvd := conv1d
  go_enter Tryd.func7, Tryd.ntmps7
  go_wp2_with (first | (go_at_call 10; refine (Check_calls ⟨a, 0, 0, d⟩ _).mono ?_; rintro e w1 ⟨rfl, hb⟩; rw [hh.out]; obtain ⟨hcc, hff⟩ := bcell hb; have hB1 : Below w.heap.size w w1 := bt (by go_grown) hb; have hz1 : w.heap.size < w1.heap.size := (by have := hb.size; simp at this; omega); clear hb) | (go_at_call 29; refine (letter_calls _ _).mono ?_; rintro e w2 ⟨rfl, rfl⟩) | (go_at_call 30; refine (itoa_small _ (by omega) (by omega) _).mono ?_; rintro e w3 ⟨rfl, rfl⟩))
  all_goals (have h8 : 0 ≤ d + 1 := by omega)
  all_goals (have h9 : d + 1 < 10 := by omega)
  all_goals (have hwr : IntKind.i64.wrap (d + 1) = d + 1 := IntWalk.i64_in _ (by omega))
  all_goals (go_region_with (first | (go_at_call 30; refine (itoa1 _ h8 h9 _).mono ?_; rintro e w3 ⟨rfl, rfl⟩)))
  all_goals clear hwr
  all_goals go_wp2
  all_goals (go_ret2; refine ⟨?_, by go_grown⟩; exact ret_str (ba_eq (by simp at hl; simp [kb, kbL, show a ≠ 1 by omega, show a ≠ 2 by omega, show a ≠ 4 by omega, show a ≠ 5 by omega, show a ≠ 3 by omega, hl, hd0])))


end Go.Proofs.YtampklajoikbiaaDoor
