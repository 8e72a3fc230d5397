/- Contracts of keys.letter, keys.number and keys.plain: what each returns, old memory unchanged. -/
import Derived.Test.YtampklajoikbiaaDoorPKeysReadx3
import Derived.Handy
set_option linter.unusedVariables false
set_option linter.unusedSimpArgs false
namespace Go.Proofs.YtampklajoikbiaaDoor
open Go.RowKit Go.Proofs.YtampklajoikbiaaDoorW.PrintWords
set_option maxHeartbeats 400000

def letterF (a : Int) : Int := if a = 6 then 65 else if a = 7 then 66 else if a = 8 then 67 else if a = 9 then 68 else if a = 10 then 72 else if a = 11 then 70 else 0

theorem letter_calls (a : Int) (w : World) : Calls Tryd.prog 29 #[.int .i64 a] w fun e w' => e = .returned (.int .u8 (letterF a)) ∧ w = w' := by
  go_enter Tryd.func29, Tryd.ntmps29
  go_wp2
  all_goals (go_ret; refine ⟨?_, rfl⟩; simp_all [letterF])

def funcNo : List Int := [0, 11, 12, 13, 14, 15, 17, 18, 19, 20, 21, 23, 24]
def numberF (kind n : Int) : Int := if kind = 14 then 3 else if kind = 12 then 5 else if kind = 13 then 6 else if kind = 15 then funcNo.getD n.toNat 0 else 0

theorem number_calls (a b c d : Int) (w : World) (hc : a = 15 → 0 ≤ c ∧ c ≤ 12) : Calls Tryd.prog 31 #[.agg #[.int .i64 a, .int .i32 b, .int .i64 c, .int .i64 d]] w fun e w' => e = .returned (.int .i64 (numberF a c)) ∧ Below w.heap.size w w' := by
  by_cases h15 : a = 15
  · obtain ⟨h0, h1⟩ := hc h15
    clear hc
    subst h15
    have hg : ([Value.int IntKind.i64 0, Value.int IntKind.i64 11, Value.int IntKind.i64 12, Value.int IntKind.i64 13,
        Value.int IntKind.i64 14, Value.int IntKind.i64 15, Value.int IntKind.i64 17, Value.int IntKind.i64 18,
        Value.int IntKind.i64 19, Value.int IntKind.i64 20, Value.int IntKind.i64 21, Value.int IntKind.i64 23,
        Value.int IntKind.i64 24] : List Value)[c.toNat]? = some (.int .i64 (numberF 15 c)) := by
      have hcs : c = 0 ∨ c = 1 ∨ c = 2 ∨ c = 3 ∨ c = 4 ∨ c = 5 ∨ c = 6 ∨ c = 7 ∨ c = 8 ∨ c = 9 ∨ c = 10 ∨ c = 11 ∨ c = 12 := by omega
      rcases hcs with rfl | rfl | rfl | rfl | rfl | rfl | rfl | rfl | rfl | rfl | rfl | rfl | rfl <;> rfl
    go_enter Tryd.func31, Tryd.ntmps31
    go_wp2
    go_ret
    exact ⟨rfl, by go_grown⟩
  · clear hc
    go_enter Tryd.func31, Tryd.ntmps31
    go_wp2
    all_goals (go_ret; refine ⟨?_, by go_grown⟩; simp_all [numberF])

def plainF (b : Int) : Int × Int × Int × Int :=
  if b = 9 then (3, 0, 0, 0) else if b = 13 then (2, 0, 0, 0) else if b = 127 ∨ b = 8 then (4, 0, 0, 0) else if b = 0 then (1, 32, 0, 0)
  else if b ≤ 26 then (1, b + 96, 0, 4) else (1, 63, 0, 0)

theorem plain_calls (b : Int) (w : World) (h0 : 0 ≤ b) (h1 : b < 256) : Calls Tryd.prog 54 #[.int .u8 b] w fun e w' =>
    e = .returned (.agg #[.int .i64 (plainF b).1, .int .i32 (plainF b).2.1, .int .i64 (plainF b).2.2.1, .int .i64 (plainF b).2.2.2]) ∧ Below w.heap.size w w' := by
  go_enter Tryd.func54, Tryd.ntmps54
  go_wp2
  all_goals (go_returns; refine ⟨?_, by go_grown⟩)
  all_goals (unfold plainF; simp_all; try first | omega | (rw [if_neg (by omega)]; simp))
end Go.Proofs.YtampklajoikbiaaDoor
