/- The law's walk. -/
import Derived.Test.YtgjphefncadopaaDoorSc
set_option linter.unusedVariables false
set_option linter.unusedSimpArgs false
namespace Go.Proofs.YtgjphefncadopaaDoor
open Go.RowKit Go.Proofs.YtgjphefncadopaaDoorW.PrintWords PKeysRead
/-- The block of a key that came in. -/
def KB (g : Nat) (a b c d : Int) (W : World) : Prop := W.heap[g]? = some (.cells #[.int .i64 a, .int .i32 b, .int .i64 c, .int .i64 d] 23 (0, 0))
theorem KB.new (a b c d : Int) (w : World) : KB w.heap.size a b c d (w.alloc (.cells #[.int .i64 a, .int .i32 b, .int .i64 c, .int .i64 d] 23)) := heap_alloc_new w _
theorem KB.below {g : Nat} {a b c d : Int} {W W1 : World} (h : KB g a b c d W) (hb : Below W.heap.size W W1) : KB g a b c d W1 := (hb.block g (Array.getElem?_eq_some_iff.1 h).1).trans h
theorem KB.cells {g : Nat} {a b c d : Int} {W : World} (h : KB g a b c d W) : W.cell? ⟨g, 0, none⟩ = some (.int .i64 a) ∧ W.cell? ⟨g, 1, none⟩ = some (.int .i32 b) ∧ W.cell? ⟨g, 2, none⟩ = some (.int .i64 c) ∧ W.cell? ⟨g, 3, none⟩ = some (.int .i64 d) :=
  ⟨cell_of_row W g 0 _ _ _ h, cell_of_row W g 1 _ _ _ h, cell_of_row W g 2 _ _ _ h, cell_of_row W g 3 _ _ _ h⟩
def LPost (w : World) (e : Ending) (w' : World) : Prop := e = .returned (.bool true) ∧ Below w.heap.size w w'
set_option maxRecDepth 100000 in
set_option maxHeartbeats 8000000 in
theorem write_yes (a b c d : Int) (kp : Bool) (w : World) (hg : Gl w) (h : chk ⟨a, b, c, d⟩ = true) : Calls Tryd.prog 3 #[.agg #[.int .i64 a, .int .i32 b, .int .i64 c, .int .i64 d], .bool kp] w (LPost w) := by
  have HG := Lib.hid hg
  have HH := Lib.hid h
  clear hg h
  generalize hs : kb a b c d kp = s
  have HS := Lib.hid hs
  clear hs
  go_enter Tryd.func3, Tryd.ntmps3
  go_wp2_with (first
    | (go_at_call 7; refine (Write_ok a b c d kp _ HH.out).mono ?_; rw [HS.out]; rintro e w1 ⟨rfl, hb⟩; have hB1 : Below w.heap.size w w1 := bt (by go_grown) hb; have hK1 := KB.below (KB.new a b c d w) hb; (obtain ⟨k0, k1, k2, k3⟩ := hK1.cells); have hK1' := Lib.hid hK1; clear hb hK1)
    | (go_at_call 8; refine (IsKey_ok a b c d _).mono ?_; rw [HH.out]; rintro e w2 ⟨rfl, hb⟩; have hB2 : Below w.heap.size w w2 := bt hB1 hb; have hK2 := KB.below hK1'.out hb; clear k0 k1 k2 k3; (obtain ⟨k0, k1, k2, k3⟩ := hK2.cells); have hK2' := Lib.hid hK2; clear hb hK2)
    | (go_at_call 9; refine (struck_calls _ (HG.out.below hB2)).mono ?_; rintro e w3 ⟨rfl, hb⟩; have hB3 : Below w.heap.size w w3 := bt hB2 hb; have hK3 := KB.below hK2'.out hb; clear k0 k1 k2 k3; (obtain ⟨k0, k1, k2, k3⟩ := hK3.cells); have hK3' := Lib.hid hK3; clear hb hK3)
    | (go_at_call 10; refine (Check_calls ⟨a, b, c, d⟩ _).mono ?_; rw [HH.out]; rintro e w4 ⟨rfl, hb⟩; have hB4 : Below w.heap.size w w4 := bt hB3 hb; have hK4 := KB.below hK3'.out hb; clear k0 k1 k2 k3; (obtain ⟨k0, k1, k2, k3⟩ := hK4.cells); clear hb hK4)
    | (go_at_call 11; refine (KeyBytes_ok a b c d kp _ HH.out).mono ?_; rw [HS.out]; rintro e w5 ⟨rfl, hb⟩; have hB5 : Below w.heap.size w w5 := bt hB4 hb; clear k0 k1 k2 k3; clear hb))
  all_goals (go_ret; exact ⟨by simp, by first | exact hB5 | go_grown⟩)
set_option maxRecDepth 100000 in
set_option maxHeartbeats 8000000 in
theorem write_no (a b c d : Int) (kp : Bool) (w : World) (hg : Gl w) (h : chk ⟨a, b, c, d⟩ = false) : Calls Tryd.prog 3 #[.agg #[.int .i64 a, .int .i32 b, .int .i64 c, .int .i64 d], .bool kp] w (LPost w) := by
  have HG := Lib.hid hg
  have HH := Lib.hid h
  clear hg h
  go_enter Tryd.func3, Tryd.ntmps3
  go_wp2_with (first
    | (go_at_call 7; refine (Write_bad a b c d kp _ HH.out).mono ?_; rintro e w1 ⟨rfl, hb⟩; have hB1 : Below w.heap.size w w1 := bt (by go_grown) hb; have hK1 := KB.below (KB.new a b c d w) hb; (obtain ⟨k0, k1, k2, k3⟩ := hK1.cells); have hK1' := Lib.hid hK1; clear hb hK1)
    | (go_at_call 8; refine (IsKey_ok a b c d _).mono ?_; rw [HH.out]; rintro e w2 ⟨rfl, hb⟩; have hB2 : Below w.heap.size w w2 := bt hB1 hb; have hK2 := KB.below hK1'.out hb; clear k0 k1 k2 k3; (obtain ⟨k0, k1, k2, k3⟩ := hK2.cells); have hK2' := Lib.hid hK2; clear hb hK2)
    | (go_at_call 9; refine (struck_calls _ (HG.out.below hB2)).mono ?_; rintro e w3 ⟨rfl, hb⟩; have hB3 : Below w.heap.size w w3 := bt hB2 hb; have hK3 := KB.below hK2'.out hb; clear k0 k1 k2 k3; (obtain ⟨k0, k1, k2, k3⟩ := hK3.cells); have hK3' := Lib.hid hK3; clear hb hK3)
    | (go_at_call 10; refine (Check_calls ⟨a, b, c, d⟩ _).mono ?_; rw [HH.out]; rintro e w4 ⟨rfl, hb⟩; have hB4 : Below w.heap.size w w4 := bt hB3 hb; clear k0 k1 k2 k3; clear hb))
  all_goals (go_ret; exact ⟨by simp, by first | exact hB4 | go_grown⟩)
end Go.Proofs.YtgjphefncadopaaDoor
