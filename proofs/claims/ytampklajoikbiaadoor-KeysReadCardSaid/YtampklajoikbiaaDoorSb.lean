/- The closed fact 'struck': what keys.Read makes of one text. -/
import Derived.Test.YtampklajoikbiaaDoorT
import Derived.Test.YtampklajoikbiaaDoorGb
set_option linter.unusedVariables false
set_option linter.unusedSimpArgs false
namespace Go.Proofs.YtampklajoikbiaaDoor
open Go.RowKit Go.Proofs.YtampklajoikbiaaDoorW.PrintWords PKeysRead

theorem dec_q : Lib.decodeGo ⟨#[113, 27]⟩ = (113, 1) := by kernel_rfl
set_option maxRecDepth 100000 in
set_option maxHeartbeats 8000000 in
theorem fullQ (w : World) (hg : Gl w) : Calls Tryd.prog 55 #[.string ⟨#[113, 27]⟩] w fun e w' => e = .returned (.bool true) ∧ Below w.heap.size w w' := by
  have h1 := hg.tabs.1 113 (by decide)
  have h2 : Lib.firstT 113 = 240 := by kernel_rfl
  rw [h2] at h1
  clear h2
  have i0 : ∀ h, (⟨#[113, 27]⟩ : ByteArray)[0]'h = 113 := fun _ => rfl
  go_enter Tryd.func55, Tryd.ntmps55
  go_wp2
  go_ret
  exact ⟨rfl, by go_grown⟩

theorem wid_q : wid 113 = 1 := by decide
set_option maxRecDepth 100000 in
set_option maxHeartbeats 8000000 in
theorem firstQ (w : World) (hg : Gl w) : Calls Tryd.prog 37 #[.string ⟨#[113, 27]⟩, .bool false] w fun e w' => e = .returned (.tuple #[.agg #[.int .i64 1, .int .i32 113, .int .i64 0, .int .i64 0], .int .i64 1]) ∧ Below w.heap.size w w' := by
  have HG := Lib.hid hg
  clear hg
  have i0 : ∀ h, (⟨#[113, 27]⟩ : ByteArray)[0]'h = 113 := fun _ => rfl
  go_enter Tryd.func37, Tryd.ntmps37
  go_wp2_with (first
    | (go_at_call 55; refine (fullQ _ (HG.out.below (by go_grown))).mono ?_; rintro e w1 ⟨rfl, hb⟩; have hB1 : Below w.heap.size w w1 := bt (by go_grown) hb; have hZ1 : Hid (Zero4 w.heap.size w1) := Lib.hid ((Zero4.new w).below hb); clear hb)
    | (go_at_call 49; refine (Next_calls ⟨#[113, 27]⟩ (by decide) _ (HG.out.below hB1)).mono ?_; rw [dec_q]; rintro e w2 ⟨rfl, hb⟩; have hB2 : Below w.heap.size w w2 := bt (by go_grown) hb; have hZ2 : Hid (Zero4 w.heap.size w2) := Lib.hid (hZ1.out.below hb); clear hb)
    | (go_at_call 36; refine (Width_calls 113 _).mono ?_; rw [wid_q]; rintro e w3 ⟨rfl, hb⟩; have hB3 : Below w.heap.size w w3 := bt (by go_grown) hb; have hZ3 : Hid (Zero4 w.heap.size w3) := Lib.hid (hZ2.out.below hb); clear hb; have c0 := hZ3.out.c0; have c1 := hZ3.out.c1; have c2 := hZ3.out.c2; have c3 := hZ3.out.c3; have z0 := hZ3.out.fz 0; have z1 := hZ3.out.fz 1; have z2 := hZ3.out.fz 2; have z3 := hZ3.out.fz 3))
  exact bodyPost_ret (res_set rfl _ _ w.heap.size ⟨1, 113, 0, 0⟩ _ rfl rfl hZ3.out) rfl ⟨rfl, by go_grown⟩
set_option maxRecDepth 100000 in
set_option maxHeartbeats 8000000 in
theorem firstE (w : World) : Calls Tryd.prog 37 #[.string ⟨#[27]⟩, .bool false] w fun e w' => e = .returned (.tuple #[.agg #[.int .i64 0, .int .i32 0, .int .i64 0, .int .i64 0], .int .i64 0]) ∧ Below w.heap.size w w' := by
  have i0 : ∀ h, (⟨#[27]⟩ : ByteArray)[0]'h = 27 := fun _ => rfl
  go_enter Tryd.func37, Tryd.ntmps37
  go_wp2
  first
    | exact bodyPost_ret (res_set rfl _ _ w.heap.size ⟨0, 0, 0, 0⟩ _ rfl rfl (Zero4.new w)) rfl ⟨rfl, by go_grown⟩
    | exact bodyPost_ret (res_zero rfl _ _ w.heap.size _ rfl rfl (Zero4.new w)) rfl ⟨rfl, by go_grown⟩
end Go.Proofs.YtampklajoikbiaaDoor
