/- The closed fact 'struck': what keys.Read makes of one text. -/
import Derived.Test.YtampklajoikbiaaDoorT
import Derived.Test.YtampklajoikbiaaDoorGb
set_option linter.unusedVariables false
set_option linter.unusedSimpArgs false
namespace Go.Proofs.YtampklajoikbiaaDoor
open Go.RowKit Go.Proofs.YtampklajoikbiaaDoorW.PrintWords PKeysRead

theorem parts15 : partsOf ⟨#[49, 59, 53]⟩ = [⟨#[49]⟩, ⟨#[53]⟩] := by kernel_rfl
theorem atoi5 : Lib.atoiAll (⟨#[53]⟩ : ByteArray).data.toList = .ok 5 := by kernel_rfl
theorem toldA (w : World) (hg : Gl w) : Calls Tryd.prog 73 #[.string ⟨#[49, 59, 53]⟩, .int .u8 65] w fun e w' => e = .returned (.tuple #[.agg #[.int .i64 6, .int .i32 0, .int .i64 0, .int .i64 4], .bool true]) ∧ Below w.heap.size w w' := by
  have h := told_2c1 ⟨#[49, 59, 53]⟩ ⟨#[49]⟩ ⟨#[53]⟩ 65 w hg (by decide) parts15 (by decide) (by decide) 5 atoi5 (by decide) (by decide) (by rw [ByteArray.toList_eq]; rfl) (by decide) (by decide) (by decide)
  have hr : told2 ⟨#[49, 59, 53]⟩ ⟨#[49]⟩ 2 65 (5 - 1) = some ⟨6, 0, 0, 4⟩ := by
    unfold told2
    rw [if_neg (by decide)]
    have hC : condC ⟨#[49, 59, 53]⟩ ⟨#[49]⟩ 2 = true := by rw [condC_2 (by rw [ByteArray.toList_eq]; rfl)]; decide
    rw [hC]; rfl
  rw [hr] at h
  exact h


theorem res_keyB {fn : Func} {t u : Tmp} (h : fn.results = #[.cell t 23, .tmp u]) (tmps : Array Value) {V V' : World} (g : Nat) (k : Key) (x : Value) (ht : tmps.getD t undef = .pointer (some ⟨g, 0, none⟩)) (hu : tmps.getD u undef = x)
    (h0 : V.cell? ⟨g, 0, none⟩ = some (.int .i64 k.f0)) (h1 : V.cell? ⟨g, 1, none⟩ = some (.int .i32 k.f1)) (h2 : V.cell? ⟨g, 2, none⟩ = some (.int .i64 k.f2)) (h3 : V.cell? ⟨g, 3, none⟩ = some (.int .i64 k.f3)) (hb : Below V.heap.size V V') :
    (results fn tmps).run Tryd.prog V' = .ok (.tuple #[kv k, x]) V' := res_key h tmps V' g k x ht hu (pw_cell_below hb h0) (pw_cell_below hb h1) (pw_cell_below hb h2) (pw_cell_below hb h3)
theorem res_setA {fn : Func} {t u : Tmp} (h : fn.results = #[.cell t 23, .tmp u]) (tmps : Array Value) (W : World) (o : Obj) (g : Nat) (k : Key) (x : Value) (ht : tmps.getD t undef = .pointer (some ⟨g, 0, none⟩)) (hu : tmps.getD u undef = x) (hZ : Zero4 g W) :
    (results fn tmps).run Tryd.prog (((((W.setCell ⟨g, 0, none⟩ (.int .i64 k.f0)).setCell ⟨g, 1, none⟩ (.int .i32 k.f1)).setCell ⟨g, 2, none⟩ (.int .i64 k.f2)).setCell ⟨g, 3, none⟩ (.int .i64 k.f3)).alloc o) = .ok (.tuple #[kv k, x]) (((((W.setCell ⟨g, 0, none⟩ (.int .i64 k.f0)).setCell ⟨g, 1, none⟩ (.int .i32 k.f1)).setCell ⟨g, 2, none⟩ (.int .i64 k.f2)).setCell ⟨g, 3, none⟩ (.int .i64 k.f3)).alloc o) := by
  obtain ⟨f0, f1, f2, f3⟩ := set4 (W := W) (g := g) (a := .int .i64 k.f0) (b := .int .i32 k.f1) (c := .int .i64 k.f2) (d := .int .i64 k.f3) hZ.c0 hZ.c1 hZ.c2 hZ.c3
  exact res_keyB h tmps g k x ht hu f0 f1 f2 f3 ((Below.refl _ _).alloc (Nat.le_refl _) o)
theorem far4 {g : Nat} {W : World} (h : Zero4 g W) (q : Nat) (hq : g ≠ q) (a b c d : Value) : Zero4 g ((((W.setCell ⟨q, 0, none⟩ a).setCell ⟨q, 1, none⟩ b).setCell ⟨q, 2, none⟩ c).setCell ⟨q, 3, none⟩ d) :=
  (((h.far (p := ⟨q, 0, none⟩) hq _).far (p := ⟨q, 1, none⟩) hq _).far (p := ⟨q, 2, none⟩) hq _).far (p := ⟨q, 3, none⟩) hq _


theorem endA (w w1 : World) (o : Obj) (tmps : Array Value) (h4 : tmps.getD 4 undef = .pointer (some ⟨w.heap.size, 0, none⟩)) (h5 : tmps.getD 5 undef = .int .i64 6) (hZ : Zero4 w.heap.size w1) (hB : Below w.heap.size w w1) (hz : w.heap.size < w1.heap.size) :
    bodyPost Tryd.prog Tryd.f56 (fun e w' => e = .returned (.tuple #[kv ⟨6, 0, 0, 4⟩, .int .i64 6]) ∧ Below w.heap.size w w') Exit.ret { tmps := tmps, defers := [] }
      (((((w1.setCell ⟨w.heap.size, 0, none⟩ (.int .i64 6)).setCell ⟨w.heap.size, 1, none⟩ (.int .i32 0)).setCell ⟨w.heap.size, 2, none⟩ (.int .i64 0)).setCell ⟨w.heap.size, 3, none⟩ (.int .i64 4)).alloc o) :=
  bodyPost_ret (res_setA rfl tmps w1 o w.heap.size ⟨6, 0, 0, 4⟩ _ h4 h5 hZ) rfl ⟨rfl, by go_grown⟩
theorem endB (w w1 : World) (tmps : Array Value) (h4 : tmps.getD 4 undef = .pointer (some ⟨w.heap.size, 0, none⟩)) (h5 : tmps.getD 5 undef = .int .i64 6) (hZ : Zero4 w.heap.size w1) (hB : Below w.heap.size w w1) (hz : w.heap.size < w1.heap.size) :
    bodyPost Tryd.prog Tryd.f56 (fun e w' => e = .returned (.tuple #[kv ⟨6, 0, 0, 4⟩, .int .i64 6]) ∧ Below w.heap.size w w') Exit.ret { tmps := tmps, defers := [] }
      ((((((((w1.setCell ⟨w.heap.size + 1, 0, none⟩ (.int .i64 6)).setCell ⟨w.heap.size + 1, 1, none⟩ (.int .i32 0)).setCell ⟨w.heap.size + 1, 2, none⟩ (.int .i64 0)).setCell ⟨w.heap.size + 1, 3, none⟩ (.int .i64 4)).setCell ⟨w.heap.size, 0, none⟩ (.int .i64 6)).setCell ⟨w.heap.size, 1, none⟩ (.int .i32 0)).setCell ⟨w.heap.size, 2, none⟩ (.int .i64 0)).setCell ⟨w.heap.size, 3, none⟩ (.int .i64 4)) :=
  bodyPost_ret (res_set rfl tmps _ w.heap.size ⟨6, 0, 0, 4⟩ _ h4 h5 (far4 hZ (w.heap.size + 1) (by omega) _ _ _ _)) rfl ⟨rfl, by go_grown⟩

set_option maxRecDepth 100000 in
set_option maxHeartbeats 8000000 in
theorem seqA (w : World) (hg : Gl w) : Calls Tryd.prog 56 #[.string ⟨#[27, 91, 49, 59, 53, 65, 113, 27]⟩, .bool false] w fun e w' => e = .returned (.tuple #[kv ⟨6, 0, 0, 4⟩, .int .i64 6]) ∧ Below w.heap.size w w' := by
  have HG := Lib.hid hg
  clear hg
  have i1 : ∀ h, (⟨#[27, 91, 49, 59, 53, 65, 113, 27]⟩ : ByteArray)[1]'h = 91 := fun _ => rfl
  have i2 : ∀ h, (⟨#[27, 91, 49, 59, 53, 65, 113, 27]⟩ : ByteArray)[2]'h = 49 := fun _ => rfl
  have i3 : ∀ h, (⟨#[27, 91, 49, 59, 53, 65, 113, 27]⟩ : ByteArray)[3]'h = 59 := fun _ => rfl
  have i4 : ∀ h, (⟨#[27, 91, 49, 59, 53, 65, 113, 27]⟩ : ByteArray)[4]'h = 53 := fun _ => rfl
  have i5 : ∀ h, (⟨#[27, 91, 49, 59, 53, 65, 113, 27]⟩ : ByteArray)[5]'h = 65 := fun _ => rfl
  have hsz : (⟨#[27, 91, 49, 59, 53, 65, 113, 27]⟩ : ByteArray).size = 8 := rfl
  go_enter Tryd.func56, Tryd.ntmps56
  go_wp2_with fail
  go_rounds 5
  have hex : (⟨#[27, 91, 49, 59, 53, 65, 113, 27]⟩ : ByteArray).extract 2 5 = ⟨#[49, 59, 53]⟩ := rfl
  clear i2 i3 i4
  go_region_with ((go_at_call 73; refine (toldA _ (HG.out.below (by go_grown))).mono ?_; rintro e w1 ⟨rfl, hb⟩; obtain ⟨hcc, hff⟩ := bcell hb; have hB1 : Below w.heap.size w w1 := bt (by go_grown) hb; have hz1 : w.heap.size < w1.heap.size := by (have := hb.size; simp at this; omega)))
  all_goals
    (first | (have hZ1 : Hid (Zero4 w.heap.size w1) := Lib.hid (Zero4.below (Zero4.drew (Zero4.new w)) hb)) | (have hZ1 : Hid (Zero4 w.heap.size w1) := Lib.hid (Zero4.below (Zero4.drew (Zero4.alloc (Zero4.new w) _)) hb)))
    clear hb
    go_wp2_with (go_at_call 29; refine (letter_calls 6 _).mono ?_; rintro e w2 ⟨rfl, rfl⟩)
  · exact endA w w1 _ _ rfl rfl hZ1.out hB1 hz1
  · exact endB w w1 _ rfl rfl hZ1.out hB1 hz1
  · exact endB w w1 _ rfl rfl hZ1.out hB1 hz1

set_option maxRecDepth 100000 in
set_option maxHeartbeats 8000000 in
theorem firstA (w : World) (hg : Gl w) : Calls Tryd.prog 37 #[.string ⟨#[27, 91, 49, 59, 53, 65, 113, 27]⟩, .bool false] w fun e w' => e = .returned (.tuple #[.agg #[.int .i64 6, .int .i32 0, .int .i64 0, .int .i64 4], .int .i64 6]) ∧ Below w.heap.size w w' := by
  have HG := Lib.hid hg
  clear hg
  have i0 : ∀ h, (⟨#[27, 91, 49, 59, 53, 65, 113, 27]⟩ : ByteArray)[0]'h = 27 := fun _ => rfl
  have i1 : ∀ h, (⟨#[27, 91, 49, 59, 53, 65, 113, 27]⟩ : ByteArray)[1]'h = 91 := fun _ => rfl
  go_enter Tryd.func37, Tryd.ntmps37
  go_wp2_with (go_at_call 56; refine (seqA _ (HG.out.below (by go_grown))).mono ?_; rintro e w1 ⟨rfl, hb⟩; unfold kv; obtain ⟨hcc, hff⟩ := bcell hb; have hB1 : Below w.heap.size w w1 := bt (by go_grown) hb; have hz1 : w.heap.size < w1.heap.size := (by have := hb.size; simp at this; omega); have hZ1 : Hid (Zero4 w.heap.size w1) := Lib.hid ((Zero4.new w).below hb))
  exact bodyPost_ret (res_set rfl _ _ w.heap.size ⟨6, 0, 0, 4⟩ _ rfl rfl hZ1.out) rfl ⟨rfl, by go_grown⟩

end Go.Proofs.YtampklajoikbiaaDoor
