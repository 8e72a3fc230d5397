/- Results that are keys: read behind the stores. -/
import Derived.Test.YtampklajoikbiaaDoorG
set_option linter.unusedVariables false
set_option linter.unusedSimpArgs false
namespace Go.Proofs.YtampklajoikbiaaDoor
open Go.RowKit Go.Proofs.YtampklajoikbiaaDoorW.PrintWords PKeysRead

theorem Zero4.far {g : Nat} {W : World} (h : Zero4 g W) {p : Addr} (hp : g ≠ p.block) (v : Value) : Zero4 g (W.setCell p v) := (Below.heap_setCell W p v g hp).trans h
theorem Zero4.drew {g : Nat} {W : World} (h : Zero4 g W) : Zero4 g W.drew := h
theorem Zero4.drewN {g : Nat} {W : World} (h : Zero4 g W) (n : Nat) : Zero4 g (W.drewN n) := h
theorem res_set {fn : Func} {t u : Tmp} (h : fn.results = #[.cell t 23, .tmp u]) (tmps : Array Value) (W : World) (g : Nat) (k : Key) (x : Value) (ht : tmps.getD t undef = .pointer (some ⟨g, 0, none⟩)) (hu : tmps.getD u undef = x) (hZ : Zero4 g W) :
    (results fn tmps).run Tryd.prog ((((W.setCell ⟨g, 0, none⟩ (.int .i64 k.f0)).setCell ⟨g, 1, none⟩ (.int .i32 k.f1)).setCell ⟨g, 2, none⟩ (.int .i64 k.f2)).setCell ⟨g, 3, none⟩ (.int .i64 k.f3)) = .ok (.tuple #[kv k, x]) ((((W.setCell ⟨g, 0, none⟩ (.int .i64 k.f0)).setCell ⟨g, 1, none⟩ (.int .i32 k.f1)).setCell ⟨g, 2, none⟩ (.int .i64 k.f2)).setCell ⟨g, 3, none⟩ (.int .i64 k.f3)) := by
  obtain ⟨f0, f1, f2, f3⟩ := set4 (W := W) (g := g) (a := .int .i64 k.f0) (b := .int .i32 k.f1) (c := .int .i64 k.f2) (d := .int .i64 k.f3) hZ.c0 hZ.c1 hZ.c2 hZ.c3
  exact res_key h tmps _ g k x ht hu f0 f1 f2 f3
/-- The result was laid, and nothing stored. -/
theorem res_zero {fn : Func} {t u : Tmp} (h : fn.results = #[.cell t 23, .tmp u]) (tmps : Array Value) (W : World) (g : Nat) (x : Value) (ht : tmps.getD t undef = .pointer (some ⟨g, 0, none⟩)) (hu : tmps.getD u undef = x) (hZ : Zero4 g W) :
    (results fn tmps).run Tryd.prog W = .ok (.tuple #[kv ⟨0, 0, 0, 0⟩, x]) W := res_key h tmps W g ⟨0, 0, 0, 0⟩ x ht hu hZ.c0 hZ.c1 hZ.c2 hZ.c3
end Go.Proofs.YtampklajoikbiaaDoor
