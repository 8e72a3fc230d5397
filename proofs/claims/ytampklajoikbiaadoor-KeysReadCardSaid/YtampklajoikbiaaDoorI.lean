/- trellisref.IsKey and trellisref.KeyBytes: what they return. -/
import Derived.Test.YtampklajoikbiaaDoorC
import Derived.Deep.RegionWith
set_option linter.unusedVariables false
set_option linter.unusedSimpArgs false
namespace Go.Proofs.YtampklajoikbiaaDoor
open Go.RowKit Go.Proofs.YtampklajoikbiaaDoorW.PrintWords PKeysRead

theorem bcell {W w1 : World} (hb : Below W.heap.size W w1) : (∀ b o, b < W.heap.size → w1.cell? ⟨b, o, none⟩ = W.cell? ⟨b, o, none⟩) ∧ (∀ b o, b < W.heap.size → w1.frozen? ⟨b, o, none⟩ = W.frozen? ⟨b, o, none⟩) :=
  ⟨fun b o h => hb.cell (p := ⟨b, o, none⟩) h, fun b o h => hb.frozen (p := ⟨b, o, none⟩) h⟩

theorem bt {w W w1 : World} (h : Below w.heap.size w W) (k : Below W.heap.size W w1) : Below w.heap.size w w1 := below_then h h.size k

def lookS (k : Key) : List (Key × ByteArray) → ByteArray
  | [] => ⟨#[]⟩
  | (k', s) :: r => if keq k k' then s else lookS k r
theorem lookS_is (k : Key) : ∀ (l : List (Key × ByteArray)) (i : Nat), ((findK k l i).map (·.2)).getD (.string ⟨#[]⟩) = .string (lookS k l)
  | [], i => rfl
  | (k', s) :: r, i => by
    simp only [findK, lookS]
    split
    · rfl
    · exact lookS_is k r (i + 1)
def sq (a b c : Int) : ByteArray := lookS ⟨a, b, c, 0⟩ seqAll
theorem lookup_seq (a b c : Int) (m : Nat) (w : World) (h : KM w m seqAll) :
    (Instr.lookup 65 (.map (some m)) (.agg #[.int .i64 a, .int .i32 b, .int .i64 c, .int .i64 0]) false).run Tryd.prog w = .ok (.string (sq a b c)) w := by
  have := run_lookup_key ⟨a, b, c, 0⟩ seqAll m w h
  rw [lookS_is] at this
  exact this

def isK (a b c d : Int) : Bool :=
  if d < 0 ∨ 7 < d then false
  else if (sq a b c).toList ≠ [] then true
  else if c ≠ 0 ∨ (a ≠ 1 ∧ b ≠ 0) then false
  else if a = 1 then (if d = 0 ∨ d = 2 then decide (0 < wid b) && validR b && (decide (d = 0) || (decide (b ≠ 91) && decide (b ≠ 79)))
      else if d = 4 ∨ d = 6 then decide (97 ≤ b ∧ b ≤ 122) && decide (b ≠ 105 ∧ b ≠ 109 ∧ b ≠ 104) else false)
  else if a = 2 ∨ a = 4 then decide (d = 0 ∨ d = 2)
  else if a = 3 then decide (d = 0 ∨ d = 1)
  else if a = 5 then decide (d = 0)
  else false

theorem him_all : ∀ n : Fin 128, decide (0 ≤ Lib.indexByte [104, 105, 109] (n.val.toUInt8)) = decide (n.val = 104 ∨ n.val = 105 ∨ n.val = 109) := by decide
theorem him_calls (b : Int) (w : World) (h0 : 97 ≤ b) (h1 : b ≤ 122) : Calls Tryd.prog 35 #[.string ⟨#[104, 105, 109]⟩, .int .i32 b] w fun e w' => e = .returned (.bool (decide (b = 104 ∨ b = 105 ∨ b = 109))) ∧ w = w' := by
  refine (Tryd.strings_ContainsRune_ascii _ b _ (by omega) (by omega)).mono fun e w' ⟨he, hw⟩ => ⟨?_, hw.symm⟩
  have h := him_all ⟨b.toNat, by omega⟩
  have e1 : decide (b.toNat = 104 ∨ b.toNat = 105 ∨ b.toNat = 109) = decide (b = 104 ∨ b = 105 ∨ b = 109) := by
    rw [decide_eq_decide]; omega
  rw [he, ← e1, ← h]

set_option maxHeartbeats 2000000 in
theorem IsKey_calls (a b c d : Int) (w : World) : Calls Tryd.prog 8 #[.agg #[.int .i64 a, .int .i32 b, .int .i64 c, .int .i64 d]] w fun e w' => e = .returned (.bool (isK a b c d)) ∧ Below w.heap.size w w' := by
  by_cases hd0 : d < 0
  · have hd0' : decide (d < 0) = true := by simpa using hd0
    go_enter Tryd.func8, Tryd.ntmps8
    go_wp2
    go_ret
    refine ⟨?_, by go_grown⟩
    simp [isK, hd0]
  by_cases hd7 : 7 < d
  · have hd0' : decide (d < 0) = false := by simpa using hd0
    have hd7' : decide (7 < d) = true := by simpa using hd7
    go_enter Tryd.func8, Tryd.ntmps8
    go_wp2
    go_ret
    refine ⟨?_, by go_grown⟩
    simp [isK, hd0, hd7]
  have hd0' : decide (d < 0) = false := by simpa using hd0
  have hd7' : decide (7 < d) = false := by simpa using hd7
  go_enter Tryd.func8, Tryd.ntmps8
  go_wp2_with fail
  go_region_with ((go_at_call 32; refine (sequences_calls _).mono ?_; rintro e w1 ⟨m, rfl, hm, hkm, hb⟩; have hlk := lookup_seq a b c m _ hkm; obtain ⟨hcc, hff⟩ := bcell hb; have hB1 : Below w.heap.size w w1 := bt (by go_grown) hb; have hz1 : w.heap.size < w1.heap.size := by (have := hb.size; simp at this; omega)))
  all_goals clear hlk hb hm hkm
  all_goals (go_wp2_with (first
    | (go_at_call 33; refine (WidthOf_calls b _).mono ?_; rintro e w2 ⟨rfl, hb2⟩; obtain ⟨hcc2, hff2⟩ := bcell hb2; have hB2 : Below w.heap.size w w2 := bt (by go_grown) hb2; have hz2 : w.heap.size < w2.heap.size := (by have := hb2.size; omega); clear hb2)
    | (go_at_call 34; refine (ValidRune_calls b _).mono ?_; rintro e w3 ⟨rfl, hb3⟩; obtain ⟨hcc3, hff3⟩ := bcell hb3; have hB3 : Below w.heap.size w w3 := bt (by go_grown) hb3; clear hb3)
    | (go_at_call 35; refine (him_calls b _ (by omega) (by omega)).mono ?_; rintro e w4 ⟨rfl, rfl⟩)))
  all_goals (go_ret; refine ⟨?_, by go_grown⟩; unfold isK; first | (simp_all; done) | (simp_all; grind) | (go_ways; done ))
end Go.Proofs.YtampklajoikbiaaDoor
