/- trellisref.KeyBytes of keys that can be told: the bytes that keys.Write gives. -/
import Derived.Test.YtgjphefncadopaaDoorKa
import Derived.Test.YtgjphefncadopaaDoorMi
import Derived.Deep.QuietTactic
import Derived.BigQuiet
set_option linter.unusedVariables false
set_option linter.unusedSimpArgs false
namespace Go.Proofs.YtgjphefncadopaaDoor
open Go.RowKit Go.Proofs.YtgjphefncadopaaDoorW.PrintWords PKeysRead

def BPost (w : World) (s : ByteArray) (e : Ending) (w' : World) : Prop := e = .returned (.string s) ∧ Below w.heap.size w w'
def arrB (d : Int) (kp : Bool) (L : UInt8) : ByteArray := if 0 < d then ⟨#[27, 91, 49, 59, UInt8.ofNat (48 + (d + 1).toNat), L]⟩ else if kp then ⟨#[27, 79, L]⟩ else ⟨#[27, 91, L]⟩
theorem ret_s {s s' : ByteArray} (h : s = s') : Ending.returned (.string s) = .returned (.string s') := by rw [h]

set_option maxRecDepth 100000 in
set_option maxHeartbeats 4000000 in
theorem Bytes_arrow (a b c d : Int) (L : UInt8) (kp : Bool) (w : World) (hs : sq a b c = ⟨#[L]⟩) (hL : ((L.toNat : Int) == 126) = false) (h0 : 0 ≤ d) (h1 : d ≤ 7) : Calls Tryd.prog 11 #[.agg #[.int .i64 a, .int .i32 b, .int .i64 c, .int .i64 d], .bool kp] w (BPost w (arrB d kp L)) := by
  have HS := Lib.hid hs
  clear hs
  have cv := conv1
  have hi0 : ∀ h, (⟨#[L]⟩ : ByteArray)[0]'h = L := fun _ => rfl
  cases kp <;> by_cases hd : 0 < d
  all_goals
    go_enter Tryd.func11, Tryd.ntmps11
    go_wp2_with fail
    go_region_with ((go_at_call 32; refine (sequences_calls _).mono ?_; rintro e w1 ⟨m, rfl, hm, hkm, hb⟩; have hlk := lookup_seq a b c m _ hkm; rw [HS.out] at hlk; obtain ⟨hcc, hff⟩ := bcell hb; have hB1 : Below w.heap.size w w1 := bt (by go_grown) hb; have hz1 : w.heap.size < w1.heap.size := by (have := hb.size; simp at this; omega)))
    all_goals clear hlk hb hm hkm
    all_goals (go_wp2_with (go_at_call 30; refine (itoa1 _ (by omega) (by omega) _).mono ?_; rintro e w3 ⟨rfl, rfl⟩))
  all_goals (go_ret; refine ⟨ret_s (ba_eq ?_), by go_grown⟩; clear hL HS cv hi0; first | (simp [arrB, hd]; done) | (simp only [arrB]; rw [if_neg (by omega)]; simp))

def numB (d : Int) (x : List UInt8) : ByteArray := ⟨([27, 91] ++ x ++ (if 0 < d then [59, UInt8.ofNat (48 + (d + 1).toNat)] else []) ++ [126]).toArray⟩

set_option maxRecDepth 100000 in
set_option maxHeartbeats 4000000 in
theorem Bytes_num2 (a b c d : Int) (x y : UInt8) (kp : Bool) (w : World) (hs : sq a b c = ⟨#[x, y, 126]⟩) (h0 : 0 ≤ d) (h1 : d ≤ 7) : Calls Tryd.prog 11 #[.agg #[.int .i64 a, .int .i32 b, .int .i64 c, .int .i64 d], .bool kp] w (BPost w (numB d [x, y])) := by
  have HS := Lib.hid hs
  clear hs
  have hi0 : ∀ h, (⟨#[x, y, 126]⟩ : ByteArray)[2]'h = 126 := fun _ => rfl
  have hex : (⟨#[x, y, 126]⟩ : ByteArray).extract 0 2 = ⟨#[x, y]⟩ := rfl
  by_cases hd : 0 < d
  all_goals
    go_enter Tryd.func11, Tryd.ntmps11
    go_wp2_with fail
    go_region_with ((go_at_call 32; refine (sequences_calls _).mono ?_; rintro e w1 ⟨m, rfl, hm, hkm, hb⟩; have hlk := lookup_seq a b c m _ hkm; rw [HS.out] at hlk; obtain ⟨hcc, hff⟩ := bcell hb; have hB1 : Below w.heap.size w w1 := bt (by go_grown) hb; have hz1 : w.heap.size < w1.heap.size := by (have := hb.size; simp at this; omega)))
    all_goals clear hlk hb hm hkm
    all_goals (go_wp2_with fail)
  all_goals (try
   (have h8 : 0 ≤ d + 1 := by omega
    have h9 : d + 1 < 10 := by omega
    have hwr : IntKind.i64.wrap (d + 1) = d + 1 := IntWalk.i64_in _ (by omega)
    go_quiet ((go_at_call 30; exact Calls.quiet_of_same ((itoa1 _ h8 h9 _).mono fun _ _ ⟨he, hw⟩ => ⟨he, hw.symm⟩)))
    clear hwr
    go_wp2))
  all_goals (go_ret; refine ⟨ret_s (ba_eq ?_), (by first | exact pw_below_drewN hB1 _ | go_grown)⟩; clear HS hi0; first | (simp [numB, hd]; done) | (simp only [numB]; rw [if_neg (by omega)]; simp))

set_option maxRecDepth 100000 in
set_option maxHeartbeats 4000000 in
theorem Bytes_num1 (a b c d : Int) (x y : UInt8) (kp : Bool) (w : World) (hs : sq a b c = ⟨#[x, 126]⟩) (h0 : 0 ≤ d) (h1 : d ≤ 7) : Calls Tryd.prog 11 #[.agg #[.int .i64 a, .int .i32 b, .int .i64 c, .int .i64 d], .bool kp] w (BPost w (numB d [x])) := by
  have HS := Lib.hid hs
  clear hs
  have hi0 : ∀ h, (⟨#[x, 126]⟩ : ByteArray)[1]'h = 126 := fun _ => rfl
  have hex : (⟨#[x, 126]⟩ : ByteArray).extract 0 1 = ⟨#[x]⟩ := rfl
  by_cases hd : 0 < d
  all_goals
    go_enter Tryd.func11, Tryd.ntmps11
    go_wp2_with fail
    go_region_with ((go_at_call 32; refine (sequences_calls _).mono ?_; rintro e w1 ⟨m, rfl, hm, hkm, hb⟩; have hlk := lookup_seq a b c m _ hkm; rw [HS.out] at hlk; obtain ⟨hcc, hff⟩ := bcell hb; have hB1 : Below w.heap.size w w1 := bt (by go_grown) hb; have hz1 : w.heap.size < w1.heap.size := by (have := hb.size; simp at this; omega)))
    all_goals clear hlk hb hm hkm
    all_goals (go_wp2_with fail)
  all_goals (try
   (have h8 : 0 ≤ d + 1 := by omega
    have h9 : d + 1 < 10 := by omega
    have hwr : IntKind.i64.wrap (d + 1) = d + 1 := IntWalk.i64_in _ (by omega)
    go_quiet ((go_at_call 30; exact Calls.quiet_of_same ((itoa1 _ h8 h9 _).mono fun _ _ ⟨he, hw⟩ => ⟨he, hw.symm⟩)))
    clear hwr
    go_wp2))
  all_goals (go_ret; refine ⟨ret_s (ba_eq ?_), (by first | exact pw_below_drewN hB1 _ | go_grown)⟩; clear HS hi0; first | (simp [numB, hd]; done) | (simp only [numB]; rw [if_neg (by omega)]; simp))

theorem sq_none (a b c : Int) (h : ¬ (b = 0 ∧ ((c = 0 ∧ 6 ≤ a ∧ a ≤ 14) ∨ (a = 15 ∧ 1 ≤ c ∧ c ≤ 12)))) : sq a b c = ⟨#[]⟩ := by
  simp only [sq, seqAll, seqArrows, seqMore, seqFuncs, List.cons_append, List.nil_append, lookS, keq, Bool.and_eq_true, beq_iff_eq]
  rw [if_neg (by omega)]
  rw [if_neg (by omega)]
  rw [if_neg (by omega)]
  rw [if_neg (by omega)]
  rw [if_neg (by omega)]
  rw [if_neg (by omega)]
  rw [if_neg (by omega)]
  rw [if_neg (by omega)]
  rw [if_neg (by omega)]
  rw [if_neg (by omega)]
  rw [if_neg (by omega)]
  rw [if_neg (by omega)]
  rw [if_neg (by omega)]
  rw [if_neg (by omega)]
  rw [if_neg (by omega)]
  rw [if_neg (by omega)]
  rw [if_neg (by omega)]
  rw [if_neg (by omega)]
  rw [if_neg (by omega)]
  rw [if_neg (by omega)]
  rw [if_neg (by omega)]

end Go.Proofs.YtgjphefncadopaaDoor
