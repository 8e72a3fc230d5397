/- The law KeysRead, walked. -/
import Derived.Test.YtampklajoikbiaaDoorRm
import Derived.Test.YtampklajoikbiaaDoorSc
set_option linter.unusedVariables false
set_option linter.unusedSimpArgs false
namespace Go.Proofs.YtampklajoikbiaaDoor
open Go.RowKit Go.Proofs.YtampklajoikbiaaDoorW.PrintWords PKeysRead

def LPost (w : World) (e : Ending) (w' : World) : Prop := e = .returned (.bool true) ∧ Below w.heap.size w w'
theorem eqK_l0 (xs : List Key) (hl : xs.length ≤ 100000) : ∀ (d i : Nat), xs.length - i = d → i ≤ xs.length → api_Key.l0 (d + 1) xs xs (xs.length : Int) (i : Int) = some true := by
  intro d
  induction d with
  | zero =>
    intro i hi hle
    obtain rfl : i = xs.length := by omega
    unfold api_Key.l0
    simp
  | succ d ih =>
    intro i hi hle
    unfold api_Key.l0
    have hlt : (i : Int) < (xs.length : Int) := by omega
    have hw : wrap64 ((i : Int) + 1) = ((i + 1 : Nat) : Int) := by unfold wrap64; omega
    have := ih (i + 1) (by omega) (by omega)
    simp only [hlt, hw, if_true, Int.natCast_nonneg, beq_self_eq_true, Bool.not_true, Bool.or_false, Bool.false_eq_true, if_false]
    exact this
theorem eqK (xs : List Key) (hl : xs.length ≤ 100000) : api_Key.f (xs.length + 1) xs xs = some true := by
  unfold api_Key.f
  rw [if_pos rfl]
  exact eqK_l0 xs hl xs.length 0 (by omega) (by omega)
theorem readF_len (last : Bool) : ∀ (f : Nat) (b : ByteArray), (readF last f b).1.length ≤ b.size
  | 0, b => by simp [readF]
  | f + 1, b => by
    unfold readF
    split
    · simp
    · split
      · simp
      · rename_i h0 hn
        have hb := firstF_bd (b := b) (last := last) (by omega)
        have ih := readF_len last f (b.extract (firstF b last).2.toNat b.size)
        rw [ByteArray.size_extract] at ih
        show (_ :: _ : List Key).length ≤ _
        rw [List.length_cons]
        omega
theorem readR_len (last : Bool) (b : ByteArray) : (readR last b).1.length ≤ b.size := readF_len last _ b
theorem Read_long (b : ByteArray) (last : Bool) (w : World) (hs : 4000 < b.size) (hs2 : b.size ≤ 9223372036854775807) : Calls Tryd.prog 12 #[.string b, .bool last] w fun e w' => e = .returned (.tuple #[.slice none 0 0, .string ⟨#[]⟩, .int .i64 2]) ∧ w = w' := by
  go_enter Tryd.func12, Tryd.ntmps12
  go_wp2_with fail
  first | go_ret3 | go_returns
  exact ⟨rfl, rfl⟩
def R12 (w : World) (xs : List Key) (rest : ByteArray) (e : Ending) (w' : World) : Prop := ∃ A c, e = .returned (.tuple #[.slice A xs.length c, .string rest, .int .i64 0]) ∧ xs.length ≤ c ∧ Kd.C k23 w' A xs.length xs ∧ Below w.heap.size w w'
def R13 (w : World) (xs : List Key) (rest : ByteArray) (e : Ending) (w' : World) : Prop := ∃ A c, e = .returned (.tuple #[.slice A xs.length c, .string rest]) ∧ xs.length ≤ c ∧ Kd.C k23 w' A xs.length xs ∧ Below w.heap.size w w'
theorem read12 (b : ByteArray) (last : Bool) (w : World) (hg : Gl w) (hs : b.size ≤ 4000) : Calls Tryd.prog 12 #[.string b, .bool last] w (R12 w (readR last b).1 (readR last b).2) :=
  (Read_calls b last w hg hs).mono fun e w' ⟨v, he, hO, hb⟩ => by
    obtain ⟨A, c, h1, h2, h3⟩ := Kd.R_reads hO
    exact ⟨A, c, by rw [he, h1], h2, h3, hb⟩
theorem read13 (b : ByteArray) (last : Bool) (w : World) (hg : Gl w) (htab : Lib.TabIs Tryd.prog w "internal/strconv.uint64pow10" .u64 Lib.pow10Tab) (hs : b.size ≤ 4000) : Calls Tryd.prog 13 #[.string b, .bool last] w (R13 w (readR last b).1 (readR last b).2) :=
  (ReadKeys_calls b last w hg htab hs).mono fun e w' ⟨v, he, hO, hb⟩ => by
    obtain ⟨A, c, h1, h2, h3⟩ := Kd.R_reads hO
    exact ⟨A, c, by rw [he, h1], h2, h3, hb⟩

set_option maxRecDepth 100000 in
set_option maxHeartbeats 8000000 in
theorem read_short (b : ByteArray) (last : Bool) (w : World) (hg : Gl w) (htab : Lib.TabIs Tryd.prog w "internal/strconv.uint64pow10" .u64 Lib.pow10Tab) (hs : b.size ≤ 4000) : Calls Tryd.prog 4 #[.string b, .bool last] w (LPost w) := by
  have HTB : Hid (∀ w', Below w.heap.size w w' → Lib.TabIs Tryd.prog w' "internal/strconv.uint64pow10" .u64 Lib.pow10Tab) := Lib.hid (fun w' hb => Go.Joins.tab_stays pow_at htab hb (Nat.le_refl _))
  have HG := Lib.hid hg
  have h12 : Hid (∀ w, Gl w → Calls Tryd.prog 12 #[.string b, .bool last] w (R12 w (readR last b).1 (readR last b).2)) := Lib.hid (fun w hg => read12 b last w hg hs)
  have h13 : Hid (∀ w, Gl w → Lib.TabIs Tryd.prog w "internal/strconv.uint64pow10" .u64 Lib.pow10Tab → Calls Tryd.prog 13 #[.string b, .bool last] w (R13 w (readR last b).1 (readR last b).2)) := Lib.hid (fun w hg ht => read13 b last w hg ht hs)
  have hE := Lib.hid (eqK (readR last b).1 (by have := readR_len last b; omega))
  clear hg htab
  generalize (readR last b).1 = xs at *
  generalize (readR last b).2 = rest at *
  go_enter Tryd.func4, Tryd.ntmps4
  go_wp2_with (first
    | (go_at_call 12; refine (h12.out _ HG.out).mono ?_; rintro e w1 ⟨A1, n1, rfl, hl1, hC, hB1⟩; have HC1 := Lib.hid hC; have HL1 := Lib.hid hl1; clear hC hl1)
    | (go_at_call 9; refine (struck_calls _ (HG.out.below hB1)).mono ?_; rintro e w2 ⟨rfl, hb⟩; have hB2 : Below w.heap.size w w2 := bt hB1 hb; have HC2 := Lib.hid (Kd.C_below HC1.out hb); clear hb)
    | (go_at_call 13; refine (h13.out _ (HG.out.below hB2) (HTB.out _ hB2)).mono ?_; rintro e w3 ⟨A3, n3, rfl, hl3, hC, hb⟩; have hB3 : Below w.heap.size w w3 := bt hB2 hb; have HC3 := Lib.hid (Kd.C_below HC2.out hb); have HC4 := Lib.hid hC; have HL3 := Lib.hid hl3; clear hb hC hl3)
    | (go_at_call 14; refine (api_Key.calls (xs.length + 1) A1 n1 xs A3 n3 xs true _ HC3.out HL1.out HC4.out HL3.out hE.out).mono ?_; rintro e w5 ⟨rfl, hd⟩; have hB5 : Below w.heap.size w w5 := bt hB3 hd.below; clear hd))
  all_goals (go_ret; exact ⟨by simp, by first | exact hB5 | go_grown⟩)
set_option maxRecDepth 100000 in
set_option maxHeartbeats 8000000 in
theorem read_long (b : ByteArray) (last : Bool) (w : World) (hg : Gl w) (hs : 4000 < b.size) (hs2 : b.size ≤ 9223372036854775807) : Calls Tryd.prog 4 #[.string b, .bool last] w (LPost w) := by
  have HG := Lib.hid hg
  clear hg
  go_enter Tryd.func4, Tryd.ntmps4
  go_wp2_with (first
    | (go_at_call 12; refine (Read_long b last _ hs hs2).mono ?_; rintro e w1 ⟨rfl, rfl⟩; have tok1 : True := trivial)
    | (go_at_call 9; have _t := tok1; refine (struck_calls _ HG.out).mono ?_; rintro e w2 ⟨rfl, hb⟩; have hB2 : Below w.heap.size w w2 := hb; have HG2 : Hid (Gl w2) := Lib.hid (HG.out.below hb); clear tok1 hb _t)
    | (go_at_call 9; refine (struck_calls _ HG2.out).mono ?_; rintro e w3 ⟨rfl, hb⟩; have hB3 : Below w.heap.size w w3 := bt hB2 hb; clear hb))
  all_goals (go_ret; exact ⟨by simp, hB3⟩)
end Go.Proofs.YtampklajoikbiaaDoor
