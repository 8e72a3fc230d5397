import Derived.Test.YtampklajoikbiaaDoorT
import Derived.Test.YtampklajoikbiaaDoorVa
import Derived.Deep.DeepCutAuto
import Derived.Deep.CutBlock
import Derived.Deep.LoopGhost
import Derived.Deep.RegionWith
import Derived.Lib.TrimU
import Derived.Lib.FieldsU
import Derived.Test.YtampklajoikbiaaDoorPKeysReadx7
/- What keys.Read and trellisref.ReadKeys compute, in plain words. -/
set_option linter.unusedVariables false
set_option linter.unusedSimpArgs false
namespace Go.Proofs.YtampklajoikbiaaDoor
open Go.RowKit Go.Proofs.YtampklajoikbiaaDoorW.PrintWords PKeysRead

/-- A digit, or a semicolon. -/
def isDS (c : Int) : Bool := (decide (48 ≤ c) && decide (c ≤ 57)) || c == 59
def seqGo (b : ByteArray) : Nat → Nat → Nat
  | 0, i => i
  | f + 1, i => if i < b.size ∧ isDS (byt b i) = true ∧ i < 12 ∧ byt b 1 = 91 then seqGo b f (i + 1) else i
def seqEnd (b : ByteArray) : Nat := seqGo b 11 2
def keyEsc : Key := ⟨5, 0, 0, 0⟩
def key0 : Key := ⟨0, 0, 0, 0⟩
/-- What stands behind the end of the numbers. -/
def seqPick (b : ByteArray) (i : Nat) : Option Key → Key × Int
  | some k => if byt b 1 = 91 ∨ letterF k.f0 ≠ 0 then (k, (i : Int) + 1) else (keyEsc, 1)
  | none => (keyEsc, 1)
def seqF (b : ByteArray) (last : Bool) : Key × Int :=
  if seqEnd b = b.size then (if last = true then (keyEsc, 1) else (key0, 0))
  else seqPick b (seqEnd b) (toldF (b.extract 2 (seqEnd b)) (byt b (seqEnd b)))

def plainK (c : Int) : Key := let p := plainF c; ⟨p.1, p.2.1, p.2.2.1, p.2.2.2⟩
def runeK (r : Int) : Key := ⟨1, if wid r = 0 then 63 else r, 0, 0⟩
/-- The first key of bytes that begin with none of ESC. -/
def firstN (b : ByteArray) (last : Bool) : Key × Int :=
  if byt b 0 < 32 ∨ byt b 0 = 127 then (plainK (byt b 0), 1)
  else if fullF b = false ∧ last = false then (key0, 0)
  else (runeK (Lib.decodeGo b).1, (Lib.decodeGo b).2)
def altK (k : Key) : Key := ⟨k.f0, k.f1, k.f2, if k.f3 = 4 then 6 else 2⟩
def altP (p : Key × Int) : Key × Int := if p.2 = 0 then (key0, 0) else (altK p.1, p.2 + 1)
def firstF (b : ByteArray) (last : Bool) : Key × Int :=
  if byt b 0 ≠ 27 then firstN b last
  else if b.size = 1 then (if last = true then (keyEsc, 1) else (key0, 0))
  else if byt b 1 = 91 ∨ byt b 1 = 79 then seqF b last
  else if byt b 1 = 27 ∨ byt b 1 = 9 then (keyEsc, 1)
  else altP (firstN (b.extract 1 b.size) last)
def FPost (r : Key × Int) (w : World) (e : Ending) (w' : World) : Prop := e = .returned (.tuple #[kv r.1, .int .i64 r.2]) ∧ Below w.heap.size w w'

/-- All keys, and what is left. -/
def readF (last : Bool) : Nat → ByteArray → List Key × ByteArray
  | 0, b => ([], b)
  | f + 1, b => if b.size = 0 then ([], b) else if (firstF b last).2 = 0 then ([], b)
    else (let r := readF last f (b.extract (firstF b last).2.toNat b.size); ((firstF b last).1 :: r.1, r.2))
end Go.Proofs.YtampklajoikbiaaDoor

/- keys.sequence: where its numbers end. -/
set_option linter.unusedVariables false
set_option linter.unusedSimpArgs false
namespace Go.Proofs.YtampklajoikbiaaDoor
open Go.RowKit Go.Proofs.YtampklajoikbiaaDoorW.PrintWords PKeysRead

theorem isDS_iff (c : Int) : isDS c = true ↔ (48 ≤ c ∧ c ≤ 57) ∨ c = 59 := by simp [isDS]
theorem seq_step {b : ByteArray} {k : Nat} (hk : k ≤ 12) (h : k < b.size ∧ isDS (byt b k) = true ∧ k < 12 ∧ byt b 1 = 91) : seqGo b (13 - k) k = seqGo b (13 - (k + 1)) (k + 1) := by
  obtain ⟨m, hm⟩ : ∃ m, 13 - k = m + 1 := ⟨12 - k, by omega⟩
  rw [hm, seqGo, if_pos h, show 13 - (k + 1) = m by omega]
theorem seq_stop {b : ByteArray} {k : Nat} (hk : k ≤ 12) (h : ¬ (k < b.size ∧ isDS (byt b k) = true ∧ k < 12 ∧ byt b 1 = 91)) : seqGo b (13 - k) k = k := by
  obtain ⟨m, hm⟩ : ∃ m, 13 - k = m + 1 := ⟨12 - k, by omega⟩
  rw [hm, seqGo, if_neg h]
def seqRel (b : ByteArray) (i : Value) : Prop := ∃ k : Nat, 2 ≤ k ∧ k ≤ 12 ∧ k ≤ b.size ∧ i = .int .i64 k ∧ seqGo b 11 2 = seqGo b (13 - k) k
theorem seqRel_next {b : ByteArray} {k : Nat} (h2 : 2 ≤ k) (hk : k ≤ 12) (h : k < b.size ∧ isDS (byt b k) = true ∧ k < 12 ∧ byt b 1 = 91) (hs : Hid (seqGo b 11 2 = seqGo b (13 - k) k)) : seqRel b (.int .i64 ((k : Int) + 1)) :=
  ⟨k + 1, by omega, by omega, by omega, by simp, by rw [hs.out, seq_step hk h]⟩
theorem seqRel_end {b : ByteArray} {k : Nat} (h2 : 2 ≤ k) (hk : k ≤ 12) (h : ¬ (k < b.size ∧ isDS (byt b k) = true ∧ k < 12 ∧ byt b 1 = 91)) (hs : Hid (seqGo b 11 2 = seqGo b (13 - k) k)) : Value.int .i64 (k : Int) = .int .i64 (seqEnd b : Int) := by
  unfold seqEnd
  rw [hs.out, seq_stop hk h]

theorem seqGo_bd (b : ByteArray) : ∀ (f i : Nat), i ≤ b.size → i ≤ 12 → i ≤ seqGo b f i ∧ seqGo b f i ≤ 12 ∧ seqGo b f i ≤ b.size
  | 0, i, h1, h2 => ⟨Nat.le_refl _, h2, h1⟩
  | f + 1, i, h1, h2 => by
    unfold seqGo
    split
    · rename_i h
      have := seqGo_bd b f (i + 1) (by omega) (by omega)
      omega
    · exact ⟨Nat.le_refl _, h2, h1⟩
theorem seqEnd_bd {b : ByteArray} (h : 2 ≤ b.size) : 2 ≤ seqEnd b ∧ seqEnd b ≤ 12 ∧ seqEnd b ≤ b.size := seqGo_bd b 11 2 h (by omega)

theorem seqPick_yes {b : ByteArray} {i : Nat} {k : Key} (h : byt b 1 = 91 ∨ letterF k.f0 ≠ 0) : seqPick b i (some k) = (k, (i : Int) + 1) := if_pos h
theorem seqPick_no {b : ByteArray} {i : Nat} {k : Key} (h : ¬ (byt b 1 = 91 ∨ letterF k.f0 ≠ 0)) : seqPick b i (some k) = (keyEsc, 1) := if_neg h
/-- told in one form: a key and whether it is one. -/
theorem told_ko (s : ByteArray) (last : Int) (hs : s.size ≤ 1000000) : ∃ a b c d : Int, ∃ ok : Bool, (ok = true → toldF s last = some ⟨a, b, c, d⟩) ∧ (ok = false → toldF s last = none) ∧
    ∀ w : World, Gl w → Calls Tryd.prog 73 #[.string s, .int .u8 last] w fun e w' => e = .returned (.tuple #[.agg #[.int .i64 a, .int .i32 b, .int .i64 c, .int .i64 d], .bool ok]) ∧ Below w.heap.size w w' := by
  cases h : toldF s last with
  | none =>
    refine ⟨0, 0, 0, 0, false, (fun h => by cases h), fun _ => rfl, fun w hg => ?_⟩
    have := told_calls s last w hg hs
    rw [h] at this
    exact this
  | some k =>
    obtain ⟨a, b, c, d⟩ := k
    refine ⟨a, b, c, d, true, fun _ => rfl, (fun h => by cases h), fun w hg => ?_⟩
    have := told_calls s last w hg hs
    rw [h] at this
    exact this

theorem Zero4.new2 (w : World) (o : Obj) : Zero4 (w.heap.size + 1) ((w.alloc o).alloc (.cells #[.int .i64 0, .int .i32 0, .int .i64 0, .int .i64 0] 23)) := by
  have h := Zero4.new (w.alloc o)
  rw [World.size_alloc] at h
  exact h
/-- Block q holds a key. -/
def KQ (q : Nat) (a b c d : Int) (W : World) : Prop := W.heap[q]? = some (.cells #[.int .i64 a, .int .i32 b, .int .i64 c, .int .i64 d] 23 (0, 0))
theorem KQ.cells {g : Nat} {a b c d : Int} {W : World} (h : KQ g a b c d W) : W.cell? ⟨g, 0, none⟩ = some (.int .i64 a) ∧ W.cell? ⟨g, 1, none⟩ = some (.int .i32 b) ∧ W.cell? ⟨g, 2, none⟩ = some (.int .i64 c) ∧ W.cell? ⟨g, 3, none⟩ = some (.int .i64 d) :=
  ⟨cell_of_row W g 0 _ _ _ h, cell_of_row W g 1 _ _ _ h, cell_of_row W g 2 _ _ _ h, cell_of_row W g 3 _ _ _ h⟩
theorem KQ.below {g : Nat} {a b c d : Int} {W W1 : World} (h : KQ g a b c d W) (hb : Below W.heap.size W W1) : KQ g a b c d W1 := (hb.block g (Array.getElem?_eq_some_iff.1 h).1).trans h
theorem KQ.alloc {g : Nat} {a b c d : Int} {W : World} (h : KQ g a b c d W) (o : Obj) : KQ g a b c d (W.alloc o) := (Below.heap_alloc W o g (Array.getElem?_eq_some_iff.1 h).1).trans h
theorem KQ.far {g : Nat} {a b c d : Int} {W : World} (h : KQ g a b c d W) {p : Addr} (hp : g ≠ p.block) (v : Value) : KQ g a b c d (W.setCell p v) := (Below.heap_setCell W p v g hp).trans h
theorem KQ.fz {g : Nat} {a b c d : Int} {W : World} (h : KQ g a b c d W) (i : Nat) : W.frozen? ⟨g, i, none⟩ = false := by
  unfold KQ at h
  simp [World.frozen?, h]
theorem KQ.of_set {g : Nat} {a b c d : Int} {W : World} (h : Zero4 g W) : KQ g a b c d ((((W.setCell ⟨g, 0, none⟩ (.int .i64 a)).setCell ⟨g, 1, none⟩ (.int .i32 b)).setCell ⟨g, 2, none⟩ (.int .i64 c)).setCell ⟨g, 3, none⟩ (.int .i64 d)) := by
  have h0 := blk_set h 0 (.int .i64 a)
  have h1 := blk_set h0 1 (.int .i32 b)
  have h2 := blk_set h1 2 (.int .i64 c)
  have h3 := blk_set h2 3 (.int .i64 d)
  exact h3
/-- What the statement that calls for a key leaves: the key in a block of its own; the result's block as it was. -/
def KeyCut (w : World) (a b c d : Int) (v : Value) (s7 s8 : Value) (wx : World) : Prop := ∃ q, s7 = .pointer (some ⟨q, 0, none⟩) ∧ s8 = v ∧ KQ q a b c d wx ∧ Zero4 w.heap.size wx ∧ Below w.heap.size w wx ∧ q ≠ w.heap.size
theorem keyCutA {w w1 : World} {a b c d : Int} {v : Value} (hZ : Zero4 w.heap.size w1) (hB : Below w.heap.size w w1) :
    KeyCut w a b c d v (.pointer (some ⟨w1.heap.size, 0, none⟩)) v (w1.alloc (.cells #[.int .i64 a, .int .i32 b, .int .i64 c, .int .i64 d] 23)) :=
  ⟨_, rfl, rfl, heap_alloc_new w1 _, hZ.alloc _, hB.alloc hB.size _, fun e => by
    have := (Array.getElem?_eq_some_iff.1 hZ).1
    omega⟩
theorem keyCutB {w w1 : World} {a b c d : Int} {v : Value} {q : Nat} (hZ : Zero4 w.heap.size w1) (hQ : Zero4 q w1) (hB : Below w.heap.size w w1) (hq : w.heap.size < q) :
    KeyCut w a b c d v (.pointer (some ⟨q, 0, none⟩)) v ((((w1.setCell ⟨q, 0, none⟩ (.int .i64 a)).setCell ⟨q, 1, none⟩ (.int .i32 b)).setCell ⟨q, 2, none⟩ (.int .i64 c)).setCell ⟨q, 3, none⟩ (.int .i64 d)) :=
  ⟨q, rfl, rfl, KQ.of_set hQ, (((hZ.far (by show _ ≠ q; omega) _).far (by show _ ≠ q; omega) _).far (by show _ ≠ q; omega) _).far (by show _ ≠ q; omega) _,
    (((hB.setCell (by show _ ≤ q; omega) _).setCell (by show _ ≤ q; omega) _).setCell (by show _ ≤ q; omega) _).setCell (by show _ ≤ q; omega) _, by omega⟩

set_option maxRecDepth 100000 in
set_option maxHeartbeats 8000000 in
theorem seq_calls (b : ByteArray) (last : Bool) (w : World) (hg : Gl w) (h2 : 2 ≤ b.size) (hs : b.size ≤ 1000000) :
    Calls Tryd.prog 56 #[.string b, .bool last] w (FPost (seqF b last) w) := by
  have HG := Lib.hid hg
  clear hg
  have hb1 : 1 < b.size := by omega
  have E1 := Lib.hid (byt_at hb1)
  go_enter Tryd.func56, Tryd.ntmps56
  go_upto_block 0 with fail
  go_cut [6] (fun s6 wx => s6 = .int .i64 (seqEnd b) ∧ wx = w.alloc (.cells #[.int .i64 0, .int .i32 0, .int .i64 0, .int .i64 0] 23))
  case first =>
    go_wp2_with fail
    go_loop [6] (seqRel b) (fun i => 13 - (intOf i).toNat)
    case atStart => exact ⟨2, by omega, by omega, by omega, rfl, rfl⟩
    case round =>
      obtain ⟨k, hk2, hk12, hkb, rfl, hrel⟩ := hrel
      have HR := Lib.hid hrel
      clear hrel
      by_cases hlt : k < b.size
      · have EK := Lib.hid (byt_at hlt)
        go_wp2_with fail
        all_goals first
          | (go_round
             case rel => exact seqRel_next hk2 hk12 (by have e := EK.out; have e1 := E1.out; rw [isDS_iff, ← e, ← e1]; (try simp only [beq_iff_eq] at *); omega) HR
             case measure => simp [intOf]; omega)
          | (go_meet
             exact ⟨seqRel_end hk2 hk12 (fun h => by have e := EK.out; have e1 := E1.out; rw [isDS_iff, ← e, ← e1] at h; (try simp only [beq_iff_eq, beq_eq_false_iff_ne, ne_eq] at *); omega) HR, rfl⟩)
      · go_wp2_with fail
        go_meet
        exact ⟨seqRel_end hk2 hk12 (fun h => hlt h.1) HR, rfl⟩
  case rest =>
    obtain ⟨rfl, rfl⟩ := hcut
    obtain ⟨n2, n12, nb⟩ := seqEnd_bd h2
    have hr : seqF b last = (if seqEnd b = b.size then (if last = true then (keyEsc, 1) else (key0, 0)) else seqPick b (seqEnd b) (toldF (b.extract 2 (seqEnd b)) (byt b (seqEnd b)))) := rfl
    generalize seqEnd b = n at *
    by_cases hn : n = b.size
    · rw [if_pos hn] at hr
      subst hn
      cases last with
      | true =>
        have HR := Lib.hid hr
        clear hr
        go_wp2_with fail
        rw [HR.out]
        go_returns
        exact ⟨rfl, by go_grown⟩
      | false =>
        have HR := Lib.hid hr
        clear hr
        go_wp2_with fail
        rw [HR.out]
        go_returns
        exact ⟨rfl, by go_grown⟩
    · rw [if_neg hn] at hr
      have hlt : n < b.size := by omega
      have EN := Lib.hid (byt_at hlt)
      obtain ⟨a, c1, c, d, ok, hT1, hT0, hC⟩ := told_ko (b.extract 2 n) (byt b n) (by rw [ByteArray.size_extract]; omega)
      rw [← EN.out] at hC
      have HC := Lib.hid hC
      have HT1 := Lib.hid hT1
      have HT0 := Lib.hid hT0
      have HR := Lib.hid hr
      clear hC hT1 hT0 hr hn
      go_upto_region 7 with fail
      go_cut [7, 8] (KeyCut w a c1 c d (.bool ok))
      case first =>
        go_region_with ((go_at_call 73; refine (HC.out _ (HG.out.below (by go_grown))).mono ?_; rintro e w1 ⟨rfl, hb⟩; obtain ⟨hcc, hff⟩ := bcell hb; have hB1 : Below w.heap.size w w1 := bt (by go_grown) hb; have hz1 : w.heap.size < w1.heap.size := by (have := hb.size; simp at this; omega)))
        all_goals
          go_wp2_with fail
          go_meet
          first
            | ((with_reducible refine keyCutA ?_ ?_)
               · exact Zero4.below (Zero4.drew (Zero4.new w)) hb
               · exact hB1)
            | ((with_reducible refine keyCutB ?_ ?_ ?_ ?_)
               · exact Zero4.below (Zero4.drew (Zero4.alloc (Zero4.new w) _)) hb
               · exact Zero4.below (Zero4.drew (Zero4.new2 w _)) hb
               · exact hB1
               · omega)
      case rest =>
        obtain ⟨q, rfl, rfl, hK, hZ, hB, hq⟩ := hcut
        obtain ⟨k0, k1, k2, k3⟩ := hK.cells
        have hz : w.heap.size < wc.heap.size := (Array.getElem?_eq_some_iff.1 hZ).1
        have HZ := Lib.hid hZ
        have c0 := hZ.c0
        have c1' := hZ.c1
        have c2' := hZ.c2
        have c3' := hZ.c3
        have z0 := hZ.fz 0
        have z1 := hZ.fz 1
        have z2 := hZ.fz 2
        have z3 := hZ.fz 3
        have HK := Lib.hid hK
        clear hK hZ
        cases ok with
        | false =>
          have hr := HR.out
          rw [HT0.out rfl] at hr
          have HR' := Lib.hid hr
          clear hr
          go_wp2_with fail
          rw [HR'.out]
          exact bodyPost_ret (res_set rfl _ _ w.heap.size ⟨5, 0, 0, 0⟩ _ rfl rfl HZ.out) rfl ⟨rfl, by go_grown⟩
        | true =>
          have hr := HR.out
          rw [HT1.out rfl] at hr
          by_cases h91 : byt b 1 = 91
          · have q1 : (((b[1]'hb1).toNat : Int) == 91) = true := by rw [E1.out, h91]; rfl
            have HR' : Hid (seqF b last = (⟨a, c1, c, d⟩, (n : Int) + 1)) := Lib.hid (by rw [hr]; exact seqPick_yes (.inl h91))
            clear hr h91
            go_wp2_with (go_at_call 29; refine (letter_calls a _).mono ?_; rintro e w2 ⟨rfl, rfl⟩)
            rw [HR'.out]
            exact bodyPost_ret (res_set rfl _ _ w.heap.size ⟨a, c1, c, d⟩ _ rfl rfl HZ.out) rfl ⟨rfl, by go_grown⟩
          · have q1 : (((b[1]'hb1).toNat : Int) == 91) = false := by rw [E1.out]; simpa using h91
            cases hl : (letterF a != 0) with
            | true =>
              have HR' : Hid (seqF b last = (⟨a, c1, c, d⟩, (n : Int) + 1)) := Lib.hid (by rw [hr]; exact seqPick_yes (.inr (by simpa using hl)))
              clear hr h91
              go_wp2_with (go_at_call 29; refine (letter_calls a _).mono ?_; rintro e w2 ⟨rfl, rfl⟩)
              rw [HR'.out]
              exact bodyPost_ret (res_set rfl _ _ w.heap.size ⟨a, c1, c, d⟩ _ rfl rfl HZ.out) rfl ⟨rfl, by go_grown⟩
            | false =>
              have HR' : Hid (seqF b last = (keyEsc, 1)) := Lib.hid (by rw [hr]; exact seqPick_no (by rintro (h | h); exact h91 h; simp at hl; exact h hl))
              clear hr h91
              go_wp2_with (go_at_call 29; refine (letter_calls a _).mono ?_; rintro e w2 ⟨rfl, rfl⟩)
              rw [HR'.out]
              exact bodyPost_ret (res_set rfl _ _ w.heap.size ⟨5, 0, 0, 0⟩ _ rfl rfl HZ.out) rfl ⟨rfl, by go_grown⟩
end Go.Proofs.YtampklajoikbiaaDoor

/- keys.first. -/
set_option linter.unusedVariables false
set_option linter.unusedSimpArgs false
namespace Go.Proofs.YtampklajoikbiaaDoor
open Go.RowKit Go.Proofs.YtampklajoikbiaaDoorW.PrintWords PKeysRead

theorem toList_nonempty {s : ByteArray} (h : 0 < s.size) : s.toList.isEmpty = false := by
  rw [ByteArray.toList_eq]
  cases s with
  | mk d =>
    cases d with
    | mk l => cases l with
      | nil => exact absurd h (by decide)
      | cons x r => rfl

set_option maxRecDepth 100000 in
set_option maxHeartbeats 8000000 in
theorem firstN_calls (b : ByteArray) (last : Bool) (w : World) (hg : Gl w) (h1 : 1 ≤ b.size) (hs : b.size ≤ 1000000) (hne : byt b 0 ≠ 27) :
    Calls Tryd.prog 37 #[.string b, .bool last] w (FPost (firstN b last) w) := by
  have HG := Lib.hid hg
  clear hg
  have hb0 : 0 < b.size := by omega
  have hr0 := byt_lo b 0
  have E0 := Lib.hid (byt_at hb0)
  have q0 : (((b[0]'hb0).toNat : Int) != 27) = true := by rw [E0.out]; simpa using hne
  have q0' : (((b[0]'hb0).toNat : Int) == 27) = false := by rw [E0.out]; simpa using hne
  by_cases hp : byt b 0 < 32 ∨ byt b 0 = 127
  · have HR : Hid (firstN b last = (plainK (byt b 0), 1)) := Lib.hid (if_pos hp)
    have HB : Hid (∀ w, Calls Tryd.prog 54 #[.int .u8 ((b[0]'hb0).toNat : Int)] w fun e w' => e = .returned (.agg #[.int .i64 (plainK (byt b 0)).f0, .int .i32 (plainK (byt b 0)).f1, .int .i64 (plainK (byt b 0)).f2, .int .i64 (plainK (byt b 0)).f3]) ∧ Below w.heap.size w w') :=
      Lib.hid (fun w => by rw [E0.out]; exact plain_calls _ w hr0.1 hr0.2)
    generalize plainK (byt b 0) = k at *
    obtain ⟨a, c1, c, d⟩ := k
    by_cases hlt : byt b 0 < 32
    · have q1 : decide (((b[0]'hb0).toNat : Int) < 32) = true := by rw [E0.out]; simpa using hlt
      clear hp hne hlt hr0
      go_enter Tryd.func37, Tryd.ntmps37
      go_wp2_with (go_at_call 54; refine (HB.out _).mono ?_; rintro e w1 ⟨rfl, hb⟩; have hB1 : Below w.heap.size w w1 := bt (by go_grown) hb; have hZ1 : Hid (Zero4 w.heap.size w1) := Lib.hid ((Zero4.new w).below hb); have hz : w.heap.size < w1.heap.size := (Array.getElem?_eq_some_iff.1 hZ1.out).1; clear hb; have c0 := hZ1.out.c0; have c1' := hZ1.out.c1; have c2 := hZ1.out.c2; have c3 := hZ1.out.c3; have z0 := hZ1.out.fz 0; have z1 := hZ1.out.fz 1; have z2 := hZ1.out.fz 2; have z3 := hZ1.out.fz 3)
      rw [HR.out]
      exact bodyPost_ret (res_set rfl _ _ w.heap.size ⟨a, c1, c, d⟩ _ rfl rfl hZ1.out) rfl ⟨rfl, by go_grown⟩
    · have q1 : decide (((b[0]'hb0).toNat : Int) < 32) = false := by rw [E0.out]; simpa using hlt
      have q2 : (((b[0]'hb0).toNat : Int) == 127) = true := by rw [E0.out]; simp; omega
      clear hp hne hlt hr0
      go_enter Tryd.func37, Tryd.ntmps37
      go_wp2_with (go_at_call 54; refine (HB.out _).mono ?_; rintro e w1 ⟨rfl, hb⟩; have hB1 : Below w.heap.size w w1 := bt (by go_grown) hb; have hZ1 : Hid (Zero4 w.heap.size w1) := Lib.hid ((Zero4.new w).below hb); have hz : w.heap.size < w1.heap.size := (Array.getElem?_eq_some_iff.1 hZ1.out).1; clear hb; have c0 := hZ1.out.c0; have c1' := hZ1.out.c1; have c2 := hZ1.out.c2; have c3 := hZ1.out.c3; have z0 := hZ1.out.fz 0; have z1 := hZ1.out.fz 1; have z2 := hZ1.out.fz 2; have z3 := hZ1.out.fz 3)
      rw [HR.out]
      exact bodyPost_ret (res_set rfl _ _ w.heap.size ⟨a, c1, c, d⟩ _ rfl rfl hZ1.out) rfl ⟨rfl, by go_grown⟩
  · have q1 : decide (((b[0]'hb0).toNat : Int) < 32) = false := by rw [E0.out]; simp; omega
    have q2 : (((b[0]'hb0).toNat : Int) == 127) = false := by rw [E0.out]; simp; omega
    have hr : firstN b last = (if fullF b = false ∧ last = false then (key0, 0) else (runeK ((Lib.decodeGo b).1 : Int), ((Lib.decodeGo b).2 : Int))) := if_neg hp
    have HFC : Hid (∀ w, Gl w → Calls Tryd.prog 55 #[.string b] w (FullPost (fullF b) w)) := Lib.hid (fun w hg => full_calls b hb0 hs w hg)
    obtain ⟨p, hp2⟩ : ∃ p, Lib.decodeGo b = p := ⟨_, rfl⟩
    rw [hp2] at hr
    obtain ⟨r0, n⟩ := p
    obtain ⟨r, hr2⟩ : ∃ r : Int, r = (r0 : Int) := ⟨_, rfl⟩
    have HD := Lib.hid hp2
    rw [← hr2] at hr
    have HR2 := Lib.hid hr2
    clear hp2 hr2 hp hne hr0
    generalize fullF b = f at *
    by_cases hc : f = false ∧ last = false
    · obtain ⟨rfl, rfl⟩ := hc
      have HR : Hid (firstN b false = (key0, 0)) := Lib.hid (hr.trans (if_pos ⟨rfl, rfl⟩))
      clear hr HD HR2
      go_enter Tryd.func37, Tryd.ntmps37
      go_wp2_with (go_at_call 55; refine (HFC.out _ (HG.out.below (by go_grown))).mono ?_; rintro e w1 ⟨rfl, hb⟩; have hB1 : Below w.heap.size w w1 := bt (by go_grown) hb; have hZ1 : Hid (Zero4 w.heap.size w1) := Lib.hid ((Zero4.new w).below hb); have hz1 : w.heap.size < w1.heap.size := (Array.getElem?_eq_some_iff.1 hZ1.out).1; clear hb; have c0 := hZ1.out.c0; have c1' := hZ1.out.c1; have c2 := hZ1.out.c2; have c3 := hZ1.out.c3; have z0 := hZ1.out.fz 0; have z1 := hZ1.out.fz 1; have z2 := hZ1.out.fz 2; have z3 := hZ1.out.fz 3)
      rw [HR.out]
      exact bodyPost_ret (res_set rfl _ _ w.heap.size ⟨0, 0, 0, 0⟩ _ rfl rfl hZ1.out) rfl ⟨rfl, by go_grown⟩
    · have HR : Hid (firstN b last = (runeK r, (n : Int))) := Lib.hid (hr.trans (if_neg hc))
      have HR3 := Lib.hid hr
      clear hr HR3
      by_cases hw : wid r = 0
      · have hk : runeK r = ⟨1, 63, 0, 0⟩ := by unfold runeK; rw [if_pos hw]
        have HK := Lib.hid hk
        have HW := Lib.hid hw
        clear hk hw
        cases f <;> cases last
        · exact absurd ⟨rfl, rfl⟩ hc
        all_goals
          clear hc
          go_enter Tryd.func37, Tryd.ntmps37
          go_wp2_with (first
            | (go_at_call 55; refine (HFC.out _ (HG.out.below (by go_grown))).mono ?_; rintro e w1 ⟨rfl, hb⟩; have hB1 : Below w.heap.size w w1 := bt (by go_grown) hb; have hZ1 : Hid (Zero4 w.heap.size w1) := Lib.hid ((Zero4.new w).below hb); have hz1 : w.heap.size < w1.heap.size := (Array.getElem?_eq_some_iff.1 hZ1.out).1; clear hb)
            | (go_at_call 49; refine (Next_calls b (by omega) _ (HG.out.below hB1)).mono ?_; rw [HD.out]; simp only []; rw [← HR2.out]; rintro e w2 ⟨rfl, hb⟩; have hB2 : Below w.heap.size w w2 := bt hB1 hb; have hZ2 : Hid (Zero4 w.heap.size w2) := Lib.hid (hZ1.out.below hb); have hz2 : w.heap.size < w2.heap.size := (Array.getElem?_eq_some_iff.1 hZ2.out).1; clear hb)
            | (go_at_call 36; refine (Width_calls r _).mono ?_; rw [HW.out]; rintro e w3 ⟨rfl, hb⟩; have hB3 : Below w.heap.size w w3 := bt hB2 hb; have hZ3 : Hid (Zero4 w.heap.size w3) := Lib.hid (hZ2.out.below hb); have hz3 : w.heap.size < w3.heap.size := (Array.getElem?_eq_some_iff.1 hZ3.out).1; clear hb; have c0 := hZ3.out.c0; have c1' := hZ3.out.c1; have c2 := hZ3.out.c2; have c3 := hZ3.out.c3; have z0 := hZ3.out.fz 0; have z1 := hZ3.out.fz 1; have z2 := hZ3.out.fz 2; have z3 := hZ3.out.fz 3))
          rw [HR.out]
          exact bodyPost_ret (res_set rfl _ _ w.heap.size ⟨1, 63, 0, 0⟩ _ rfl rfl hZ3.out) rfl ⟨by rw [HK.out]; rfl, by go_grown⟩
      · have hk : runeK r = ⟨1, r, 0, 0⟩ := by unfold runeK; rw [if_neg hw]
        have HK := Lib.hid hk
        have hw' : (wid r == 0) = false := by simpa using hw
        clear hk hw
        cases f <;> cases last
        · exact absurd ⟨rfl, rfl⟩ hc
        all_goals
          clear hc
          go_enter Tryd.func37, Tryd.ntmps37
          go_wp2_with (first
            | (go_at_call 55; refine (HFC.out _ (HG.out.below (by go_grown))).mono ?_; rintro e w1 ⟨rfl, hb⟩; have hB1 : Below w.heap.size w w1 := bt (by go_grown) hb; have hZ1 : Hid (Zero4 w.heap.size w1) := Lib.hid ((Zero4.new w).below hb); have hz1 : w.heap.size < w1.heap.size := (Array.getElem?_eq_some_iff.1 hZ1.out).1; clear hb)
            | (go_at_call 49; refine (Next_calls b (by omega) _ (HG.out.below hB1)).mono ?_; rw [HD.out]; simp only []; rw [← HR2.out]; rintro e w2 ⟨rfl, hb⟩; have hB2 : Below w.heap.size w w2 := bt hB1 hb; have hZ2 : Hid (Zero4 w.heap.size w2) := Lib.hid (hZ1.out.below hb); have hz2 : w.heap.size < w2.heap.size := (Array.getElem?_eq_some_iff.1 hZ2.out).1; clear hb)
            | (go_at_call 36; refine (Width_calls r _).mono ?_; rintro e w3 ⟨rfl, hb⟩; have hB3 : Below w.heap.size w w3 := bt hB2 hb; have hZ3 : Hid (Zero4 w.heap.size w3) := Lib.hid (hZ2.out.below hb); have hz3 : w.heap.size < w3.heap.size := (Array.getElem?_eq_some_iff.1 hZ3.out).1; clear hb; have c0 := hZ3.out.c0; have c1' := hZ3.out.c1; have c2 := hZ3.out.c2; have c3 := hZ3.out.c3; have z0 := hZ3.out.fz 0; have z1 := hZ3.out.fz 1; have z2 := hZ3.out.fz 2; have z3 := hZ3.out.fz 3))
          rw [HR.out]
          exact bodyPost_ret (res_set rfl _ _ w.heap.size ⟨1, r, 0, 0⟩ _ rfl rfl hZ3.out) rfl ⟨by rw [HK.out]; rfl, by go_grown⟩
end Go.Proofs.YtampklajoikbiaaDoor

/- keys.first, whole. -/
set_option linter.unusedVariables false
set_option linter.unusedSimpArgs false
namespace Go.Proofs.YtampklajoikbiaaDoor
open Go.RowKit Go.Proofs.YtampklajoikbiaaDoorW.PrintWords PKeysRead

theorem res_keyC {fn : Func} {t u : Tmp} (h : fn.results = #[.cell t 23, .tmp u]) (tmps : Array Value) {V V' : World} (g : Nat) (k : Key) (x : Value) (ht : tmps.getD t undef = .pointer (some ⟨g, 0, none⟩)) (hu : tmps.getD u undef = x)
    (h0 : V.cell? ⟨g, 0, none⟩ = some (.int .i64 k.f0)) (h1 : V.cell? ⟨g, 1, none⟩ = some (.int .i32 k.f1)) (h2 : V.cell? ⟨g, 2, none⟩ = some (.int .i64 k.f2)) (h3 : V.cell? ⟨g, 3, none⟩ = some (.int .i64 k.f3)) (hb : Below V.heap.size V V') :
    (results fn tmps).run Tryd.prog V' = .ok (.tuple #[kv k, x]) V' := res_key h tmps V' g k x ht hu (pw_cell_below hb h0) (pw_cell_below hb h1) (pw_cell_below hb h2) (pw_cell_below hb h3)
theorem res_setC {fn : Func} {t u : Tmp} (h : fn.results = #[.cell t 23, .tmp u]) (tmps : Array Value) (W : World) (o : Obj) (g : Nat) (k : Key) (x : Value) (ht : tmps.getD t undef = .pointer (some ⟨g, 0, none⟩)) (hu : tmps.getD u undef = x) (hZ : Zero4 g W) :
    (results fn tmps).run Tryd.prog (((((W.setCell ⟨g, 0, none⟩ (.int .i64 k.f0)).setCell ⟨g, 1, none⟩ (.int .i32 k.f1)).setCell ⟨g, 2, none⟩ (.int .i64 k.f2)).setCell ⟨g, 3, none⟩ (.int .i64 k.f3)).alloc o) = .ok (.tuple #[kv k, x]) (((((W.setCell ⟨g, 0, none⟩ (.int .i64 k.f0)).setCell ⟨g, 1, none⟩ (.int .i32 k.f1)).setCell ⟨g, 2, none⟩ (.int .i64 k.f2)).setCell ⟨g, 3, none⟩ (.int .i64 k.f3)).alloc o) := by
  obtain ⟨f0, f1, f2, f3⟩ := set4 (W := W) (g := g) (a := .int .i64 k.f0) (b := .int .i32 k.f1) (c := .int .i64 k.f2) (d := .int .i64 k.f3) hZ.c0 hZ.c1 hZ.c2 hZ.c3
  exact res_keyC h tmps g k x ht hu f0 f1 f2 f3 ((Below.refl _ _).alloc (Nat.le_refl _) o)
theorem endAk {fn : Func} (h : fn.results = #[.cell 4 23, .tmp 5]) (w w1 : World) (o : Obj) (tmps : Array Value) (a b c d x : Int) (h4 : tmps.getD 4 undef = .pointer (some ⟨w.heap.size, 0, none⟩)) (h5 : tmps.getD 5 undef = .int .i64 x) (hZ : Zero4 w.heap.size w1) (hB : Below w.heap.size w w1) (hz : w.heap.size < w1.heap.size) :
    bodyPost Tryd.prog fn (FPost (⟨a, b, c, d⟩, x) w) Exit.ret { tmps := tmps, defers := [] }
      (((((w1.setCell ⟨w.heap.size, 0, none⟩ (.int .i64 a)).setCell ⟨w.heap.size, 1, none⟩ (.int .i32 b)).setCell ⟨w.heap.size, 2, none⟩ (.int .i64 c)).setCell ⟨w.heap.size, 3, none⟩ (.int .i64 d)).alloc o) :=
  bodyPost_ret (res_setC h tmps w1 o w.heap.size ⟨a, b, c, d⟩ _ h4 h5 hZ) rfl ⟨rfl, by go_grown⟩
theorem decodeGo_bd {b : ByteArray} (h : 0 < b.size) : 1 ≤ (Lib.decodeGo b).2 ∧ (Lib.decodeGo b).2 ≤ b.size := by
  unfold Lib.decodeGo
  rw [if_neg (by omega)]
  refine ⟨Lib.width_pos b 0, ?_⟩
  rw [Lib.decode_at]
  exact Lib.decodeN_le_n' _ _ _ _ _ (by omega)
theorem plainF_held (c : Int) : (plainF c).2.2.2 = 0 ∨ (plainF c).2.2.2 = 4 := by
  unfold plainF
  repeat' split
  all_goals simp
theorem firstN_bd {b : ByteArray} {last : Bool} (h : 0 < b.size) : 0 ≤ (firstN b last).2 ∧ (firstN b last).2 ≤ b.size ∧ ((firstN b last).2 = 0 → firstN b last = (key0, 0)) ∧ ((firstN b last).1.f3 = 0 ∨ (firstN b last).1.f3 = 4) := by
  have hd := decodeGo_bd h
  unfold firstN
  split
  · refine ⟨by simp, by simp; omega, fun h => by simp at h, plainF_held _⟩
  · split
    · exact ⟨by simp, by simp, fun _ => rfl, .inl rfl⟩
    · refine ⟨by simp, by simp; omega, fun h => by simp at h; omega, .inl rfl⟩
theorem altP_zero {p : Key × Int} (h : p.2 = 0) : altP p = (key0, 0) := if_pos h
theorem altP_more {p : Key × Int} (h : ¬ p.2 = 0) : altP p = (altK p.1, p.2 + 1) := if_neg h
theorem firstF_n {b : ByteArray} {last : Bool} (h : byt b 0 ≠ 27) : firstF b last = firstN b last := if_pos h
theorem firstF_esc {b : ByteArray} {last : Bool} (h : ¬ byt b 0 ≠ 27) (h1 : b.size = 1) : firstF b last = if last = true then (keyEsc, 1) else (key0, 0) := by unfold firstF; rw [if_neg h, if_pos h1]
theorem firstF_seq {b : ByteArray} {last : Bool} (h : ¬ byt b 0 ≠ 27) (h1 : ¬ b.size = 1) (h2 : byt b 1 = 91 ∨ byt b 1 = 79) : firstF b last = seqF b last := by unfold firstF; rw [if_neg h, if_neg h1, if_pos h2]
theorem firstF_two {b : ByteArray} {last : Bool} (h : ¬ byt b 0 ≠ 27) (h1 : ¬ b.size = 1) (h2 : ¬ (byt b 1 = 91 ∨ byt b 1 = 79)) (h3 : byt b 1 = 27 ∨ byt b 1 = 9) : firstF b last = (keyEsc, 1) := by unfold firstF; rw [if_neg h, if_neg h1, if_neg h2, if_pos h3]
theorem firstF_alt {b : ByteArray} {last : Bool} (h : ¬ byt b 0 ≠ 27) (h1 : ¬ b.size = 1) (h2 : ¬ (byt b 1 = 91 ∨ byt b 1 = 79)) (h3 : ¬ (byt b 1 = 27 ∨ byt b 1 = 9)) : firstF b last = altP (firstN (b.extract 1 b.size) last) := by
  unfold firstF; rw [if_neg h, if_neg h1, if_neg h2, if_neg h3]
theorem byt_tail {b : ByteArray} (h : 1 < b.size) : byt (b.extract 1 b.size) 0 = byt b 1 := by
  have hs : 0 < (b.extract 1 b.size).size := by rw [ByteArray.size_extract]; omega
  rw [← byt_at hs, ← byt_at h]
  congr 1
  congr 1
  simp [ByteArray.getElem_extract]

set_option maxRecDepth 100000 in
set_option maxHeartbeats 8000000 in
theorem first_calls (b : ByteArray) (last : Bool) (w : World) (hg : Gl w) (h1 : 1 ≤ b.size) (hs : b.size ≤ 1000000) :
    Calls Tryd.prog 37 #[.string b, .bool last] w (FPost (firstF b last) w) := by
  by_cases hne : byt b 0 ≠ 27
  · rw [firstF_n hne]
    exact firstN_calls b last w hg h1 hs hne
  · have HG := Lib.hid hg
    clear hg
    have hb0 : 0 < b.size := by omega
    have E0 := Lib.hid (byt_at hb0)
    have q0 : (((b[0]'hb0).toNat : Int) != 27) = false := by rw [E0.out]; simpa using hne
    by_cases hz : b.size = 1
    · have hr := firstF_esc (last := last) hne hz
      have HR := Lib.hid hr
      have qz : ((b.size : Int) == 1) = true := beq_iff_eq.2 (by omega)
      clear hr hne hz
      cases last with
      | true =>
        go_enter Tryd.func37, Tryd.ntmps37
        go_wp2_with fail
        rw [HR.out]
        go_returns
        exact ⟨rfl, by go_grown⟩
      | false =>
        go_enter Tryd.func37, Tryd.ntmps37
        go_wp2_with fail
        rw [HR.out]
        go_returns
        exact ⟨rfl, by go_grown⟩
    · have qz : ((b.size : Int) == 1) = false := beq_eq_false_iff_ne.2 (by omega)
      have hb1 : 1 < b.size := by omega
      have E1 := Lib.hid (byt_at hb1)
      by_cases hq : byt b 1 = 91 ∨ byt b 1 = 79
      · have HR := Lib.hid (firstF_seq (last := last) hne hz hq)
        have HS : Hid (∀ w, Gl w → Calls Tryd.prog 56 #[.string b, .bool last] w (FPost (seqF b last) w)) := Lib.hid (fun w hg => seq_calls b last w hg (by omega) hs)
        generalize seqF b last = p at *
        obtain ⟨⟨a, c1, c2, d⟩, n⟩ := p
        by_cases h91 : byt b 1 = 91
        · have q1 : (((b[1]'hb1).toNat : Int) == 91) = true := by rw [E1.out, h91]; rfl
          clear hne hq hz h91
          go_enter Tryd.func37, Tryd.ntmps37
          go_wp2_with (go_at_call 56; refine (HS.out _ (HG.out.below (by go_grown))).mono ?_; rintro e w1 ⟨rfl, hb⟩; unfold kv; have hB1 : Below w.heap.size w w1 := bt (by go_grown) hb; have hZ1 : Hid (Zero4 w.heap.size w1) := Lib.hid ((Zero4.new w).below hb); have hz1 : w.heap.size < w1.heap.size := (Array.getElem?_eq_some_iff.1 hZ1.out).1; clear hb; have c0 := hZ1.out.c0; have c1' := hZ1.out.c1; have c2' := hZ1.out.c2; have c3 := hZ1.out.c3; have z0 := hZ1.out.fz 0; have z1 := hZ1.out.fz 1; have z2 := hZ1.out.fz 2; have z3 := hZ1.out.fz 3)
          rw [HR.out]
          exact bodyPost_ret (res_set rfl _ _ w.heap.size ⟨a, c1, c2, d⟩ _ rfl rfl hZ1.out) rfl ⟨rfl, by go_grown⟩
        · have q1 : (((b[1]'hb1).toNat : Int) == 91) = false := by rw [E1.out]; simpa using h91
          have q2 : (((b[1]'hb1).toNat : Int) == 79) = true := by rw [E1.out]; simp; omega
          clear hne hq hz h91
          go_enter Tryd.func37, Tryd.ntmps37
          go_wp2_with (go_at_call 56; refine (HS.out _ (HG.out.below (by go_grown))).mono ?_; rintro e w1 ⟨rfl, hb⟩; unfold kv; have hB1 : Below w.heap.size w w1 := bt (by go_grown) hb; have hZ1 : Hid (Zero4 w.heap.size w1) := Lib.hid ((Zero4.new w).below hb); have hz1 : w.heap.size < w1.heap.size := (Array.getElem?_eq_some_iff.1 hZ1.out).1; clear hb; have c0 := hZ1.out.c0; have c1' := hZ1.out.c1; have c2' := hZ1.out.c2; have c3 := hZ1.out.c3; have z0 := hZ1.out.fz 0; have z1 := hZ1.out.fz 1; have z2 := hZ1.out.fz 2; have z3 := hZ1.out.fz 3)
          rw [HR.out]
          exact bodyPost_ret (res_set rfl _ _ w.heap.size ⟨a, c1, c2, d⟩ _ rfl rfl hZ1.out) rfl ⟨rfl, by go_grown⟩
      · have q1 : (((b[1]'hb1).toNat : Int) == 91) = false := by rw [E1.out]; simp; omega
        have q2 : (((b[1]'hb1).toNat : Int) == 79) = false := by rw [E1.out]; simp; omega
        by_cases hq2 : byt b 1 = 27 ∨ byt b 1 = 9
        · have HR := Lib.hid (firstF_two (last := last) hne hz hq hq2)
          have hsp : (((b[1]'hb1).toNat : Int) == 27) = true ∨ (((b[1]'hb1).toNat : Int) == 27) = false ∧ (((b[1]'hb1).toNat : Int) == 9) = true := by
            rw [E1.out]; simp; omega
          clear hne hq hz hq2
          rcases hsp with q3 | ⟨q3, q4⟩
          all_goals
            go_enter Tryd.func37, Tryd.ntmps37
            go_wp2_with fail
            rw [HR.out]
            go_returns
            exact ⟨rfl, by go_grown⟩
        · have q3 : (((b[1]'hb1).toNat : Int) == 27) = false := by rw [E1.out]; simp; omega
          have q4 : (((b[1]'hb1).toNat : Int) == 9) = false := by rw [E1.out]; simp; omega
          have hr := firstF_alt (last := last) hne hz hq hq2
          have hts : 0 < (b.extract 1 b.size).size := by rw [ByteArray.size_extract]; omega
          have hnt : byt (b.extract 1 b.size) 0 ≠ 27 := by rw [byt_tail hb1]; omega
          obtain ⟨hn0, hn1, hnz, hf⟩ := firstN_bd (last := last) hts
          have HS : Hid (∀ w, Gl w → Calls Tryd.prog 37 #[.string (b.extract 1 b.size), .bool last] w (FPost (firstN (b.extract 1 b.size) last) w)) := Lib.hid (fun w hg => firstN_calls _ last w hg (by omega) (by rw [ByteArray.size_extract]; omega) hnt)
          have hts2 : (b.extract 1 b.size).size ≤ b.size := by rw [ByteArray.size_extract]; omega
          clear hnt hne hq hz hq2
          generalize firstN (b.extract 1 b.size) last = p at *
          obtain ⟨⟨a, c1, c2, d⟩, n⟩ := p
          simp only at hn0 hn1 hnz hf
          by_cases h0 : n = 0
          · have hpz := hnz h0
            injection hpz with hk hn
            injection hk with e0 e1 e2 e3
            subst e0; subst e1; subst e2; subst e3; subst hn
            have HR := Lib.hid (hr.trans (altP_zero rfl))
            clear hr hnz hf h0
            go_enter Tryd.func37, Tryd.ntmps37
            go_wp2_with (go_at_call 37; refine (HS.out _ (HG.out.below (by go_grown))).mono ?_; rintro e w1 ⟨rfl, hb⟩; unfold kv; have hB1 : Below w.heap.size w w1 := bt (by go_grown) hb; have hZ1 : Hid (Zero4 w.heap.size w1) := Lib.hid ((Zero4.new w).below hb); have hz1 : w.heap.size < w1.heap.size := (Array.getElem?_eq_some_iff.1 hZ1.out).1; clear hb; have c0 := hZ1.out.c0; have c1' := hZ1.out.c1; have c2' := hZ1.out.c2; have c3 := hZ1.out.c3; have z0 := hZ1.out.fz 0; have z1 := hZ1.out.fz 1; have z2 := hZ1.out.fz 2; have z3 := hZ1.out.fz 3)
            rw [HR.out]
            exact endAk rfl w w1 _ _ 0 0 0 0 0 rfl rfl hZ1.out hB1 hz1
          · have q5 : (n == 0) = false := beq_eq_false_iff_ne.2 h0
            have hr2 := hr.trans (altP_more h0)
            have hor0 : bits .or .i64 0 2 = 2 := by decide
            have hor4 : bits .or .i64 4 2 = 6 := by decide
            rcases hf with rfl | rfl
            · have HR : Hid (firstF b last = (⟨a, c1, c2, 2⟩, n + 1)) := Lib.hid (hr2.trans rfl)
              clear hr hr2 hnz h0
              go_enter Tryd.func37, Tryd.ntmps37
              go_wp2_with (go_at_call 37; refine (HS.out _ (HG.out.below (by go_grown))).mono ?_; rintro e w1 ⟨rfl, hb⟩; unfold kv; have hB1 : Below w.heap.size w w1 := bt (by go_grown) hb; have hZ1 : Hid (Zero4 w.heap.size w1) := Lib.hid ((Zero4.new w).below hb); have hz1 : w.heap.size < w1.heap.size := (Array.getElem?_eq_some_iff.1 hZ1.out).1; clear hb; have c0 := hZ1.out.c0; have c1' := hZ1.out.c1; have c2' := hZ1.out.c2; have c3 := hZ1.out.c3; have z0 := hZ1.out.fz 0; have z1 := hZ1.out.fz 1; have z2 := hZ1.out.fz 2; have z3 := hZ1.out.fz 3)
              rw [HR.out]
              exact endAk rfl w w1 _ _ a c1 c2 2 (n + 1) rfl rfl hZ1.out hB1 hz1
            · have HR : Hid (firstF b last = (⟨a, c1, c2, 6⟩, n + 1)) := Lib.hid (hr2.trans rfl)
              clear hr hr2 hnz h0
              go_enter Tryd.func37, Tryd.ntmps37
              go_wp2_with (go_at_call 37; refine (HS.out _ (HG.out.below (by go_grown))).mono ?_; rintro e w1 ⟨rfl, hb⟩; unfold kv; have hB1 : Below w.heap.size w w1 := bt (by go_grown) hb; have hZ1 : Hid (Zero4 w.heap.size w1) := Lib.hid ((Zero4.new w).below hb); have hz1 : w.heap.size < w1.heap.size := (Array.getElem?_eq_some_iff.1 hZ1.out).1; clear hb; have c0 := hZ1.out.c0; have c1' := hZ1.out.c1; have c2' := hZ1.out.c2; have c3 := hZ1.out.c3; have z0 := hZ1.out.fz 0; have z1 := hZ1.out.fz 1; have z2 := hZ1.out.fz 2; have z3 := hZ1.out.fz 3)
              rw [HR.out]
              exact endAk rfl w w1 _ _ a c1 c2 6 (n + 1) rfl rfl hZ1.out hB1 hz1
end Go.Proofs.YtampklajoikbiaaDoor

/- keys.Read. -/
set_option linter.unusedVariables false
set_option linter.unusedSimpArgs false
namespace Go.Proofs.YtampklajoikbiaaDoor
open Go.RowKit Go.Proofs.YtampklajoikbiaaDoorW.PrintWords PKeysRead

theorem seqF_bd {b : ByteArray} {last : Bool} (h : 2 ≤ b.size) : 0 ≤ (seqF b last).2 ∧ (seqF b last).2 ≤ b.size := by
  obtain ⟨h2, h12, hb⟩ := seqEnd_bd h
  unfold seqF
  split
  · split
    · exact ⟨by simp, by simp; omega⟩
    · exact ⟨by simp, by simp⟩
  · cases toldF (b.extract 2 (seqEnd b)) (byt b (seqEnd b)) with
    | none => exact ⟨by simp [seqPick], by simp [seqPick]; omega⟩
    | some k =>
      unfold seqPick
      simp only
      split
      · exact ⟨by simp; omega, by simp; omega⟩
      · exact ⟨by simp, by simp; omega⟩
theorem firstF_bd {b : ByteArray} {last : Bool} (h : 0 < b.size) : 0 ≤ (firstF b last).2 ∧ (firstF b last).2 ≤ b.size := by
  unfold firstF
  split
  · exact ⟨(firstN_bd h).1, (firstN_bd h).2.1⟩
  · split
    · split
      · exact ⟨by simp, by simp; omega⟩
      · exact ⟨by simp, by simp⟩
    · split
      · exact seqF_bd (by omega)
      · split
        · exact ⟨by simp, by simp; omega⟩
        · have hts : 0 < (b.extract 1 b.size).size := by rw [ByteArray.size_extract]; omega
          have hts2 : (b.extract 1 b.size).size = b.size - 1 := by rw [ByteArray.size_extract]; omega
          obtain ⟨h0, h1, _, _⟩ := firstN_bd (last := last) hts
          unfold altP
          split
          · exact ⟨by simp, by simp⟩
          · exact ⟨by simp; omega, by simp; omega⟩

theorem readF_fuel (last : Bool) : ∀ (f : Nat) (b : ByteArray), b.size < f → readF last f b = readF last (b.size + 1) b
  | 0, b, h => by omega
  | f + 1, b, h => by
    unfold readF
    split
    · rfl
    · split
      · rfl
      · rename_i h0 hn
        have hb := firstF_bd (b := b) (last := last) (by omega)
        have hs : (b.extract (firstF b last).2.toNat b.size).size < b.size := by rw [ByteArray.size_extract]; omega
        rw [readF_fuel last f _ (by omega), readF_fuel last b.size _ hs]
def readR (last : Bool) (b : ByteArray) : List Key × ByteArray := readF last (b.size + 1) b
theorem readR_nil {last : Bool} {b : ByteArray} (h : b.size = 0) : readR last b = ([], b) := by unfold readR readF; rw [if_pos h]
theorem readR_stop {last : Bool} {b : ByteArray} (h : 0 < b.size) (h0 : (firstF b last).2 = 0) : readR last b = ([], b) := by unfold readR readF; rw [if_neg (by omega), if_pos h0]
theorem readR_more {last : Bool} {b : ByteArray} (h : 0 < b.size) (h0 : ¬ (firstF b last).2 = 0) : readR last b = ((firstF b last).1 :: (readR last (b.extract (firstF b last).2.toNat b.size)).1, (readR last (b.extract (firstF b last).2.toNat b.size)).2) := by
  have hb := firstF_bd (b := b) (last := last) h
  have hs : (b.extract (firstF b last).2.toNat b.size).size < b.size := by rw [ByteArray.size_extract]; omega
  unfold readR
  rw [readF, if_neg (by omega), if_neg h0]
  rw [readF_fuel last b.size _ hs]

def strLen : Value → Nat
  | .string s => s.size
  | _ => 0
abbrev OwnK (w W : World) (v : Value) (xs : List Key) : Prop := k23.R 23 W w.heap.size (fun _ => True) v xs
/-- The loop: what has been read, and what is still to be read. -/
def readRel (w : World) (last : Bool) (b : ByteArray) (s0 v : Value) (wr : World) : Prop :=
  ∃ (c : ByteArray) (xs : List Key), s0 = .string c ∧ xs.length + c.size ≤ b.size ∧ OwnK w wr v xs ∧ Below w.heap.size w wr ∧ readR last b = (xs ++ (readR last c).1, (readR last c).2)
theorem readRel_next {w W : World} {last : Bool} {b c : ByteArray} {v : Value} {xs : List Key} {k : Key} {n : Nat} (hsz : xs.length + c.size ≤ b.size) (hF : firstF c last = (k, (n : Int))) (h0 : 0 < n) (hn : n ≤ c.size) (hc : 0 < c.size) (hO : OwnK w W v (xs ++ [k])) (hB : Below w.heap.size w W)
    (hr : readR last b = (xs ++ (readR last c).1, (readR last c).2)) : readRel w last b (.string (c.extract n c.size)) v W := by
  refine ⟨_, _, rfl, ?_, hO, hB, ?_⟩
  · rw [ByteArray.size_extract, List.length_append]; simp; omega
  · have hm := readR_more (last := last) (b := c) hc (by rw [hF]; simp; omega)
    rw [hF] at hm
    simp only [Int.toNat_natCast] at hm
    rw [hr, hm]
    simp
def ReadIs (w : World) (last : Bool) (b : ByteArray) (e : Ending) (w' : World) : Prop := ∃ v, e = .returned (.tuple #[v, .string (readR last b).2, .int .i64 0]) ∧ OwnK w w' v (readR last b).1 ∧ Below w.heap.size w w'
theorem readIs_mk {w W : World} {last : Bool} {b c : ByteArray} {v : Value} {xs : List Key} (hr : readR last b = (xs ++ (readR last c).1, (readR last c).2)) (hc : readR last c = ([], c)) (hO : OwnK w W v xs) (hB : Below w.heap.size w W) :
    ReadIs w last b (.returned (.tuple #[v, .string c, .int .i64 0])) W := by
  rw [hc] at hr
  refine ⟨v, by rw [hr], ?_, hB⟩
  rw [hr]
  simpa using hO
theorem info23' : (Tryd.prog.info? 23).map (fun i => (i.zero, i.size, i.bytes)) = some (some (.agg #[.int .i64 0, .int .i32 0, .int .i64 0, .int .i64 0]), 4, 32) := by kernel_rfl
theorem toList_empty {s : ByteArray} (h : s.size = 0) : s.toList.isEmpty = true := by
  rw [ByteArray.toList_eq]
  cases s with
  | mk d =>
    cases d with
    | mk l => cases l with
      | nil => rfl
      | cons x r => simp [ByteArray.size] at h

set_option maxRecDepth 100000 in
set_option maxHeartbeats 8000000 in
theorem Read_calls (b : ByteArray) (last : Bool) (w : World) (hg : Gl w) (hs : b.size ≤ 4000) :
    Calls Tryd.prog 12 #[.string b, .bool last] w (ReadIs w last b) := by
  have HG := Lib.hid hg
  clear hg
  go_enter Tryd.func12, Tryd.ntmps12
  go_wp2_with fail
  generalize hu : Value.slice none 0 0 = u
  have HO0 : Hid (OwnK w w u []) := Lib.hid (by rw [← hu]; exact Kd.R_nil _ _ _ _ _)
  clear hu
  go_loopw [0, 7] (readRel w last b) (fun s0 _ _ => strLen s0)
  case atStart => exact ⟨b, [], rfl, by simp, HO0.out, Below.refl _ _, rfl⟩
  case round =>
    obtain ⟨c, xs, rfl, hsz, hO, hB, hr⟩ := hrel
    have HO := Lib.hid hO
    have HR := Lib.hid hr
    clear hO hr
    by_cases hc : c.size = 0
    · have he := toList_empty hc
      have HC := Lib.hid hc
      clear hc
      go_wp2_with fail
      go_returns
      exact readIs_mk HR.out (readR_nil HC.out) HO.out hB
    · have he := toList_nonempty (s := c) (by omega)
      have hc0 : 0 < c.size := by omega
      have HS : Hid (∀ w, Gl w → Calls Tryd.prog 37 #[.string c, .bool last] w (FPost (firstF c last) w)) := Lib.hid (fun w hg => first_calls c last w hg (by omega) (by omega))
      obtain ⟨hn0, hn1⟩ := firstF_bd (b := c) (last := last) hc0
      obtain ⟨p, hp⟩ : ∃ p, firstF c last = p := ⟨_, rfl⟩
      rw [hp] at hn0 hn1 HS
      obtain ⟨⟨a, c1, c2, d⟩, n⟩ := p
      simp only at hn0 hn1
      obtain ⟨m, rfl⟩ := Int.eq_ofNat_of_zero_le hn0
      have HP := Lib.hid hp
      clear hp hc
      by_cases hm : m = 0
      · subst hm
        go_wp2_with (go_at_call 37; refine (HS.out _ (HG.out.below hB)).mono ?_; rintro e w1 ⟨rfl, hb⟩; unfold kv; have hB1 : Below w.heap.size w w1 := bt hB hb; have HO1 : Hid (OwnK w w1 _ xs) := Lib.hid (Kd.R_below HO.out hb); clear hb)
        go_returns
        exact readIs_mk HR.out (readR_stop hc0 (by rw [HP.out]; rfl)) (Kd.R_alloc HO1.out _) (below_alloc hB1 _)
      · have qm : (((m : Nat) : Int) == 0) = false := beq_eq_false_iff_ne.2 (by omega)
        have hm0 : 0 < m := by omega
        clear hm
        go_wp2_with (first
          | ((with_reducible refine gate_builtin (b := .append) (xs := #[.tmp 23, .tmp 25]) rfl ?_); at_builtin; refine Kd.R_append k23 (w0 := w) w.heap.size rfl (.tmp 23) (.tmp 25) 31 23 (.agg #[.int .i64 0, .int .i32 0, .int .i64 0, .int .i64 0]) 32 rfl Tryd.underlying31 info23' rfl (by decide) (by omega) _ xs ⟨a, c1, c2, d⟩ [.int .i64 (⟨a, c1, c2, d⟩ : S23).f0, .int .i32 (⟨a, c1, c2, d⟩ : S23).f1, .int .i64 (⟨a, c1, c2, d⟩ : S23).f2, .int .i64 (⟨a, c1, c2, d⟩ : S23).f3] (fun _ => True) (fun _ => False) rfl ?aX ?aP (fun _ hk => hk.elim) ?aF ?aO ?aB ?aS ?aL ?_; (case aX => first | rfl | (show Value.slice (some ⟨w1.heap.size + 1, 0, none⟩) 1 1 = _; simp)); (case aP => exact k23_mkM _ _ _ _); (case aB => exact below_alloc hB1 _); (case aF => exact (fun _ _ => trivial)); (case aO => exact Kd.R_alloc HO1.out _); (case aS => exact below_size (below_alloc hB1 _)); (case aL => omega); intro v1 w2 ho hb hg hat; have HO2 := Lib.hid ho; have hB2 := hb; clear ho hb hg hat)
          | (go_at_call 37; refine (HS.out _ (HG.out.below hB)).mono ?_; rintro e w1 ⟨rfl, hb⟩; unfold kv; have hB1 : Below w.heap.size w w1 := bt hB hb; have HO1 : Hid (OwnK w w1 _ xs) := Lib.hid (Kd.R_below HO.out hb); clear hb))
        exact ⟨readRel_next hsz HP.out hm0 (by omega) hc0 HO2.out hB2 HR.out, by simp [strLen, ByteArray.size_extract]; omega⟩
end Go.Proofs.YtampklajoikbiaaDoor
