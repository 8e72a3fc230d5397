/- trellisref.keyOf: what the numbers are; which entry fits. -/
import Derived.Test.YtampklajoikbiaaDoorMr
import Derived.Test.YtampklajoikbiaaDoorS
import Derived.Test.YtampklajoikbiaaDoorVm
import Derived.Test.YtampklajoikbiaaDoorPKeysReadx7
import Derived.Deep.DeepCutAuto
import Derived.Deep.CutBlock
import Derived.Lib.SmallJoins
import Derived.Lib.AppendIntMem
import Derived.Lib.ItoaLen
import Derived.Maps.RangeWalk
set_option linter.unusedVariables false
set_option linter.unusedSimpArgs false
namespace Go.Proofs.YtampklajoikbiaaDoor
open Go.RowKit Go.Proofs.YtampklajoikbiaaDoorW.PrintWords PKeysRead

theorem info3 : (Tryd.prog.info? 3).map (fun i => (i.zero, i.size, i.bytes)) = some (some (.int .i64 0), 1, 8) := by kernel_rfl

theorem pow_at : Tryd.prog.globalNamed "internal/strconv.uint64pow10" = some 7 := by kernel_rfl
/-- The numbers so far: a slice of the call's own, all its blocks behind block B. -/
abbrev OwnI (B : Nat) (W : World) (v : Value) (xs : List Int) : Prop := (Kd.int .i64).R 3 W B (fun _ => True) v xs
/-- The loop over the parts: its parts before k are numbers, and are collected. -/
def partRel (w1 : World) (l : List ByteArray) (v i : Value) (wr : World) : Prop :=
  ∃ k : Nat, k ≤ l.length ∧ i = .int .i64 k ∧ (∀ j x, l[j]? = some x → j < k → isOk x = true) ∧ OwnI w1.heap.size wr v ((l.take k).map atoiV) ∧ Below w1.heap.size w1 wr
def NumCut (w : World) (n : List Int) (s6 : Value) (wx : World) : Prop := ∃ A c, s6 = .slice A n.length c ∧ n.length ≤ c ∧ Kd.C (Kd.int .i64) wx A n.length n ∧ Zero4 w.heap.size wx ∧ Below w.heap.size w wx
theorem partRel_next {w1 w3 : World} {l : List ByteArray} {v1 : Value} {k : Nat} {x : ByteArray} (hk : k < l.length) (hx : l[k]? = some x) (hok : isOk x = true) (hp : ∀ j x, l[j]? = some x → j < k → isOk x = true)
    (ho : OwnI w1.heap.size w3 v1 ((l.take k).map atoiV ++ [atoiV x])) (hB : Below w1.heap.size w1 w3) :
    partRel w1 l v1 (.int .i64 ((k : Int) + 1)) w3 := by
  refine ⟨k + 1, hk, by simp, fun j y hj hlt => ?_, ?_, hB⟩
  · rcases Nat.lt_or_ge j k with h | h
    · exact hp j y hj h
    · obtain rfl : j = k := by omega
      rw [hx] at hj; injection hj with hj; subst hj; exact hok
  · obtain ⟨h1, h2⟩ := List.getElem?_eq_some_iff.1 hx
    have e : (l.take (k + 1)).map atoiV = (l.take k).map atoiV ++ [atoiV x] := by
      rw [List.take_succ_eq_append_getElem h1, List.map_append, h2]; rfl
    rw [e]; exact ho
/-- Are all parts numbers? -/
def allOk (l : List ByteArray) : Bool := l.all isOk
theorem allOk_of {l : List ByteArray} (h : allOk l = true) {j : Nat} {x : ByteArray} (hj : l[j]? = some x) : isOk x = true := List.all_eq_true.1 h x (List.mem_of_getElem? hj)
theorem allOk_mk {l : List ByteArray} (h : ∀ j x, l[j]? = some x → j < l.length → isOk x = true) : allOk l = true := by
  refine List.all_eq_true.2 fun x hx => ?_
  obtain ⟨j, hj⟩ := List.getElem?_of_mem hx
  exact h j x hj (List.getElem?_eq_some_iff.1 hj).1
theorem allOk_no {l : List ByteArray} {j : Nat} {x : ByteArray} (hj : l[j]? = some x) (h : isOk x = false) : allOk l = false := by
  cases ha : allOk l with
  | false => rfl
  | true => rw [allOk_of ha hj] at h; cases h
theorem numCut_end {w w1 wr : World} {l : List ByteArray} {v : Value} {k : Nat} (hk : k ≤ l.length) (hge : ¬ k < l.length) (ho : OwnI w1.heap.size wr v ((l.take k).map atoiV)) (hZ : Zero4 w.heap.size wr) (hB : Below w.heap.size w wr) :
    NumCut w (l.map atoiV) v wr := by
  obtain rfl : k = l.length := by omega
  rw [List.take_length] at ho
  obtain ⟨A, c, h1, h2, h3⟩ := Kd.R_reads ho
  exact ⟨A, c, h1, h2, h3, hZ, hB⟩
theorem numCut_nil {w wr : World} (hZ : Zero4 w.heap.size wr) (hB : Below w.heap.size w wr) : NumCut w [] (.slice none 0 0) wr :=
  ⟨none, 0, rfl, Nat.le_refl _, Kd.C_nil _ _, hZ, hB⟩
def numsOf (s : ByteArray) : List Int := if s.toList.isEmpty = true then [] else (partsOf s).map atoiV
def numsOk (s : ByteArray) : Bool := s.toList.isEmpty || allOk (partsOf s)

def lastB (t : ByteArray) : Int := if h : t.size - 1 < t.size then ((t[t.size - 1]'h).toNat : Int) else 0
/-- Does an entry's text fit? -/
def fits (n : List Int) (last : Int) (t : ByteArray) : Bool :=
  lastB t == last && (if last = 126 then decide (1 ≤ n.length) && decide (n.length ≤ 2) && ((⟨(Lib.itoa (n.getD 0 0)).toArray⟩ ++ ⟨#[126]⟩ : ByteArray).toList == t.toList) else decide (n.length = 0) || (decide (n.length = 2) && n.getD 0 0 == 1))
def heldOf (n : List Int) : Int := if n.length = 2 then n.getD 1 0 - 1 else 0
/-- What keyOf answers. -/
def KOIs (s : ByteArray) (last : Int) (k : Key) (ok : Bool) : Prop :=
  if numsOk s = false then ok = false
  else if last = 90 then k = ⟨3, 0, 0, 1⟩ ∧ ok = decide ((numsOf s).length = 0)
  else if heldOf (numsOf s) < 0 ∨ 7 < heldOf (numsOf s) then ok = false
  else (ok = true ∧ ∃ (j : Nat) (k0 : Key) (t : ByteArray), seqAll[j]? = some (k0, t) ∧ fits (numsOf s) last t = true ∧ k = ⟨k0.f0, k0.f1, k0.f2, heldOf (numsOf s)⟩) ∨ (ok = false ∧ ∀ (j : Nat) (k0 : Key) (t : ByteArray), seqAll[j]? = some (k0, t) → fits (numsOf s) last t = false)
def KOPost (s : ByteArray) (last : Int) (w : World) (e : Ending) (w' : World) : Prop := ∃ k ok, e = .returned (.tuple #[kv k, .bool ok]) ∧ KOIs s last k ok ∧ Below w.heap.size w w'
theorem koNo {s : ByteArray} {last : Int} {w w' : World} (h : KOIs s last ⟨0, 0, 0, 0⟩ false) (hb : Below w.heap.size w w') : KOPost s last w (.returned (.tuple #[kv ⟨0, 0, 0, 0⟩, .bool false])) w' := ⟨_, _, rfl, h, hb⟩

/-- What the range over the map has shown so far. -/
def rangeRel (wc : World) (n : List Int) (last : Int) (B r : Nat) (wr : World) : Prop :=
  ∃ seen, KRange wr B r seqAll seen ∧ (∀ (j : Nat) (k : Key) (t : ByteArray), seqAll[j]? = some (k, t) → seen.contains j = true → fits n last t = false) ∧ Below wc.heap.size wc wr
def HeldCut (n : List Int) (wc : World) (s11 : Value) (wx : World) : Prop := ¬ (heldOf n < 0 ∨ 7 < heldOf n) ∧ s11 = .int .i64 (heldOf n) ∧ wx = wc
theorem heldCut_mk {n : List Int} {wc : World} {h : Int} (hh : heldOf n = h) (h0 : 0 ≤ h) (h7 : h ≤ 7) : HeldCut n wc (.int .i64 h) wc := ⟨by rw [hh]; omega, by rw [hh], rfl⟩
theorem ko_z {s : ByteArray} (h : numsOk s = true) : KOIs s 90 ⟨3, 0, 0, 1⟩ (decide ((numsOf s).length = 0)) := by
  unfold KOIs; rw [if_neg (by rw [h]; decide), if_pos rfl]; exact ⟨rfl, rfl⟩
theorem ko_held {s : ByteArray} {last : Int} (h : numsOk s = true) (h90 : ¬ last = 90) (hh : heldOf (numsOf s) < 0 ∨ 7 < heldOf (numsOf s)) : KOIs s last ⟨0, 0, 0, 0⟩ false := by
  unfold KOIs; rw [if_neg (by rw [h]; decide), if_neg h90, if_pos hh]
theorem ko_hit {s : ByteArray} {last : Int} (h : numsOk s = true) (h90 : ¬ last = 90) (hh : ¬ (heldOf (numsOf s) < 0 ∨ 7 < heldOf (numsOf s))) {j : Nat} {a b c d : Int} {t : ByteArray} (hj : seqAll[j]? = some (⟨a, b, c, d⟩, t)) (hf : fits (numsOf s) last t = true) :
    KOIs s last ⟨a, b, c, heldOf (numsOf s)⟩ true := by
  unfold KOIs; rw [if_neg (by rw [h]; decide), if_neg h90, if_neg hh]; exact .inl ⟨rfl, j, _, t, hj, hf, rfl⟩
theorem ko_none {s : ByteArray} {last : Int} (h : numsOk s = true) (h90 : ¬ last = 90) (hh : ¬ (heldOf (numsOf s) < 0 ∨ 7 < heldOf (numsOf s))) (hf : ∀ (j : Nat) (k0 : Key) (t : ByteArray), seqAll[j]? = some (k0, t) → fits (numsOf s) last t = false) :
    KOIs s last ⟨0, 0, 0, 0⟩ false := by
  unfold KOIs; rw [if_neg (by rw [h]; decide), if_neg h90, if_neg hh]; exact .inr ⟨rfl, hf⟩
theorem nums_bd {s : ByteArray} (hok : numsOk s = true) (hv : ∀ x ∈ partsOf s, isOk x = true → 0 ≤ atoiV x ∧ atoiV x ≤ 9999999999) : ∀ x ∈ numsOf s, 0 ≤ x ∧ x ≤ 9999999999 := by
  intro x hx
  unfold numsOf at hx
  split at hx
  · simp at hx
  · rename_i hE
    unfold numsOk at hok
    have ha : allOk (partsOf s) = true := by
      cases hE2 : s.toList.isEmpty with
      | true => exact absurd hE2 hE
      | false => rw [hE2] at hok; simpa using hok
    obtain ⟨p, hp, rfl⟩ := List.mem_map.1 hx
    exact hv p hp (List.all_eq_true.1 ha p hp)
theorem nums_len {s : ByteArray} (hl : (partsOf s).length ≤ 1001) : (numsOf s).length ≤ 1001 := by
  unfold numsOf
  split
  · simp
  · rw [List.length_map]; exact hl
/-- A number of the slice. -/
theorem int_at {w : World} {A : Option Addr} {n : List Int} (h : Kd.C (Kd.int .i64) w A n.length n) (i : Nat) (hi : i < n.length) : ∃ ad, A = some ad ∧ w.cell? (ad.add i) = some (.int .i64 (n.getD i 0)) := by
  obtain ⟨ad, c, hA, hl, hK, hc⟩ := Kd.C_get h 0 (i : Int) (by omega) (by omega)
  refine ⟨ad, hA, ?_⟩
  have hK' : c = [Value.int .i64 (n.getD ((i : Int)).toNat 0)] := hK
  have := hc 0 (.int .i64 (n.getD i 0)) (by rw [hK']; simp)
  have e : ((i : Int)).toNat * (Kd.int .i64).sz + 0 = i := by
    show ((i : Int)).toNat * 1 + 0 = i
    simp
  rw [e] at this
  exact this

theorem res_keyR {fn : Func} {t u : Tmp} (h : fn.results = #[.cell t 23, .tmp u]) (tmps : Array Value) {V V' : World} (g : Nat) (k : Key) (x : Value) (ht : tmps.getD t undef = .pointer (some ⟨g, 0, none⟩)) (hu : tmps.getD u undef = x)
    (h0 : V.cell? ⟨g, 0, none⟩ = some (.int .i64 k.f0)) (h1 : V.cell? ⟨g, 1, none⟩ = some (.int .i32 k.f1)) (h2 : V.cell? ⟨g, 2, none⟩ = some (.int .i64 k.f2)) (h3 : V.cell? ⟨g, 3, none⟩ = some (.int .i64 k.f3)) (hb : Below V.heap.size V V') :
    (results fn tmps).run Tryd.prog V' = .ok (.tuple #[kv k, x]) V' := res_key h tmps V' g k x ht hu (pw_cell_below hb h0) (pw_cell_below hb h1) (pw_cell_below hb h2) (pw_cell_below hb h3)
theorem res_setR {fn : Func} {t u : Tmp} (h : fn.results = #[.cell t 23, .tmp u]) (tmps : Array Value) (W : World) (o : Obj) (g : Nat) (k : Key) (x : Value) (ht : tmps.getD t undef = .pointer (some ⟨g, 0, none⟩)) (hu : tmps.getD u undef = x) (hZ : Zero4 g W) :
    (results fn tmps).run Tryd.prog (((((W.setCell ⟨g, 0, none⟩ (.int .i64 k.f0)).setCell ⟨g, 1, none⟩ (.int .i32 k.f1)).setCell ⟨g, 2, none⟩ (.int .i64 k.f2)).setCell ⟨g, 3, none⟩ (.int .i64 k.f3)).alloc o) = .ok (.tuple #[kv k, x]) (((((W.setCell ⟨g, 0, none⟩ (.int .i64 k.f0)).setCell ⟨g, 1, none⟩ (.int .i32 k.f1)).setCell ⟨g, 2, none⟩ (.int .i64 k.f2)).setCell ⟨g, 3, none⟩ (.int .i64 k.f3)).alloc o) := by
  obtain ⟨f0, f1, f2, f3⟩ := set4 (W := W) (g := g) (a := .int .i64 k.f0) (b := .int .i32 k.f1) (c := .int .i64 k.f2) (d := .int .i64 k.f3) hZ.c0 hZ.c1 hZ.c2 hZ.c3
  exact res_keyR h tmps g k x ht hu f0 f1 f2 f3 ((Below.refl _ _).alloc (Nat.le_refl _) o)
theorem itoa_any (n : Int) (hn : 0 ≤ n ∧ n ≤ 9999999999) (w : World) (htab : Lib.TabIs Tryd.prog w "internal/strconv.uint64pow10" .u64 Lib.pow10Tab) :
    Calls Tryd.prog 30 #[.int .i64 n] w fun e w' => e = .returned (.string ⟨(Lib.itoa n).toArray⟩) ∧ Below w.heap.size w w' :=
  (Tryd.strconv_Itoa n (by omega) (by omega) w htab).mono fun _ _ ⟨he, k, os, hw⟩ => ⟨he, by rw [hw]; exact Lib.below_grow _ w (Nat.le_refl _) k os⟩
theorem range_below {wo wr w4 : World} {r : Nat} (hBr : Below wo.heap.size wo wr) (hg4 : wr.grownBy w4 (some r)) (hrr : wo.heap.size ≤ r) : Below wo.heap.size wo w4 := hBr.grown hg4 hBr.size (by intro g h; injection h; omega)
theorem range_next {wo wr w4 w5 : World} {n : List Int} {last : Int} {b r j : Nat} {k : Key} {t : ByteArray} {seen : Array Nat} (hR : KRange wr b r seqAll seen) (hR4 : KRange w4 b r seqAll (seen.push j)) (hj : seqAll[j]? = some (k, t)) (hns : ¬ j ∈ seen)
    (hmiss : ∀ (j : Nat) (k : Key) (t : ByteArray), seqAll[j]? = some (k, t) → seen.contains j = true → fits n last t = false) (hfit : fits n last t = false) (hB4 : Below wo.heap.size wo w4) (hb5 : Below w4.heap.size w4 w5) :
    rangeRel wo n last b r w5 ∧ w5.rangeLeft b r < wr.rangeLeft b r := by
  have hR5 := hR4.below hb5
  have hs : seen.contains j = false := by
    cases h : seen.contains j with
    | false => rfl
    | true => exact absurd (by simpa using h) hns
  refine ⟨⟨seen.push j, hR5, fun i k' t' hi hc => ?_, bt hB4 hb5⟩, hR.next_lt hR5 hj hs⟩
  by_cases hij : i = j
  · subst hij
    rw [hj] at hi; injection hi with hi; injection hi with h1 h2; subst h2; exact hfit
  · refine hmiss i k' t' hi ?_
    have : i ∈ seen.push j := by simpa using hc
    rw [Array.mem_push] at this
    rcases this with h | h
    · simpa using h
    · exact absurd h hij
theorem seq_sizes : (seqAll.all fun p => decide (1 ≤ p.2.size) && decide (p.2.size ≤ 3)) = true := by decide
theorem seq_size {j : Nat} {k : Key} {t : ByteArray} (h : seqAll[j]? = some (k, t)) : 1 ≤ t.size ∧ t.size ≤ 3 := by
  have := List.all_eq_true.1 seq_sizes _ (List.mem_of_getElem? h)
  simpa using this
theorem lastB_at {t : ByteArray} (h : t.size - 1 < t.size) : ((t[t.size - 1]'h).toNat : Int) = lastB t := by unfold lastB; rw [dif_pos h]
theorem fits_last {n : List Int} {last : Int} {t : ByteArray} (h : ¬ lastB t = last) : fits n last t = false := by unfold fits; rw [beq_eq_false_iff_ne.2 h]; rfl
theorem fits_ne {n : List Int} {last : Int} {t : ByteArray} (h : lastB t = last) (h6 : ¬ last = 126) : fits n last t = (decide (n.length = 0) || (decide (n.length = 2) && n.getD 0 0 == 1)) := by
  unfold fits; rw [if_neg h6, beq_iff_eq.2 h]; rfl
theorem fits_eq {n : List Int} {t : ByteArray} (h : lastB t = 126) : fits n 126 t = (decide (1 ≤ n.length) && decide (n.length ≤ 2) && ((⟨(Lib.itoa (n.getD 0 0)).toArray⟩ ++ ⟨#[126]⟩ : ByteArray).toList == t.toList)) := by
  unfold fits; rw [if_pos rfl, h]; rfl

set_option maxRecDepth 100000 in
set_option maxHeartbeats 8000000 in
theorem keyOf_calls (s : ByteArray) (last : Int) (w : World) (hg : Gl w) (htab : Lib.TabIs Tryd.prog w "internal/strconv.uint64pow10" .u64 Lib.pow10Tab) (hs : s.size ≤ 1000) (h8 : 0 ≤ last ∧ last < 256)
    (hv : ∀ x ∈ partsOf s, isOk x = true → 0 ≤ atoiV x ∧ atoiV x ≤ 9999999999) :
    Calls Tryd.prog 60 #[.string s, .int .u8 last] w (KOPost s last w) := by
  have HG := Lib.hid hg
  clear hg
  have HTB : Hid (∀ w', Below w.heap.size w w' → Lib.TabIs Tryd.prog w' "internal/strconv.uint64pow10" .u64 Lib.pow10Tab) := Lib.hid (fun w' hb => Go.Joins.tab_stays pow_at htab hb (Nat.le_refl _))
  clear htab
  have hl : (partsOf s).length ≤ 1001 := by
    have h2 := Lib.countB_le ⟨#[59]⟩ (by decide) s.size s (Nat.le_refl _)
    rw [parts_len]
    omega
  have HSZ : Hid (∀ (j : Nat) (x : ByteArray), (partsOf s)[j]? = some x → x.size ≤ 1000000) := Lib.hid (fun j x hx => by have := parts_size (List.mem_of_getElem? hx); omega)
  have hno : numsOk s = false → KOIs s last ⟨0, 0, 0, 0⟩ false := fun h => by unfold KOIs; rw [if_pos h]
  have HNO := Lib.hid hno
  have HV := Lib.hid hv
  clear hno hv
  go_enter Tryd.func60, Tryd.ntmps60
  go_upto_if 15 with fail
  go_cut [6] (fun s6 wx => numsOk s = true ∧ NumCut w (numsOf s) s6 wx)
  case first =>
    cases hE : s.toList.isEmpty with
    | true =>
      have hn : numsOf s = [] := by unfold numsOf; rw [if_pos hE]
      have hk : numsOk s = true := by unfold numsOk; rw [hE]; rfl
      have HN := Lib.hid hn
      have HK := Lib.hid hk
      clear hn hk
      go_wp2_with fail
      go_meet
      exact ⟨HK.out, by rw [HN.out]; exact numCut_nil (Zero4.new w) (by go_grown)⟩
    | false =>
      have hn : numsOf s = (partsOf s).map atoiV := by unfold numsOf; rw [if_neg (by rw [hE]; simp)]
      have hk : numsOk s = allOk (partsOf s) := by unfold numsOk; rw [hE]; rfl
      rw [hk] at HNO
      have HN := Lib.hid hn
      have HK := Lib.hid hk
      clear hn hk
      go_wp2_with (go_at_call 45; refine (split_calls s (by omega) _ (HG.out.below (by go_grown))).mono ?_; rintro e w1 ⟨rfl, hcell, hsz1, hb⟩; rw [World.size_alloc] at hcell; have hB1 : Below w.heap.size w w1 := bt (by go_grown) hb; have HC := Lib.hid hcell; have hz1 : w.heap.size + 1 < w1.heap.size := (by have := hsz1; simp at this; omega); have hZ1 : Hid (Zero4 w.heap.size w1) := Lib.hid ((Zero4.new w).below hb); have HS1 := Lib.hid hsz1; clear hcell hsz1 hb)
      generalize partsOf s = l at *
      generalize hu : Value.slice none 0 0 = u
      have HO0 : Hid (OwnI w1.heap.size w1 u []) := Lib.hid (by rw [← hu]; exact Kd.R_nil _ _ _ _ _)
      clear hu
      go_loopw [6, 19] (partRel w1 l) (fun _ i _ => l.length - (intOf i).toNat)
      case atStart => exact ⟨0, by omega, rfl, fun _ _ _ h => absurd h (by omega), HO0.out, Below.refl _ _⟩
      case round =>
        obtain ⟨k, hk, rfl, hp, ho, hB⟩ := hrel
        have HP := Lib.hid hp
        have HO := Lib.hid ho
        have hBw : Below w.heap.size w wr := bt hB1 hB
        have HZ : Hid (Zero4 w.heap.size wr) := Lib.hid (hZ1.out.below hB)
        have hzr : w.heap.size + 1 < wr.heap.size := by have := hB.size; omega
        clear hp ho
        by_cases hlt : k < l.length
        · obtain ⟨x, hx⟩ : ∃ x, l[k]? = some x := ⟨_, List.getElem?_eq_getElem hlt⟩
          have hcx := pw_cell_below hB (HC.out k x hx)
          have HX := Lib.hid hx
          have hxs := HSZ.out k x hx
          clear hx
          cases hok : isOk x with
          | true =>
            have HOK := Lib.hid hok
            clear hok
            have hlen : ((l.take k).map atoiV).length ≤ 1001 := by rw [List.length_map, List.length_take]; omega
            go_wp2_with (first
              | (go_at_call 48; refine (atoi_ok x hxs (atoiV x) (isOk_val HOK.out) _).mono ?_; rintro e w2 ⟨rfl, hb2⟩; have hB2 : Below w1.heap.size w1 w2 := bt hB hb2; have HO2 := Lib.hid (Kd.R_below HO.out hb2); clear hb2)
              | ((with_reducible refine gate_builtin (b := .append) (xs := #[.tmp 31, .tmp 33]) rfl ?_); at_builtin; refine Kd.R_append (Kd.int .i64) (w0 := w1) w1.heap.size rfl (.tmp 31) (.tmp 33) 92 3 (.int .i64 0) 8 rfl Tryd.underlying92 info3 rfl (by decide) (by omega) _ ((l.take k).map atoiV) (atoiV x) [.int .i64 (atoiV x)] (fun _ => True) (fun _ => False) rfl ?aX ?aP (fun _ hk => hk.elim) ?aF ?aO ?aB ?aS ?aL ?_; (case aX => first | rfl | (show Value.slice (some ⟨w2.heap.size, 0, none⟩) 1 1 = _; simp)); (case aP => exact rfl); (case aB => exact hB2); (case aF => exact (fun _ _ => trivial)); (case aO => exact HO2.out); (case aS => exact hB2.size); (case aL => omega); intro v1 w3 ho hb hg hat; have HO3 := Lib.hid ho; have hB3 := hb; clear ho hb hg hat))
            exact ⟨partRel_next hlt HX.out HOK.out HP.out HO3.out hB3, by simp [intOf]; omega⟩
          | false =>
            have HOK := Lib.hid hok
            clear hok
            go_wp2_with (go_at_call 48; refine (atoi_bad x hxs HOK.out _ (HG.out.below hBw)).mono ?_; rintro e w2 ⟨v2, N2, rfl, hb2⟩; have hB2 : Below w.heap.size w w2 := bt hBw hb2; have hZ2 : Hid (Zero4 w.heap.size w2) := Lib.hid (HZ.out.below hb2); have hz2 : w.heap.size < w2.heap.size := (Array.getElem?_eq_some_iff.1 hZ2.out).1; clear hb2; have c0_2 := hZ2.out.c0; have c1_2 := hZ2.out.c1; have c2_2 := hZ2.out.c2; have c3_2 := hZ2.out.c3; have z0_2 := hZ2.out.fz 0; have z1_2 := hZ2.out.fz 1; have z2_2 := hZ2.out.fz 2; have z3_2 := hZ2.out.fz 3)
            exact bodyPost_ret (res_set rfl _ _ w.heap.size ⟨0, 0, 0, 0⟩ _ rfl rfl hZ2.out) rfl (koNo (HNO.out (allOk_no HX.out HOK.out)) (by go_grown))
        · go_wp2_with fail
          go_meet
          exact ⟨by rw [HK.out]; exact allOk_mk (fun j y hj _ => HP.out j y hj (by have := (List.getElem?_eq_some_iff.1 hj).1; omega)), by rw [HN.out]; exact numCut_end hk hlt HO.out HZ.out hBw⟩
  case rest =>
    obtain ⟨hok, A, c, rfl, hlc, hC, hZ, hB⟩ := hcut
    have hbd := nums_bd hok HV.out
    have hlen := nums_len hl
    have KZ := Lib.hid (ko_z hok)
    have KH := Lib.hid (fun (h90 : ¬ last = 90) => @ko_held s last hok h90)
    have KT := Lib.hid (fun (h90 : ¬ last = 90) hh => @ko_hit s last hok h90 hh)
    have KN := Lib.hid (fun (h90 : ¬ last = 90) hh => @ko_none s last hok h90 hh)
    generalize numsOf s = n at *
    have HC := Lib.hid hC
    have HZ := Lib.hid hZ
    have hz : w.heap.size < wc.heap.size := (Array.getElem?_eq_some_iff.1 hZ).1
    have c0 := hZ.c0
    have c1 := hZ.c1
    have c2 := hZ.c2
    have c3 := hZ.c3
    have z0 := hZ.fz 0
    have z1 := hZ.fz 1
    have z2 := hZ.fz 2
    have z3 := hZ.fz 3
    clear hok hC hZ HNO HV
    by_cases h90 : last = 90
    · subst h90
      by_cases h0 : n.length = 0
      · have q0 : ((n.length : Int) == 0) = true := beq_iff_eq.2 (by omega)
        have HK := Lib.hid (show KOIs s 90 ⟨3, 0, 0, 1⟩ true by have := KZ.out; rw [decide_eq_true h0] at this; exact this)
        clear h0 hbd
        go_wp2_with fail
        exact bodyPost_ret (res_set rfl _ _ w.heap.size ⟨3, 0, 0, 1⟩ _ rfl rfl HZ.out) rfl ⟨⟨3, 0, 0, 1⟩, true, rfl, HK.out, by go_grown⟩
      · have q0 : ((n.length : Int) == 0) = false := beq_eq_false_iff_ne.2 (by omega)
        have HK := Lib.hid (show KOIs s 90 ⟨3, 0, 0, 1⟩ false by have := KZ.out; rw [decide_eq_false h0] at this; exact this)
        clear h0 hbd
        go_wp2_with fail
        exact bodyPost_ret (res_set rfl _ _ w.heap.size ⟨3, 0, 0, 1⟩ _ rfl rfl HZ.out) rfl ⟨⟨3, 0, 0, 1⟩, false, rfl, HK.out, by go_grown⟩
    · have q90 : (last == 90) = false := by simpa using h90
      have H90 := Lib.hid h90
      clear h90
      go_upto_if 44 with fail
      go_cut [11] (HeldCut n wc)
      case first =>
        by_cases h2 : n.length = 2
        · obtain ⟨ad, rfl, hx1⟩ := int_at HC.out 1 (by omega)
          obtain ⟨v1, hv1⟩ : ∃ v1, v1 = n.getD 1 0 := ⟨_, rfl⟩
          have hb1 := hbd (n.getD 1 0) (by rw [List.getD_eq_getElem?_getD, List.getElem?_eq_getElem (show 1 < n.length by omega)]; exact List.getElem_mem _)
          have hh : heldOf n = v1 - 1 := by unfold heldOf; rw [if_pos h2, hv1]
          rw [← hv1] at hx1 hb1
          have hx1' : wc.cell? ⟨ad.block, ad.off + 1, none⟩ = some (.int .i64 v1) := by simpa [Addr.add] using hx1
          clear hx1
          have HH := Lib.hid hh
          have q2 : ((n.length : Int) == 2) = true := beq_iff_eq.2 (by omega)
          have hi : (1 : Int) < (n.length : Int) := by omega
          clear hh hv1 hbd h2
          go_wp2_with fail
          all_goals first
            | (go_meet; refine heldCut_mk HH.out ?_ ?_ <;> omega)
            | (have hko : KOIs s last ⟨0, 0, 0, 0⟩ false := (by refine KH.out H90.out ?_; rw [HH.out]; omega)
               exact bodyPost_ret (res_set rfl _ _ w.heap.size ⟨0, 0, 0, 0⟩ _ rfl rfl HZ.out) rfl (koNo hko (by go_grown)))
        · have q2 : ((n.length : Int) == 2) = false := beq_eq_false_iff_ne.2 (by omega)
          have hh : heldOf n = 0 := by unfold heldOf; rw [if_neg h2]
          have HH := Lib.hid hh
          clear hh hbd h2
          go_wp2_with fail
          go_meet
          exact heldCut_mk HH.out (by omega) (by omega)
      case rest =>
        obtain ⟨hh, rfl, rfl⟩ := hcut
        have KT2 := Lib.hid (fun (j : Nat) (a b c d : Int) (t : ByteArray) (hj : seqAll[j]? = some (⟨a, b, c, d⟩, t)) (hf : fits n last t = true) => (KT.out H90.out hh hj hf : KOIs s last ⟨a, b, c, heldOf n⟩ true))
        have KN2 := Lib.hid (KN.out H90.out hh)
        generalize heldOf n = hd at *
        clear KZ KH KT KN hh
        obtain ⟨wo, rfl⟩ : ∃ wo : World, wo = wc := ⟨_, rfl⟩
        go_wp2_with (first
          | (go_at_call 32; refine (sequences_calls _).mono ?_; rintro e w2 ⟨b, rfl, hbB, hkm, hb2⟩; have HKM := Lib.hid hkm; have hB2 : Below wo.heap.size wo w2 := hb2; clear hkm hb2)
          | (at_range; refine wpList_range_key rfl _ rfl b seqAll rfl HKM.out ?_; intro w3 hR hg3 hs3; have HR3 := Lib.hid hR; have hB3 : Below wo.heap.size wo w3 := hB2.grown hg3 hB2.size (by intro g h; cases h); clear hR hg3)
          | go_in)
        go_frame
        have hrr : wo.heap.size ≤ w2.heap.size := hB2.size
        generalize hr : w2.heap.size = r at *
        clear hr hB2 hs3
        go_loopw [12] (fun _ wr => rangeRel wo n last b r wr) (fun _ wr => wr.rangeLeft b r)
        case atStart => exact ⟨#[], HR3.out, fun _ _ _ _ h => by simp at h, hB3⟩
        case round =>
          obtain ⟨seen, hR, hmiss, hBr⟩ := hrel
          have HR := Lib.hid hR
          have HM := Lib.hid hmiss
          have hBw : Below w.heap.size w wr := bt hB hBr
          have HZr : Hid (Zero4 w.heap.size wr) := Lib.hid (HZ.out.below hBr)
          clear hR hmiss hB3
          go_wp2_with (at_next; refine wpList_next_key rfl _ rfl b r seqAll seen rfl HR.out ?_ ?_)
          · intro hall
            have hko : KOIs s last ⟨0, 0, 0, 0⟩ false := KN2.out (fun j k0 t hj => HM.out j k0 t hj (by have := hall j (List.getElem?_eq_some_iff.1 hj).1; simpa using this))
            have HKO := Lib.hid hko
            clear hall hko
            have d0 := HZr.out.c0
            have d1 := HZr.out.c1
            have d2 := HZr.out.c2
            have d3 := HZr.out.c3
            have y0 := HZr.out.fz 0
            have y1 := HZr.out.fz 1
            have y2 := HZr.out.fz 2
            have y3 := HZr.out.fz 3
            have hzr : w.heap.size < wr.heap.size := (Array.getElem?_eq_some_iff.1 HZr.out).1
            clear c0 c1 c2 c3 z0 z1 z2 z3
            go_wp2_with fail
            exact bodyPost_ret (res_set rfl _ _ w.heap.size ⟨0, 0, 0, 0⟩ _ rfl rfl HZr.out) rfl (koNo HKO.out (by go_grown))
          · intro j k t w4 hj hns hR4 hg4 hs4 hen
            have hB4 := range_below hBr hg4 hrr
            have hR4' := Lib.hid hR4
            have HJ := Lib.hid hj
            have HNS := Lib.hid hns
            obtain ⟨ht1, ht3⟩ := seq_size hj
            have hti : t.size - 1 < t.size := by omega
            have HT := Lib.hid (lastB_at hti)
            obtain ⟨a, k1, k2, k3⟩ := k
            unfold kv at hen ⊢
            have HZ4 : Hid (Zero4 w.heap.size w4) := Lib.hid (HZ.out.below hB4)
            have hBw4 : Below w.heap.size w w4 := bt hB hB4
            have HC4 : Hid (Kd.C (Kd.int .i64) w4 A n.length n) := Lib.hid (Kd.C_below HC.out hB4)
            have hz4 : w.heap.size < w4.heap.size := (Array.getElem?_eq_some_iff.1 HZ4.out).1
            clear hj hns hR4 hg4 hs4 HC HZ hBr hBw HZr c0 c1 c2 c3 z0 z1 z2 z3
            have d0 := HZ4.out.c0
            have d1 := HZ4.out.c1
            have d2 := HZ4.out.c2
            have d3 := HZ4.out.c3
            have y0 := HZ4.out.fz 0
            have y1 := HZ4.out.fz 1
            have y2 := HZ4.out.fz 2
            have y3 := HZ4.out.fz 3
            by_cases hm : lastB t = last
            · have qm : (((t[t.size - 1]'hti).toNat : Int) != last) = false := by rw [HT.out, hm]; simp
              by_cases h6 : last = 126
              · subst h6
                have q6 : ((126 : Int) != 126) = false := rfl
                have hF := fits_eq (n := n) hm
                by_cases h1 : 1 ≤ n.length
                · have q1 : decide ((1 : Int) ≤ (n.length : Int)) = true := by simp; omega
                  by_cases h2 : n.length ≤ 2
                  · have q2 : decide ((n.length : Int) ≤ 2) = true := by simp; omega
                    obtain ⟨ad, rfl, hx0⟩ := int_at HC4.out 0 (by omega)
                    have hi : (0 : Int) < (n.length : Int) := by omega
                    have hi' : 0 < n.length := by omega
                    have hx0' : ∀ o, (w4.alloc o).cell? ad = some (.int .i64 (n.getD 0 0)) := fun o => pw_cell_below (below_alloc (Below.refl _ _) o) (by simpa [Addr.add] using hx0)
                    have hb0 := hbd (n.getD 0 0) (by rw [List.getD_eq_getElem?_getD, List.getElem?_eq_getElem hi']; exact List.getElem_mem _)
                    clear hx0
                    rw [decide_eq_true h1, decide_eq_true h2] at hF
                    simp only [Bool.true_and] at hF
                    generalize n.getD 0 0 = v0 at *
                    have hlit := Lib.itoa_length_le v0 (by omega) (by omega)
                    generalize hit : Lib.itoa v0 = it at *
                    have hsit : (⟨it.toArray⟩ : ByteArray).size ≤ 21 := by simpa [ByteArray.size] using hlit
                    have HIT := Lib.hid hit
                    have hKQ : KQ w4.heap.size a k1 k2 hd (w4.alloc (.cells #[.int .i64 a, .int .i32 k1, .int .i64 k2, .int .i64 hd] 23)) := heap_alloc_new w4 _
                    have HKQ := Lib.hid hKQ
                    clear hit hKQ hm hbd h1 h2
                    have HB5 : ∀ w', Below w4.heap.size w4 w' → Below w.heap.size w w' := fun w' h => bt hBw4 h
                    have HB5' := Lib.hid HB5
                    clear HB5
                    cases hx : ((⟨it.toArray⟩ ++ ⟨#[126]⟩ : ByteArray).toList == t.toList) with
                    | true =>
                      have HK := Lib.hid (KT2.out _ _ _ _ _ _ HJ.out (by rw [hF, hx]))
                      clear hF
                      go_wp2_with (go_at_call 30; refine (itoa_any v0 (by omega) _ (HTB.out _ (by go_grown))).mono ?_; rw [HIT.out]; rintro e w5 ⟨rfl, hb5⟩; have hK5 := KQ.below HKQ.out hb5; have hb45 : Below w4.heap.size w4 w5 := bt (below_alloc (Below.refl _ _) _) hb5; have hBw5 : Below w.heap.size w w5 := bt hBw4 hb45; have hZ5 : Hid (Zero4 w.heap.size w5) := Lib.hid (HZ4.out.below hb45); have hz5 : w.heap.size < w5.heap.size := (Array.getElem?_eq_some_iff.1 hZ5.out).1; (obtain ⟨e0, e1, e2, e3⟩ := hK5.cells); clear hK5 hb5 d0 d1 d2 d3 y0 y1 y2 y3; have d0 := hZ5.out.c0; have d1 := hZ5.out.c1; have d2 := hZ5.out.c2; have d3 := hZ5.out.c3; have y0 := hZ5.out.fz 0; have y1 := hZ5.out.fz 1; have y2 := hZ5.out.fz 2; have y3 := hZ5.out.fz 3)
                      exact bodyPost_ret (res_set rfl _ _ w.heap.size ⟨a, k1, k2, hd⟩ _ rfl rfl hZ5.out) rfl ⟨_, _, rfl, HK.out, by go_grown⟩
                    | false =>
                      have HF := Lib.hid (show fits n 126 t = false by rw [hF, hx])
                      clear hF
                      go_wp2_with (go_at_call 30; refine (itoa_any v0 (by omega) _ (HTB.out _ (by go_grown))).mono ?_; rw [HIT.out]; rintro e w5 ⟨rfl, hb5⟩; have hK5 := KQ.below HKQ.out hb5; have hb45 : Below w4.heap.size w4 w5 := bt (below_alloc (Below.refl _ _) _) hb5; have hBw5 : Below w.heap.size w w5 := bt hBw4 hb45; have hZ5 : Hid (Zero4 w.heap.size w5) := Lib.hid (HZ4.out.below hb45); have hz5 : w.heap.size < w5.heap.size := (Array.getElem?_eq_some_iff.1 hZ5.out).1; (obtain ⟨e0, e1, e2, e3⟩ := hK5.cells); clear hK5 hb5 d0 d1 d2 d3 y0 y1 y2 y3; have d0 := hZ5.out.c0; have d1 := hZ5.out.c1; have d2 := hZ5.out.c2; have d3 := hZ5.out.c3; have y0 := hZ5.out.fz 0; have y1 := hZ5.out.fz 1; have y2 := hZ5.out.fz 2; have y3 := hZ5.out.fz 3)
                      exact range_next HR.out hR4'.out HJ.out HNS.out HM.out HF.out hB4 hb45
                  · have q2 : decide ((n.length : Int) ≤ 2) = false := by simp; omega
                    have HF := Lib.hid (show fits n 126 t = false by rw [hF, decide_eq_false h2]; simp)
                    clear hF hm hbd h1 h2
                    go_wp2_with fail
                    exact range_next HR.out hR4'.out HJ.out HNS.out HM.out HF.out hB4 (by go_grown)
                · have q1 : decide ((1 : Int) ≤ (n.length : Int)) = false := by simp; omega
                  have HF := Lib.hid (show fits n 126 t = false by rw [hF, decide_eq_false h1]; simp)
                  clear hF hm hbd h1
                  go_wp2_with fail
                  exact range_next HR.out hR4'.out HJ.out HNS.out HM.out HF.out hB4 (by go_grown)
              · have q6 : (last != 126) = true := by simpa using h6
                have hF := fits_ne (n := n) hm h6
                by_cases h0 : n.length = 0
                · have q0 : ((n.length : Int) == 0) = true := beq_iff_eq.2 (by omega)
                  have HK := Lib.hid (KT2.out _ _ _ _ _ _ HJ.out (by rw [hF, decide_eq_true h0]; rfl))
                  clear hF h0 hm h6 hbd
                  go_wp2_with fail
                  exact bodyPost_ret (res_setR rfl _ w4 _ w.heap.size ⟨a, k1, k2, hd⟩ _ rfl rfl HZ4.out) rfl ⟨_, _, rfl, HK.out, by go_grown⟩
                · have q0 : ((n.length : Int) == 0) = false := beq_eq_false_iff_ne.2 (by omega)
                  by_cases h2 : n.length = 2
                  · have q2 : ((n.length : Int) == 2) = true := beq_iff_eq.2 (by omega)
                    obtain ⟨ad, rfl, hx0⟩ := int_at HC4.out 0 (by omega)
                    have hi : (0 : Int) < (n.length : Int) := by omega
                    have hi' : 0 < n.length := by omega
                    have hx0' : ∀ o, (w4.alloc o).cell? ad = some (.int .i64 (n.getD 0 0)) := fun o => pw_cell_below (below_alloc (Below.refl _ _) o) (by simpa [Addr.add] using hx0)
                    clear hx0
                    cases hx : (n.getD 0 0 == 1) with
                    | true =>
                      have HK := Lib.hid (KT2.out _ _ _ _ _ _ HJ.out (by rw [hF, decide_eq_false h0, decide_eq_true h2, hx]; rfl))
                      generalize n.getD 0 0 = v0 at *
                      clear hF h0 hm h6 hbd h2
                      go_wp2_with fail
                      exact bodyPost_ret (res_setR rfl _ w4 _ w.heap.size ⟨a, k1, k2, hd⟩ _ rfl rfl HZ4.out) rfl ⟨_, _, rfl, HK.out, by go_grown⟩
                    | false =>
                      have HF := Lib.hid (show fits n last t = false by rw [hF, decide_eq_false h0, decide_eq_true h2, hx]; rfl)
                      generalize n.getD 0 0 = v0 at *
                      clear hF h0 hm h6 hbd h2
                      go_wp2_with fail
                      exact range_next HR.out hR4'.out HJ.out HNS.out HM.out HF.out hB4 (by go_grown)
                  · have q2 : ((n.length : Int) == 2) = false := beq_eq_false_iff_ne.2 (by omega)
                    have HF := Lib.hid (show fits n last t = false by rw [hF, decide_eq_false h0, decide_eq_false h2]; rfl)
                    clear hF h0 hm h6 hbd h2
                    go_wp2_with fail
                    exact range_next HR.out hR4'.out HJ.out HNS.out HM.out HF.out hB4 (by go_grown)
            · have qm : (((t[t.size - 1]'hti).toNat : Int) != last) = true := by rw [HT.out]; simpa using hm
              have HF := Lib.hid (fits_last (n := n) hm)
              clear hm hbd
              go_wp2_with fail
              exact range_next HR.out hR4'.out HJ.out HNS.out HM.out HF.out hB4 (by go_grown)
end Go.Proofs.YtampklajoikbiaaDoor
