/- keys.told: the key that a sequence tells. -/
import Derived.Test.YtampklajoikbiaaDoorG
import Derived.Test.YtampklajoikbiaaDoorA
set_option linter.unusedVariables false
set_option linter.unusedSimpArgs false
namespace Go.Proofs.YtampklajoikbiaaDoor
open Go.RowKit Go.Proofs.YtampklajoikbiaaDoorW.PrintWords PKeysRead

def one48 (p : ByteArray) : Bool := Lib.trimLeftB p.data.toList 48 == [49]
def condC (s p0 : ByteArray) (np : Nat) : Bool := s.toList.isEmpty || (decide (np = 2) && one48 p0)
def srch (last : Int) (C : Bool) : Nat → Int → Option Int
  | 0, _ => none
  | f + 1, k => if 11 < k then none else if letterF k = last ∧ C = true then some k else srch last C f (k + 1)
def fnd (n : Int) : Nat → Int → Option Int
  | 0, _ => none
  | f + 1, k => if 12 < k then none else if numberF 15 k = n then some k else fnd n f (k + 1)
def kfnd (n : Int) : Nat → Int → Option Int
  | 0, _ => none
  | f + 1, k => if 14 < k then none else if numberF k 0 = n ∧ n ≠ 0 then some k else kfnd n f (k + 1)
def atoiV (s : ByteArray) : Int := match Lib.atoiAll s.data.toList with | .ok v => v | _ => 0
def tail126 (p0 : ByteArray) (h : Int) : Option Key :=
  if isOk p0 = true then
    match kfnd (atoiV p0) 4 12 with
    | some k => some ⟨k, 0, 0, h⟩
    | none => match fnd (atoiV p0) 13 1 with
      | some f => some ⟨15, 0, f, h⟩
      | none => none
  else none
def told2 (s p0 : ByteArray) (np : Nat) (last h : Int) : Option Key :=
  if last = 90 ∧ s.toList.isEmpty = true then some ⟨3, 0, 0, 1⟩
  else match srch last (condC s p0 np) 7 6 with
    | some k => some ⟨k, 0, 0, h⟩
    | none => if last ≠ 126 then none else tail126 p0 h
def TPost (r : Option Key) (w : World) (e : Ending) (w' : World) : Prop :=
  (match r with
    | some k => e = .returned (.tuple #[kv k, .bool true])
    | none => e = .returned (.tuple #[.agg #[.int .i64 0, .int .i32 0, .int .i64 0, .int .i64 0], .bool false])) ∧ Below w.heap.size w w'


def rel1T (C : Bool) (last : Int) (i : Value) : Prop := ∃ k : Int, 6 ≤ k ∧ k ≤ 12 ∧ i = .int .i64 k ∧ srch last C 7 6 = srch last C (13 - k).toNat k
theorem rel1T_0 (C : Bool) (last : Int) : rel1T C last (.int .i64 6) := ⟨6, by omega, by omega, rfl, rfl⟩
theorem srch_step {C : Bool} {last k : Int} (h0 : 6 ≤ k) (h1 : k ≤ 11) : srch last C (13 - k).toNat k = if letterF k = last ∧ C = true then some k else srch last C (13 - (k + 1)).toNat (k + 1) := by
  obtain ⟨m, hm⟩ : ∃ m, (13 - k).toNat = m + 1 := ⟨(12 - k).toNat, by omega⟩
  rw [hm, srch, if_neg (by omega), show (13 - (k + 1)).toNat = m by omega]
theorem rel1T_next {C : Bool} {last k : Int} (h0 : 6 ≤ k) (h1 : k ≤ 11) (h : srch last C 7 6 = srch last C (13 - k).toNat k) (hn : ¬ (letterF k = last ∧ C = true)) : rel1T C last (.int .i64 (k + 1)) :=
  ⟨k + 1, by omega, by omega, rfl, by rw [h, srch_step h0 h1, if_neg hn]⟩
theorem srch_hit {C : Bool} {last k : Int} (h0 : 6 ≤ k) (h1 : k ≤ 11) (h : srch last C 7 6 = srch last C (13 - k).toNat k) (hl : letterF k = last) (hC : C = true) : srch last C 7 6 = some k := by
  rw [h, srch_step h0 h1, if_pos ⟨hl, hC⟩]
theorem srch_end {C : Bool} {last : Int} (h : srch last C 7 6 = srch last C (13 - 12 : Int).toNat 12) : srch last C 7 6 = none := by rw [h]; rfl
theorem told2_hit {s p0 : ByteArray} {np : Nat} {last h k : Int} (h90 : ¬ (last = 90 ∧ s.toList.isEmpty = true)) (hk : srch last (condC s p0 np) 7 6 = some k) : told2 s p0 np last h = some ⟨k, 0, 0, h⟩ := by
  unfold told2; rw [if_neg h90, hk]
theorem told2_no {s p0 : ByteArray} {np : Nat} {last h : Int} (h90 : ¬ (last = 90 ∧ s.toList.isEmpty = true)) (hk : srch last (condC s p0 np) 7 6 = none) (hl : last ≠ 126) : told2 s p0 np last h = none := by
  unfold told2; rw [if_neg h90, hk]; simp [hl]
theorem told2_tail {s p0 : ByteArray} {np : Nat} {h : Int} (hk : srch 126 (condC s p0 np) 7 6 = none) : told2 s p0 np 126 h = tail126 p0 h := by
  unfold told2; rw [if_neg (by omega), hk]; simp
theorem tpost_some {r : Option Key} {k : Key} {w w' : World} (h : r = some k) (hb : Below w.heap.size w w') : TPost r w (.returned (.tuple #[kv k, .bool true])) w' := by
  subst h; exact ⟨rfl, hb⟩
theorem tpost_none {r : Option Key} {w w' : World} (h : r = none) (hb : Below w.heap.size w w') : TPost r w (.returned (.tuple #[kv ⟨0, 0, 0, 0⟩, .bool false])) w' := by
  subst h; exact ⟨rfl, hb⟩
theorem letter_no90 (k : Int) : ¬ letterF k = 90 := by
  unfold letterF
  repeat' split
  all_goals decide
theorem letter_no126 (k : Int) : ¬ letterF k = 126 := by
  unfold letterF
  repeat' split
  all_goals decide
theorem srch_no (last : Int) (C : Bool) (h : ∀ k, ¬ (letterF k = last ∧ C = true)) : ∀ f k, srch last C f k = none
  | 0, k => rfl
  | f + 1, k => by
    unfold srch
    split
    · rfl
    · rw [if_neg (h k), srch_no last C h f (k + 1)]
theorem condC_nil {s p0 : ByteArray} {np : Nat} (h : s.toList.isEmpty = true) : condC s p0 np = true := by simp [condC, h]
theorem condC_1 {s p0 : ByteArray} (h : s.toList.isEmpty = false) : condC s p0 1 = false := by simp [condC, h]
theorem condC_2 {s p0 : ByteArray} (h : s.toList.isEmpty = false) : condC s p0 2 = one48 p0 := by simp [condC, h]

def rel2T (n : Int) (w : World) (i : Value) (wr : World) : Prop := ∃ k : Int, 12 ≤ k ∧ k ≤ 15 ∧ i = .int .i64 k ∧ kfnd n 4 12 = kfnd n (16 - k).toNat k ∧ Below w.heap.size w wr ∧ Zero4 w.heap.size wr
theorem kfnd_step {n k : Int} (h0 : 12 ≤ k) (h1 : k ≤ 14) : kfnd n (16 - k).toNat k = if numberF k 0 = n ∧ n ≠ 0 then some k else kfnd n (16 - (k + 1)).toNat (k + 1) := by
  obtain ⟨m, hm⟩ : ∃ m, (16 - k).toNat = m + 1 := ⟨(15 - k).toNat, by omega⟩
  rw [hm, kfnd, if_neg (by omega), show (16 - (k + 1)).toNat = m by omega]
theorem rel2T_next {n k : Int} {w wr : World} (h0 : 12 ≤ k) (h1 : k ≤ 14) (h : Hid (kfnd n 4 12 = kfnd n (16 - k).toNat k)) (hn : ¬ (numberF k 0 = n ∧ n ≠ 0)) (hb : Below w.heap.size w wr) (hz : Zero4 w.heap.size wr) : rel2T n w (.int .i64 (k + 1)) wr :=
  ⟨k + 1, by omega, by omega, rfl, by rw [h.out, kfnd_step h0 h1, if_neg hn], hb, hz⟩
theorem kfnd_hit {n k : Int} (h0 : 12 ≤ k) (h1 : k ≤ 14) (h : Hid (kfnd n 4 12 = kfnd n (16 - k).toNat k)) (hl : numberF k 0 = n ∧ n ≠ 0) : kfnd n 4 12 = some k := by rw [h.out, kfnd_step h0 h1, if_pos hl]
theorem kfnd_end {n k : Int} (h1 : 14 < k) (h2 : k ≤ 15) (h : Hid (kfnd n 4 12 = kfnd n (16 - k).toNat k)) : kfnd n 4 12 = none := by
  obtain rfl : k = 15 := by omega
  rw [h.out]; rfl
def rel3T (n : Int) (w : World) (i : Value) (wr : World) : Prop := ∃ k : Int, 1 ≤ k ∧ k ≤ 13 ∧ i = .int .i64 k ∧ fnd n 13 1 = fnd n (14 - k).toNat k ∧ Below w.heap.size w wr ∧ Zero4 w.heap.size wr
theorem fnd_step {n k : Int} (h0 : 1 ≤ k) (h1 : k ≤ 12) : fnd n (14 - k).toNat k = if numberF 15 k = n then some k else fnd n (14 - (k + 1)).toNat (k + 1) := by
  obtain ⟨m, hm⟩ : ∃ m, (14 - k).toNat = m + 1 := ⟨(13 - k).toNat, by omega⟩
  rw [hm, fnd, if_neg (by omega), show (14 - (k + 1)).toNat = m by omega]
theorem rel3T_next {n k : Int} {w wr : World} (h0 : 1 ≤ k) (h1 : k ≤ 12) (h : Hid (fnd n 13 1 = fnd n (14 - k).toNat k)) (hn : ¬ (numberF 15 k = n)) (hb : Below w.heap.size w wr) (hz : Zero4 w.heap.size wr) : rel3T n w (.int .i64 (k + 1)) wr :=
  ⟨k + 1, by omega, by omega, rfl, by rw [h.out, fnd_step h0 h1, if_neg hn], hb, hz⟩
theorem fnd_hit {n k : Int} (h0 : 1 ≤ k) (h1 : k ≤ 12) (h : Hid (fnd n 13 1 = fnd n (14 - k).toNat k)) (hl : numberF 15 k = n) : fnd n 13 1 = some k := by rw [h.out, fnd_step h0 h1, if_pos hl]
theorem fnd_end {n k : Int} (h1 : 12 < k) (h2 : k ≤ 13) (h : Hid (fnd n 13 1 = fnd n (14 - k).toNat k)) : fnd n 13 1 = none := by
  obtain rfl : k = 13 := by omega
  rw [h.out]; rfl
theorem tail_k {p0 : ByteArray} {h k n : Int} (hv : n = atoiV p0) (hok : isOk p0 = true) (hk : kfnd n 4 12 = some k) : tail126 p0 h = some ⟨k, 0, 0, h⟩ := by subst hv; unfold tail126; rw [if_pos hok, hk]
theorem tail_f {p0 : ByteArray} {h k n : Int} (hv : n = atoiV p0) (hok : isOk p0 = true) (hn : kfnd n 4 12 = none) (hk : fnd n 13 1 = some k) : tail126 p0 h = some ⟨15, 0, k, h⟩ := by subst hv; unfold tail126; rw [if_pos hok, hn, hk]
theorem tail_n {p0 : ByteArray} {h n : Int} (hv : n = atoiV p0) (hok : isOk p0 = true) (hn : kfnd n 4 12 = none) (hk : fnd n 13 1 = none) : tail126 p0 h = none := by subst hv; unfold tail126; rw [if_pos hok, hn, hk]
theorem tail_bad {p0 : ByteArray} {h : Int} (hok : isOk p0 = false) : tail126 p0 h = none := by unfold tail126; rw [if_neg (by rw [hok]; decide)]
theorem isOk_val {s : ByteArray} (h : isOk s = true) : Lib.atoiAll s.data.toList = .ok (atoiV s) := by
  unfold isOk at h
  unfold atoiV
  split at h
  · rename_i v hv; rw [hv]
  · cases h

set_option maxRecDepth 100000 in
set_option maxHeartbeats 8000000 in
theorem told_1z (s p0 : ByteArray) (w : World) (hg : Gl w) (hs : s.size ≤ 1000000) (hp : partsOf s = [p0]) (hsz : p0.size ≤ 1000000)  (hE : s.toList.isEmpty = true) :
    Calls Tryd.prog 73 #[.string s, .int .u8 90] w (TPost (told2 s p0 1 90 0) w) := by
  have HG := Lib.hid hg
  have HP := Lib.hid hp
  clear hg hp
  have hr : told2 s p0 1 90 0 = some ⟨3, 0, 0, 1⟩ := by unfold told2; rw [if_pos ⟨rfl, hE⟩]
  have HR := Lib.hid hr
  clear hr
  go_enter Tryd.func73, Tryd.ntmps73
  go_wp2_with (go_at_call 45; refine (split_calls s hs _ (HG.out.below (by go_grown))).mono ?_; rintro e w1 ⟨rfl, hcell, hsz1, hb⟩; rw [HP.out] at hcell; rw [HP.out]; have h0 := hcell 0 _ rfl; rw [World.size_alloc] at h0; obtain ⟨hcc, hff⟩ := bcell hb; have hB1 : Below w.heap.size w w1 := bt (by go_grown) hb; have hG1 : Hid (Gl w1) := Lib.hid ((HG.out.below (by go_grown)).below hb); have hz1 : w.heap.size + 1 < w1.heap.size := (by have := hsz1; simp at this; omega); have hZ1 : Hid (Zero4 w.heap.size w1) := Lib.hid ((Zero4.new w).below hb); clear hcell hsz1 hb)
  (obtain ⟨f0, f1, f2, f3⟩ := set4 (W := w1) (g := w.heap.size) hZ1.out.c0 hZ1.out.c1 hZ1.out.c2 hZ1.out.c3; exact bodyPost_ret (res_key rfl _ _ w.heap.size ⟨3, 0, 0, 1⟩ _ rfl rfl f0 f1 f2 f3) rfl (tpost_some HR.out (by go_grown)))

set_option maxRecDepth 100000 in
set_option maxHeartbeats 8000000 in
theorem told_1y (s p0 : ByteArray) (w : World) (hg : Gl w) (hs : s.size ≤ 1000000) (hp : partsOf s = [p0]) (hsz : p0.size ≤ 1000000)  (hE : s.toList.isEmpty = false) :
    Calls Tryd.prog 73 #[.string s, .int .u8 90] w (TPost (told2 s p0 1 90 0) w) := by
  have HG := Lib.hid hg
  have HP := Lib.hid hp
  clear hg hp
  have hr : told2 s p0 1 90 0 = none := by
    unfold told2; rw [if_neg (by rw [hE]; simp), condC_1 hE]; rfl
  have HR := Lib.hid hr
  clear hr
  go_enter Tryd.func73, Tryd.ntmps73
  go_wp2_with (go_at_call 45; refine (split_calls s hs _ (HG.out.below (by go_grown))).mono ?_; rintro e w1 ⟨rfl, hcell, hsz1, hb⟩; rw [HP.out] at hcell; rw [HP.out]; have h0 := hcell 0 _ rfl; rw [World.size_alloc] at h0; obtain ⟨hcc, hff⟩ := bcell hb; have hB1 : Below w.heap.size w w1 := bt (by go_grown) hb; have hG1 : Hid (Gl w1) := Lib.hid ((HG.out.below (by go_grown)).below hb); have hz1 : w.heap.size + 1 < w1.heap.size := (by have := hsz1; simp at this; omega); have hZ1 : Hid (Zero4 w.heap.size w1) := Lib.hid ((Zero4.new w).below hb); clear hcell hsz1 hb)
  go_loop [10] (fun i => ∃ k : Int, 6 ≤ k ∧ k ≤ 12 ∧ i = .int .i64 k) (fun i => 12 - (intOf i).toNat)
  case atStart => exact ⟨6, by omega, by omega, rfl⟩
  case round =>
    obtain ⟨k, hk0, hk1, rfl⟩ := hrel
    have hne := letter_no90 k
    go_wp2_with (first | (go_at_call 29; refine (letter_calls k _).mono ?_; rintro e w2 ⟨rfl, rfl⟩) | fail)
    · go_round
      case rel => exact ⟨k + 1, by omega, by omega, rfl⟩
      case measure => simp [intOf]; omega
    · (obtain ⟨f0, f1, f2, f3⟩ := set4 (W := w1) (g := w.heap.size) hZ1.out.c0 hZ1.out.c1 hZ1.out.c2 hZ1.out.c3; exact bodyPost_ret (res_key rfl _ _ w.heap.size ⟨0, 0, 0, 0⟩ _ rfl rfl f0 f1 f2 f3) rfl (tpost_none HR.out (by go_grown)))

set_option maxRecDepth 100000 in
set_option maxHeartbeats 8000000 in
theorem told_1b (s p0 : ByteArray) (w : World) (hg : Gl w) (hs : s.size ≤ 1000000) (hp : partsOf s = [p0]) (hsz : p0.size ≤ 1000000)  (hok : isOk p0 = false) :
    Calls Tryd.prog 73 #[.string s, .int .u8 126] w (TPost (told2 s p0 1 126 0) w) := by
  have HG := Lib.hid hg
  have HP := Lib.hid hp
  clear hg hp
  have hr : told2 s p0 1 126 0 = none := by
    rw [told2_tail (srch_no _ _ (fun k h => letter_no126 k h.1) _ _), tail_bad hok]
  have HR := Lib.hid hr
  have HO := Lib.hid hok
  clear hr hok
  go_enter Tryd.func73, Tryd.ntmps73
  go_wp2_with (go_at_call 45; refine (split_calls s hs _ (HG.out.below (by go_grown))).mono ?_; rintro e w1 ⟨rfl, hcell, hsz1, hb⟩; rw [HP.out] at hcell; rw [HP.out]; have h0 := hcell 0 _ rfl; rw [World.size_alloc] at h0; obtain ⟨hcc, hff⟩ := bcell hb; have hB1 : Below w.heap.size w w1 := bt (by go_grown) hb; have hG1 : Hid (Gl w1) := Lib.hid ((HG.out.below (by go_grown)).below hb); have hz1 : w.heap.size + 1 < w1.heap.size := (by have := hsz1; simp at this; omega); have hZ1 : Hid (Zero4 w.heap.size w1) := Lib.hid ((Zero4.new w).below hb); clear hcell hsz1 hb)
  go_loop [10] (fun i => ∃ k : Int, 6 ≤ k ∧ k ≤ 12 ∧ i = .int .i64 k) (fun i => 12 - (intOf i).toNat)
  case atStart => exact ⟨6, by omega, by omega, rfl⟩
  case round =>
    obtain ⟨k, hk0, hk1, rfl⟩ := hrel
    have hne := letter_no126 k
    go_wp2_with (first | (go_at_call 29; refine (letter_calls k _).mono ?_; rintro e w2 ⟨rfl, rfl⟩) | (go_at_call 48; refine (atoi_bad p0 hsz HO.out _ hG1.out).mono ?_; rintro e w4 ⟨v4, N4, rfl, hb4⟩; have hB4 : Below w.heap.size w w4 := bt (by go_grown) hb4; have hZ4 : Hid (Zero4 w.heap.size w4) := Lib.hid (hZ1.out.below hb4); clear hb4; have c0_4 := hZ4.out.c0; have c1_4 := hZ4.out.c1; have c2_4 := hZ4.out.c2; have c3_4 := hZ4.out.c3; have z0_4 := hZ4.out.fz 0; have z1_4 := hZ4.out.fz 1; have z2_4 := hZ4.out.fz 2; have z3_4 := hZ4.out.fz 3))
    · go_round
      case rel => exact ⟨k + 1, by omega, by omega, rfl⟩
      case measure => simp [intOf]; omega
    · (obtain ⟨f0, f1, f2, f3⟩ := set4 (W := w4) (g := w.heap.size) hZ4.out.c0 hZ4.out.c1 hZ4.out.c2 hZ4.out.c3; exact bodyPost_ret (res_key rfl _ _ w.heap.size ⟨0, 0, 0, 0⟩ _ rfl rfl f0 f1 f2 f3) rfl (tpost_none HR.out (by go_grown)))

set_option maxRecDepth 100000 in
set_option maxHeartbeats 8000000 in
theorem told_1a (s p0 : ByteArray) (w : World) (hg : Gl w) (hs : s.size ≤ 1000000) (hp : partsOf s = [p0]) (hsz : p0.size ≤ 1000000)  (hok : isOk p0 = true) :
    Calls Tryd.prog 73 #[.string s, .int .u8 126] w (TPost (told2 s p0 1 126 0) w) := by
  have HG := Lib.hid hg
  have HP := Lib.hid hp
  clear hg hp
  have hr := told2_tail (s := s) (p0 := p0) (np := 1) (h := 0) (srch_no _ _ (fun k h => letter_no126 k h.1) _ _)
  have HR := Lib.hid hr
  have HO := Lib.hid hok
  have HV := Lib.hid (isOk_val hok)
  clear hr hok
  obtain ⟨n, hn⟩ : ∃ n, n = atoiV p0 := ⟨_, rfl⟩
  rw [← hn] at HV
  have HN := Lib.hid hn
  clear hn
  go_enter Tryd.func73, Tryd.ntmps73
  go_wp2_with (go_at_call 45; refine (split_calls s hs _ (HG.out.below (by go_grown))).mono ?_; rintro e w1 ⟨rfl, hcell, hsz1, hb⟩; rw [HP.out] at hcell; rw [HP.out]; have h0 := hcell 0 _ rfl; rw [World.size_alloc] at h0; obtain ⟨hcc, hff⟩ := bcell hb; have hB1 : Below w.heap.size w w1 := bt (by go_grown) hb; have hG1 : Hid (Gl w1) := Lib.hid ((HG.out.below (by go_grown)).below hb); have hz1 : w.heap.size + 1 < w1.heap.size := (by have := hsz1; simp at this; omega); have hZ1 : Hid (Zero4 w.heap.size w1) := Lib.hid ((Zero4.new w).below hb); clear hcell hsz1 hb)
  go_loop [10] (fun i => ∃ k : Int, 6 ≤ k ∧ k ≤ 12 ∧ i = .int .i64 k) (fun i => 12 - (intOf i).toNat)
  case atStart => exact ⟨6, by omega, by omega, rfl⟩
  case round =>
    obtain ⟨k, hk0, hk1, rfl⟩ := hrel
    have hne := letter_no126 k
    go_wp2_with (first | (go_at_call 29; refine (letter_calls k _).mono ?_; rintro e w2 ⟨rfl, rfl⟩) | (go_at_call 48; refine (atoi_ok p0 hsz n HV.out _).mono ?_; rintro e w4 ⟨rfl, hb4⟩; have hB4 : Below w.heap.size w w4 := bt (by go_grown) hb4; have hZ4 : Hid (Zero4 w.heap.size w4) := Lib.hid (hZ1.out.below hb4); clear hb4))
    · go_round
      case rel => exact ⟨k + 1, by omega, by omega, rfl⟩
      case measure => simp [intOf]; omega
    · clear hcc hff
      go_loopw [13] (rel2T n w) (fun i _ => 15 - (intOf i).toNat)
      case atStart => exact ⟨12, by omega, by omega, rfl, rfl, hB4, hZ4.out⟩
      case round =>
        obtain ⟨k2, hk20, hk21, rfl, hr2, hb2, hz2⟩ := hrel
        have HR2 := Lib.hid hr2
        have HZ2 := Lib.hid hz2
        clear hr2 hz2
        go_wp2_with (go_at_call 31; refine (number_calls k2 0 0 0 _ (by omega)).mono ?_; rintro e w5 ⟨rfl, hb5⟩; have hB5 : Below w.heap.size w w5 := bt (by go_grown) hb5; have hZ5 : Hid (Zero4 w.heap.size w5) := Lib.hid (HZ2.out.below hb5); clear hb5; have c0_5 := hZ5.out.c0; have c1_5 := hZ5.out.c1; have c2_5 := hZ5.out.c2; have c3_5 := hZ5.out.c3; have z0_5 := hZ5.out.fz 0; have z1_5 := hZ5.out.fz 1; have z2_5 := hZ5.out.fz 2; have z3_5 := hZ5.out.fz 3)
        · (obtain ⟨f0, f1, f2, f3⟩ := set4 (W := w5) (g := w.heap.size) hZ5.out.c0 hZ5.out.c1 hZ5.out.c2 hZ5.out.c3; exact bodyPost_ret (res_key rfl _ _ w.heap.size ⟨k2, 0, 0, 0⟩ _ rfl rfl f0 f1 f2 f3) rfl (tpost_some (HR.out.trans (tail_k HN.out HO.out (kfnd_hit hk20 ‹k2 ≤ 14› HR2 ⟨‹numberF k2 0 = n›, by simpa using ‹(n != 0) = true›⟩))) (by go_grown)))
        · exact ⟨rel2T_next hk20 ‹k2 ≤ 14› HR2 (fun h => by have := ‹(n != 0) = false›; simp at this; exact h.2 this) hB5 hZ5.out, by simp [intOf]; omega⟩
        · exact ⟨rel2T_next hk20 ‹k2 ≤ 14› HR2 (fun h => ‹¬ numberF k2 0 = n› h.1) hB5 hZ5.out, by simp [intOf]; omega⟩
        · have HE := Lib.hid (kfnd_end ‹14 < k2› hk21 HR2)
          obtain ⟨wq, rfl⟩ : ∃ wq : World, wq = wr := ⟨_, rfl⟩
          go_loopw [14] (rel3T n w) (fun i _ => 13 - (intOf i).toNat)
          case atStart => exact ⟨1, by omega, by omega, rfl, rfl, hb2, HZ2.out⟩
          case round =>
            clear HR2 HZ2
            obtain ⟨k3, hk30, hk31, rfl, hr3, hb3, hz3⟩ := hrel
            have HR3 := Lib.hid hr3
            have HZ3 := Lib.hid hz3
            clear hr3 hz3
            have c0_3 := HZ3.out.c0
            have c1_3 := HZ3.out.c1
            have c2_3 := HZ3.out.c2
            have c3_3 := HZ3.out.c3
            have z0_3 := HZ3.out.fz 0
            have z1_3 := HZ3.out.fz 1
            have z2_3 := HZ3.out.fz 2
            have z3_3 := HZ3.out.fz 3
            go_wp2_with (go_at_call 31; refine (number_calls 15 0 k3 0 _ (by omega)).mono ?_; rintro e w6 ⟨rfl, hb6⟩; have hB6 : Below w.heap.size w w6 := bt (by go_grown) hb6; have hZ6 : Hid (Zero4 w.heap.size w6) := Lib.hid (HZ3.out.below hb6); clear hb6; have c0_6 := hZ6.out.c0; have c1_6 := hZ6.out.c1; have c2_6 := hZ6.out.c2; have c3_6 := hZ6.out.c3; have z0_6 := hZ6.out.fz 0; have z1_6 := hZ6.out.fz 1; have z2_6 := hZ6.out.fz 2; have z3_6 := hZ6.out.fz 3)
            · (obtain ⟨f0, f1, f2, f3⟩ := set4 (W := w6) (g := w.heap.size) hZ6.out.c0 hZ6.out.c1 hZ6.out.c2 hZ6.out.c3; exact bodyPost_ret (res_key rfl _ _ w.heap.size ⟨15, 0, k3, 0⟩ _ rfl rfl f0 f1 f2 f3) rfl (tpost_some (HR.out.trans (tail_f HN.out HO.out HE.out (fnd_hit hk30 ‹k3 ≤ 12› HR3 (by simpa using ‹(numberF 15 k3 == n) = true›)))) (by go_grown)))
            · exact ⟨rel3T_next hk30 ‹k3 ≤ 12› HR3 (fun h => by have := ‹(numberF 15 k3 == n) = false›; simp at this; exact this h) hB6 hZ6.out, by simp [intOf]; omega⟩
            · (obtain ⟨f0, f1, f2, f3⟩ := set4 (W := wr) (g := w.heap.size) HZ3.out.c0 HZ3.out.c1 HZ3.out.c2 HZ3.out.c3; exact bodyPost_ret (res_key rfl _ _ w.heap.size ⟨0, 0, 0, 0⟩ _ rfl rfl f0 f1 f2 f3) rfl (tpost_none (HR.out.trans (tail_n HN.out HO.out HE.out (fnd_end ‹12 < k3› hk31 HR3))) (by go_grown)))
end Go.Proofs.YtampklajoikbiaaDoor
