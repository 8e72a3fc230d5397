/- trellisref.firstKey, its first byte no ESC; the function rune1 within it. -/
import Derived.Test.YtampklajoikbiaaDoorVm
set_option linter.unusedVariables false
set_option linter.unusedSimpArgs false
namespace Go.Proofs.YtampklajoikbiaaDoor
open Go.RowKit Go.Proofs.YtampklajoikbiaaDoorW.PrintWords PKeysRead

theorem rune1_calls (r : Int) (w : World) : Calls Tryd.prog 57 #[.int .i32 r] w fun e w' => e = .returned (.agg #[.int .i64 1, .int .i32 r, .int .i64 0, .int .i64 0]) ∧ Below w.heap.size w w' := by
  go_enter Tryd.func57, Tryd.ntmps57
  go_wp2
  go_returns
  exact ⟨rfl, by go_grown⟩
theorem dec_calls (s : ByteArray) (w : World) (hg : Gl w) : Calls Tryd.prog 58 #[.string s] w fun e w' => e = .returned (.tuple #[.int .i32 (Lib.decodeGo s).1, .int .i64 (Lib.decodeGo s).2]) ∧ Below w.heap.size w w' := Tryd.utf8_DecodeRuneInString s w hg.tabs
theorem firstN_plain {b : ByteArray} {last : Bool} {c : Int} {p : Int × Int × Int × Int} (hc : byt b 0 = c) (h : c < 32 ∨ c = 127) (hp : plainF c = p) : firstN b last = (⟨p.1, p.2.1, p.2.2.1, p.2.2.2⟩, 1) := by
  subst hc; subst hp
  exact if_pos h

set_option maxRecDepth 100000 in
set_option maxHeartbeats 8000000 in
theorem fk_tab (b : ByteArray) (last : Bool) (w : World) (hg : Gl w) (h1 : 1 ≤ b.size) (hs : b.size ≤ 1000000) (hc : byt b 0 = 9) :
    Calls Tryd.prog 38 #[.string b, .bool last] w (FPost (firstN b last) w) := by
  have HG := Lib.hid hg
  clear hg
  have hb0 : 0 < b.size := by omega
  have hr0 := byt_lo b 0
  have E0 := Lib.hid (byt_at hb0)
  have q0 : (((b[0]'hb0).toNat : Int) != 27) = true := by rw [E0.out]; simp; omega
  have qe9 : (((b[0]'hb0).toNat : Int) == 9) = true := by rw [E0.out]; simp; omega
  have HR := Lib.hid (firstN_plain (last := last) hc (by omega) (p := (3, 0, 0, 0)) rfl)
  clear hc hr0
  go_enter Tryd.func38, Tryd.ntmps38
  go_wp2_with fail
  rw [HR.out]
  go_returns
  exact ⟨rfl, by go_grown⟩

set_option maxRecDepth 100000 in
set_option maxHeartbeats 8000000 in
theorem fk_enter (b : ByteArray) (last : Bool) (w : World) (hg : Gl w) (h1 : 1 ≤ b.size) (hs : b.size ≤ 1000000) (hc : byt b 0 = 13) :
    Calls Tryd.prog 38 #[.string b, .bool last] w (FPost (firstN b last) w) := by
  have HG := Lib.hid hg
  clear hg
  have hb0 : 0 < b.size := by omega
  have hr0 := byt_lo b 0
  have E0 := Lib.hid (byt_at hb0)
  have q0 : (((b[0]'hb0).toNat : Int) != 27) = true := by rw [E0.out]; simp; omega
  have qe9 : (((b[0]'hb0).toNat : Int) == 9) = false := by rw [E0.out]; simp; omega
  have qe13 : (((b[0]'hb0).toNat : Int) == 13) = true := by rw [E0.out]; simp; omega
  have HR := Lib.hid (firstN_plain (last := last) hc (by omega) (p := (2, 0, 0, 0)) rfl)
  clear hc hr0
  go_enter Tryd.func38, Tryd.ntmps38
  go_wp2_with fail
  rw [HR.out]
  go_returns
  exact ⟨rfl, by go_grown⟩

set_option maxRecDepth 100000 in
set_option maxHeartbeats 8000000 in
theorem fk_back (b : ByteArray) (last : Bool) (w : World) (hg : Gl w) (h1 : 1 ≤ b.size) (hs : b.size ≤ 1000000) (hc : byt b 0 = 8) :
    Calls Tryd.prog 38 #[.string b, .bool last] w (FPost (firstN b last) w) := by
  have HG := Lib.hid hg
  clear hg
  have hb0 : 0 < b.size := by omega
  have hr0 := byt_lo b 0
  have E0 := Lib.hid (byt_at hb0)
  have q0 : (((b[0]'hb0).toNat : Int) != 27) = true := by rw [E0.out]; simp; omega
  have qe9 : (((b[0]'hb0).toNat : Int) == 9) = false := by rw [E0.out]; simp; omega
  have qe13 : (((b[0]'hb0).toNat : Int) == 13) = false := by rw [E0.out]; simp; omega
  have qe8 : (((b[0]'hb0).toNat : Int) == 8) = true := by rw [E0.out]; simp; omega
  have HR := Lib.hid (firstN_plain (last := last) hc (by omega) (p := (4, 0, 0, 0)) rfl)
  clear hc hr0
  go_enter Tryd.func38, Tryd.ntmps38
  go_wp2_with fail
  rw [HR.out]
  go_returns
  exact ⟨rfl, by go_grown⟩

set_option maxRecDepth 100000 in
set_option maxHeartbeats 8000000 in
theorem fk_del (b : ByteArray) (last : Bool) (w : World) (hg : Gl w) (h1 : 1 ≤ b.size) (hs : b.size ≤ 1000000) (hc : byt b 0 = 127) :
    Calls Tryd.prog 38 #[.string b, .bool last] w (FPost (firstN b last) w) := by
  have HG := Lib.hid hg
  clear hg
  have hb0 : 0 < b.size := by omega
  have hr0 := byt_lo b 0
  have E0 := Lib.hid (byt_at hb0)
  have q0 : (((b[0]'hb0).toNat : Int) != 27) = true := by rw [E0.out]; simp; omega
  have qe9 : (((b[0]'hb0).toNat : Int) == 9) = false := by rw [E0.out]; simp; omega
  have qe13 : (((b[0]'hb0).toNat : Int) == 13) = false := by rw [E0.out]; simp; omega
  have qe8 : (((b[0]'hb0).toNat : Int) == 8) = false := by rw [E0.out]; simp; omega
  have qe127 : (((b[0]'hb0).toNat : Int) == 127) = true := by rw [E0.out]; simp; omega
  have HR := Lib.hid (firstN_plain (last := last) hc (by omega) (p := (4, 0, 0, 0)) rfl)
  clear hc hr0
  go_enter Tryd.func38, Tryd.ntmps38
  go_wp2_with fail
  rw [HR.out]
  go_returns
  exact ⟨rfl, by go_grown⟩

set_option maxRecDepth 100000 in
set_option maxHeartbeats 8000000 in
theorem fk_nul (b : ByteArray) (last : Bool) (w : World) (hg : Gl w) (h1 : 1 ≤ b.size) (hs : b.size ≤ 1000000) (hc : byt b 0 = 0) :
    Calls Tryd.prog 38 #[.string b, .bool last] w (FPost (firstN b last) w) := by
  have HG := Lib.hid hg
  clear hg
  have hb0 : 0 < b.size := by omega
  have hr0 := byt_lo b 0
  have E0 := Lib.hid (byt_at hb0)
  have q0 : (((b[0]'hb0).toNat : Int) != 27) = true := by rw [E0.out]; simp; omega
  have qe9 : (((b[0]'hb0).toNat : Int) == 9) = false := by rw [E0.out]; simp; omega
  have qe13 : (((b[0]'hb0).toNat : Int) == 13) = false := by rw [E0.out]; simp; omega
  have qe8 : (((b[0]'hb0).toNat : Int) == 8) = false := by rw [E0.out]; simp; omega
  have qe127 : (((b[0]'hb0).toNat : Int) == 127) = false := by rw [E0.out]; simp; omega
  have qe0 : (((b[0]'hb0).toNat : Int) == 0) = true := by rw [E0.out]; simp; omega
  have HR := Lib.hid (firstN_plain (last := last) hc (by omega) (p := (1, 32, 0, 0)) rfl)
  clear hc hr0
  go_enter Tryd.func38, Tryd.ntmps38
  go_wp2_with (go_at_call 57; refine (rune1_calls 32 _).mono ?_; rintro e w1 ⟨rfl, hb⟩; have hB1 : Below w.heap.size w w1 := bt (by go_grown) hb; have hZ1 : Hid (Zero4 w.heap.size w1) := Lib.hid ((Zero4.new w).below hb); have hz1 : w.heap.size < w1.heap.size := (Array.getElem?_eq_some_iff.1 hZ1.out).1; clear hb; have c0 := hZ1.out.c0; have c1' := hZ1.out.c1; have c2 := hZ1.out.c2; have c3 := hZ1.out.c3; have z0 := hZ1.out.fz 0; have z1 := hZ1.out.fz 1; have z2 := hZ1.out.fz 2; have z3 := hZ1.out.fz 3)
  rw [HR.out]
  exact bodyPost_ret (res_set rfl _ _ w.heap.size ⟨1, 32, 0, 0⟩ _ rfl rfl hZ1.out) rfl ⟨rfl, by go_grown⟩

set_option maxRecDepth 100000 in
set_option maxHeartbeats 8000000 in
theorem fk_ctrl (b : ByteArray) (last : Bool) (w : World) (hg : Gl w) (h1 : 1 ≤ b.size) (hs : b.size ≤ 1000000) (hc : byt b 0 < 27 ∧ ¬ byt b 0 = 9 ∧ ¬ byt b 0 = 13 ∧ ¬ byt b 0 = 8 ∧ ¬ byt b 0 = 0) :
    Calls Tryd.prog 38 #[.string b, .bool last] w (FPost (firstN b last) w) := by
  have HG := Lib.hid hg
  clear hg
  have hb0 : 0 < b.size := by omega
  have hr0 := byt_lo b 0
  have E0 := Lib.hid (byt_at hb0)
  have q0 : (((b[0]'hb0).toNat : Int) != 27) = true := by rw [E0.out]; simp; omega
  have qe9 : (((b[0]'hb0).toNat : Int) == 9) = false := by rw [E0.out]; simp; omega
  have qe13 : (((b[0]'hb0).toNat : Int) == 13) = false := by rw [E0.out]; simp; omega
  have qe8 : (((b[0]'hb0).toNat : Int) == 8) = false := by rw [E0.out]; simp; omega
  have qe127 : (((b[0]'hb0).toNat : Int) == 127) = false := by rw [E0.out]; simp; omega
  have qe0 : (((b[0]'hb0).toNat : Int) == 0) = false := by rw [E0.out]; simp; omega
  have ql27 : decide (((b[0]'hb0).toNat : Int) < 27) = true := by rw [E0.out]; simp; omega
  have hr : firstN b last = (⟨1, ((b[0]'hb0).toNat : Int) + 96, 0, 4⟩, 1) := by
    rw [E0.out]
    refine (firstN_plain (last := last) rfl (by omega) (p := (1, byt b 0 + 96, 0, 4)) ?_)
    unfold plainF
    rw [if_neg (by omega), if_neg (by omega), if_neg (by omega), if_neg (by omega), if_pos (by omega)]
  have HR := Lib.hid hr
  have hlt : ((b[0]'hb0).toNat : Int) < 27 := by rw [E0.out]; omega
  clear hc hr0 hr
  go_enter Tryd.func38, Tryd.ntmps38
  go_wp2_with fail
  rw [HR.out]
  go_returns
  exact ⟨rfl, by go_grown⟩

set_option maxRecDepth 100000 in
set_option maxHeartbeats 8000000 in
theorem fk_odd (b : ByteArray) (last : Bool) (w : World) (hg : Gl w) (h1 : 1 ≤ b.size) (hs : b.size ≤ 1000000) (hc : 27 < byt b 0 ∧ byt b 0 < 32) :
    Calls Tryd.prog 38 #[.string b, .bool last] w (FPost (firstN b last) w) := by
  have HG := Lib.hid hg
  clear hg
  have hb0 : 0 < b.size := by omega
  have hr0 := byt_lo b 0
  have E0 := Lib.hid (byt_at hb0)
  have q0 : (((b[0]'hb0).toNat : Int) != 27) = true := by rw [E0.out]; simp; omega
  have qe9 : (((b[0]'hb0).toNat : Int) == 9) = false := by rw [E0.out]; simp; omega
  have qe13 : (((b[0]'hb0).toNat : Int) == 13) = false := by rw [E0.out]; simp; omega
  have qe8 : (((b[0]'hb0).toNat : Int) == 8) = false := by rw [E0.out]; simp; omega
  have qe127 : (((b[0]'hb0).toNat : Int) == 127) = false := by rw [E0.out]; simp; omega
  have qe0 : (((b[0]'hb0).toNat : Int) == 0) = false := by rw [E0.out]; simp; omega
  have ql27 : decide (((b[0]'hb0).toNat : Int) < 27) = false := by rw [E0.out]; simp; omega
  have ql32 : decide (((b[0]'hb0).toNat : Int) < 32) = true := by rw [E0.out]; simp; omega
  have HR := Lib.hid ((firstN_plain (last := last) rfl (by omega) (p := (1, 63, 0, 0)) (by unfold plainF; rw [if_neg (by omega), if_neg (by omega), if_neg (by omega), if_neg (by omega), if_neg (by omega)]) : firstN b last = (⟨1, 63, 0, 0⟩, 1)))
  clear hc hr0
  go_enter Tryd.func38, Tryd.ntmps38
  go_wp2_with (go_at_call 57; refine (rune1_calls 63 _).mono ?_; rintro e w1 ⟨rfl, hb⟩; have hB1 : Below w.heap.size w w1 := bt (by go_grown) hb; have hZ1 : Hid (Zero4 w.heap.size w1) := Lib.hid ((Zero4.new w).below hb); have hz1 : w.heap.size < w1.heap.size := (Array.getElem?_eq_some_iff.1 hZ1.out).1; clear hb; have c0 := hZ1.out.c0; have c1' := hZ1.out.c1; have c2 := hZ1.out.c2; have c3 := hZ1.out.c3; have z0 := hZ1.out.fz 0; have z1 := hZ1.out.fz 1; have z2 := hZ1.out.fz 2; have z3 := hZ1.out.fz 3)
  rw [HR.out]
  exact bodyPost_ret (res_set rfl _ _ w.heap.size ⟨1, 63, 0, 0⟩ _ rfl rfl hZ1.out) rfl ⟨rfl, by go_grown⟩

set_option maxRecDepth 100000 in
set_option maxHeartbeats 8000000 in
theorem fk_rune (b : ByteArray) (last : Bool) (w : World) (hg : Gl w) (h1 : 1 ≤ b.size) (hs : b.size ≤ 1000000) (hc : ¬ (byt b 0 < 32 ∨ byt b 0 = 127)) :
    Calls Tryd.prog 38 #[.string b, .bool last] w (FPost (firstN b last) w) := by
  have HG := Lib.hid hg
  clear hg
  have hb0 : 0 < b.size := by omega
  have hr0 := byt_lo b 0
  have E0 := Lib.hid (byt_at hb0)
  have q0 : (((b[0]'hb0).toNat : Int) != 27) = true := by rw [E0.out]; simp; omega
  have qe9 : (((b[0]'hb0).toNat : Int) == 9) = false := by rw [E0.out]; simp; omega
  have qe13 : (((b[0]'hb0).toNat : Int) == 13) = false := by rw [E0.out]; simp; omega
  have qe8 : (((b[0]'hb0).toNat : Int) == 8) = false := by rw [E0.out]; simp; omega
  have qe127 : (((b[0]'hb0).toNat : Int) == 127) = false := by rw [E0.out]; simp; omega
  have qe0 : (((b[0]'hb0).toNat : Int) == 0) = false := by rw [E0.out]; simp; omega
  have ql27 : decide (((b[0]'hb0).toNat : Int) < 27) = false := by rw [E0.out]; simp; omega
  have ql32 : decide (((b[0]'hb0).toNat : Int) < 32) = false := by rw [E0.out]; simp; omega
  have hr : firstN b last = (if fullF b = false ∧ last = false then (key0, 0) else (runeK ((Lib.decodeGo b).1 : Int), ((Lib.decodeGo b).2 : Int))) := if_neg hc
  have HFC : Hid (∀ w, Gl w → Calls Tryd.prog 55 #[.string b] w (FullPost (fullF b) w)) := Lib.hid (fun w hg => full_calls b hb0 hs w hg)
  obtain ⟨p, hp2⟩ : ∃ p, Lib.decodeGo b = p := ⟨_, rfl⟩
  rw [hp2] at hr
  obtain ⟨r0, n⟩ := p
  obtain ⟨r, hr2⟩ : ∃ r : Int, r = (r0 : Int) := ⟨_, rfl⟩
  have HD := Lib.hid hp2
  rw [← hr2] at hr
  have HR2 := Lib.hid hr2
  clear hp2 hr2 hc hr0
  generalize fullF b = f at *
  by_cases hc : f = false ∧ last = false
  · obtain ⟨rfl, rfl⟩ := hc
    have HR : Hid (firstN b false = (key0, 0)) := Lib.hid (hr.trans (if_pos ⟨rfl, rfl⟩))
    clear hr HD HR2
    go_enter Tryd.func38, Tryd.ntmps38
    go_wp2_with (go_at_call 55; refine (HFC.out _ (HG.out.below (by go_grown))).mono ?_; rintro e w1 ⟨rfl, hb⟩; have hB1 : Below w.heap.size w w1 := bt (by go_grown) hb; have hZ1 : Hid (Zero4 w.heap.size w1) := Lib.hid ((Zero4.new w).below hb); have hz1 : w.heap.size < w1.heap.size := (Array.getElem?_eq_some_iff.1 hZ1.out).1; clear hb; have c0 := hZ1.out.c0; have c1' := hZ1.out.c1; have c2 := hZ1.out.c2; have c3 := hZ1.out.c3; have z0 := hZ1.out.fz 0; have z1 := hZ1.out.fz 1; have z2 := hZ1.out.fz 2; have z3 := hZ1.out.fz 3)
    rw [HR.out]
    exact bodyPost_ret (res_set rfl _ _ w.heap.size ⟨0, 0, 0, 0⟩ _ rfl rfl hZ1.out) rfl ⟨rfl, by go_grown⟩
  · have HR : Hid (firstN b last = (runeK r, (n : Int))) := Lib.hid (hr.trans (if_neg hc))
    clear hr
    by_cases hw : wid r = 0
    · have hk : runeK r = ⟨1, 63, 0, 0⟩ := by unfold runeK; rw [if_pos hw]
      have HK := Lib.hid hk
      have HW := Lib.hid hw
      clear hk hw
      cases last with
      | false =>
        cases f with
        | false => exact absurd ⟨rfl, rfl⟩ hc
        | true =>
          clear hc
          go_enter Tryd.func38, Tryd.ntmps38
          go_wp2_with (first
            | (go_at_call 55; refine (HFC.out _ (HG.out.below (by go_grown))).mono ?_; rintro e w1 ⟨rfl, hb⟩; have hB1 : Below w.heap.size w w1 := bt (by go_grown) hb; have hZ1 : Hid (Zero4 w.heap.size w1) := Lib.hid ((Zero4.new w).below hb); have hz1 : w.heap.size < w1.heap.size := (Array.getElem?_eq_some_iff.1 hZ1.out).1; clear hb)
            | (go_at_call 58; refine (dec_calls b _ (HG.out.below hB1)).mono ?_; rw [HD.out]; simp only []; rw [← HR2.out]; rintro e w2 ⟨rfl, hb⟩; have hB2 : Below w.heap.size w w2 := bt hB1 hb; have hZ2 : Hid (Zero4 w.heap.size w2) := Lib.hid (hZ1.out.below hb); have hz2 : w.heap.size < w2.heap.size := (Array.getElem?_eq_some_iff.1 hZ2.out).1; clear hb)
            | (go_at_call 33; refine (WidthOf_calls r _).mono ?_; rw [HW.out]; rintro e w3 ⟨rfl, hb⟩; have hB3 : Below w.heap.size w w3 := bt hB2 hb; have hZ3 : Hid (Zero4 w.heap.size w3) := Lib.hid (hZ2.out.below hb); have hz3 : w.heap.size < w3.heap.size := (Array.getElem?_eq_some_iff.1 hZ3.out).1; clear hb)
            | (go_at_call 57; refine (rune1_calls 63 _).mono ?_; rintro e w4 ⟨rfl, hb⟩; have hB4 : Below w.heap.size w w4 := bt hB3 hb; have hZ4 : Hid (Zero4 w.heap.size w4) := Lib.hid (hZ3.out.below hb); have hz4 : w.heap.size < w4.heap.size := (Array.getElem?_eq_some_iff.1 hZ4.out).1; clear hb; have c0 := hZ4.out.c0; have c1' := hZ4.out.c1; have c2 := hZ4.out.c2; have c3 := hZ4.out.c3; have z0 := hZ4.out.fz 0; have z1 := hZ4.out.fz 1; have z2 := hZ4.out.fz 2; have z3 := hZ4.out.fz 3))
          rw [HR.out]
          exact bodyPost_ret (res_set rfl _ _ w.heap.size ⟨1, 63, 0, 0⟩ _ rfl rfl hZ4.out) rfl ⟨by rw [HK.out]; rfl, by go_grown⟩
      | true =>
        clear hc
        go_enter Tryd.func38, Tryd.ntmps38
        go_wp2_with (first
          | (go_at_call 58; refine (dec_calls b _ (HG.out.below (by go_grown))).mono ?_; rw [HD.out]; simp only []; rw [← HR2.out]; rintro e w2 ⟨rfl, hb⟩; have hB2 : Below w.heap.size w w2 := bt (by go_grown) hb; have hZ2 : Hid (Zero4 w.heap.size w2) := Lib.hid ((Zero4.new w).below hb); have hz2 : w.heap.size < w2.heap.size := (Array.getElem?_eq_some_iff.1 hZ2.out).1; clear hb)
          | (go_at_call 33; refine (WidthOf_calls r _).mono ?_; rw [HW.out]; rintro e w3 ⟨rfl, hb⟩; have hB3 : Below w.heap.size w w3 := bt hB2 hb; have hZ3 : Hid (Zero4 w.heap.size w3) := Lib.hid (hZ2.out.below hb); have hz3 : w.heap.size < w3.heap.size := (Array.getElem?_eq_some_iff.1 hZ3.out).1; clear hb)
          | (go_at_call 57; refine (rune1_calls 63 _).mono ?_; rintro e w4 ⟨rfl, hb⟩; have hB4 : Below w.heap.size w w4 := bt hB3 hb; have hZ4 : Hid (Zero4 w.heap.size w4) := Lib.hid (hZ3.out.below hb); have hz4 : w.heap.size < w4.heap.size := (Array.getElem?_eq_some_iff.1 hZ4.out).1; clear hb; have c0 := hZ4.out.c0; have c1' := hZ4.out.c1; have c2 := hZ4.out.c2; have c3 := hZ4.out.c3; have z0 := hZ4.out.fz 0; have z1 := hZ4.out.fz 1; have z2 := hZ4.out.fz 2; have z3 := hZ4.out.fz 3))
        rw [HR.out]
        exact bodyPost_ret (res_set rfl _ _ w.heap.size ⟨1, 63, 0, 0⟩ _ rfl rfl hZ4.out) rfl ⟨by rw [HK.out]; rfl, by go_grown⟩
    · have hk : runeK r = ⟨1, r, 0, 0⟩ := by unfold runeK; rw [if_neg hw]
      have HK := Lib.hid hk
      have hw' : (wid r == 0) = false := by simpa using hw
      clear hk hw
      cases last with
      | false =>
        cases f with
        | false => exact absurd ⟨rfl, rfl⟩ hc
        | true =>
          clear hc
          go_enter Tryd.func38, Tryd.ntmps38
          go_wp2_with (first
            | (go_at_call 55; refine (HFC.out _ (HG.out.below (by go_grown))).mono ?_; rintro e w1 ⟨rfl, hb⟩; have hB1 : Below w.heap.size w w1 := bt (by go_grown) hb; have hZ1 : Hid (Zero4 w.heap.size w1) := Lib.hid ((Zero4.new w).below hb); have hz1 : w.heap.size < w1.heap.size := (Array.getElem?_eq_some_iff.1 hZ1.out).1; clear hb)
            | (go_at_call 58; refine (dec_calls b _ (HG.out.below hB1)).mono ?_; rw [HD.out]; simp only []; rw [← HR2.out]; rintro e w2 ⟨rfl, hb⟩; have hB2 : Below w.heap.size w w2 := bt hB1 hb; have hZ2 : Hid (Zero4 w.heap.size w2) := Lib.hid (hZ1.out.below hb); have hz2 : w.heap.size < w2.heap.size := (Array.getElem?_eq_some_iff.1 hZ2.out).1; clear hb)
            | (go_at_call 33; refine (WidthOf_calls r _).mono ?_; rintro e w3 ⟨rfl, hb⟩; have hB3 : Below w.heap.size w w3 := bt hB2 hb; have hZ3 : Hid (Zero4 w.heap.size w3) := Lib.hid (hZ2.out.below hb); have hz3 : w.heap.size < w3.heap.size := (Array.getElem?_eq_some_iff.1 hZ3.out).1; clear hb)
            | (go_at_call 57; refine (rune1_calls r _).mono ?_; rintro e w4 ⟨rfl, hb⟩; have hB4 : Below w.heap.size w w4 := bt hB3 hb; have hZ4 : Hid (Zero4 w.heap.size w4) := Lib.hid (hZ3.out.below hb); have hz4 : w.heap.size < w4.heap.size := (Array.getElem?_eq_some_iff.1 hZ4.out).1; clear hb; have c0 := hZ4.out.c0; have c1' := hZ4.out.c1; have c2 := hZ4.out.c2; have c3 := hZ4.out.c3; have z0 := hZ4.out.fz 0; have z1 := hZ4.out.fz 1; have z2 := hZ4.out.fz 2; have z3 := hZ4.out.fz 3))
          rw [HR.out]
          exact bodyPost_ret (res_set rfl _ _ w.heap.size ⟨1, r, 0, 0⟩ _ rfl rfl hZ4.out) rfl ⟨by rw [HK.out]; rfl, by go_grown⟩
      | true =>
        clear hc
        go_enter Tryd.func38, Tryd.ntmps38
        go_wp2_with (first
          | (go_at_call 58; refine (dec_calls b _ (HG.out.below (by go_grown))).mono ?_; rw [HD.out]; simp only []; rw [← HR2.out]; rintro e w2 ⟨rfl, hb⟩; have hB2 : Below w.heap.size w w2 := bt (by go_grown) hb; have hZ2 : Hid (Zero4 w.heap.size w2) := Lib.hid ((Zero4.new w).below hb); have hz2 : w.heap.size < w2.heap.size := (Array.getElem?_eq_some_iff.1 hZ2.out).1; clear hb)
          | (go_at_call 33; refine (WidthOf_calls r _).mono ?_; rintro e w3 ⟨rfl, hb⟩; have hB3 : Below w.heap.size w w3 := bt hB2 hb; have hZ3 : Hid (Zero4 w.heap.size w3) := Lib.hid (hZ2.out.below hb); have hz3 : w.heap.size < w3.heap.size := (Array.getElem?_eq_some_iff.1 hZ3.out).1; clear hb)
          | (go_at_call 57; refine (rune1_calls r _).mono ?_; rintro e w4 ⟨rfl, hb⟩; have hB4 : Below w.heap.size w w4 := bt hB3 hb; have hZ4 : Hid (Zero4 w.heap.size w4) := Lib.hid (hZ3.out.below hb); have hz4 : w.heap.size < w4.heap.size := (Array.getElem?_eq_some_iff.1 hZ4.out).1; clear hb; have c0 := hZ4.out.c0; have c1' := hZ4.out.c1; have c2 := hZ4.out.c2; have c3 := hZ4.out.c3; have z0 := hZ4.out.fz 0; have z1 := hZ4.out.fz 1; have z2 := hZ4.out.fz 2; have z3 := hZ4.out.fz 3))
        rw [HR.out]
        exact bodyPost_ret (res_set rfl _ _ w.heap.size ⟨1, r, 0, 0⟩ _ rfl rfl hZ4.out) rfl ⟨by rw [HK.out]; rfl, by go_grown⟩

theorem fkN_calls (b : ByteArray) (last : Bool) (w : World) (hg : Gl w) (h1 : 1 ≤ b.size) (hs : b.size ≤ 1000000) (hne : byt b 0 ≠ 27) :
    Calls Tryd.prog 38 #[.string b, .bool last] w (FPost (firstN b last) w) := by
  have hr0 := byt_lo b 0
  by_cases h9 : byt b 0 = 9
  · exact fk_tab b last w hg h1 hs h9
  by_cases h13 : byt b 0 = 13
  · exact fk_enter b last w hg h1 hs h13
  by_cases h8 : byt b 0 = 8
  · exact fk_back b last w hg h1 hs h8
  by_cases h127 : byt b 0 = 127
  · exact fk_del b last w hg h1 hs h127
  by_cases h0 : byt b 0 = 0
  · exact fk_nul b last w hg h1 hs h0
  by_cases hlt : byt b 0 < 27
  · exact fk_ctrl b last w hg h1 hs ⟨hlt, h9, h13, h8, h0⟩
  by_cases h32 : byt b 0 < 32
  · exact fk_odd b last w hg h1 hs ⟨by omega, h32⟩
  · exact fk_rune b last w hg h1 hs (by omega)
end Go.Proofs.YtampklajoikbiaaDoor
