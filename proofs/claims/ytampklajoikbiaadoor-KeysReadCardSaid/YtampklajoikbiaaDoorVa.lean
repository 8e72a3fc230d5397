/- utf8.FullRuneInString of a string that is not empty. -/
import Derived.Test.YtampklajoikbiaaDoorGb
import Derived.Deep.QuietTactic
import Derived.BigQuiet
set_option linter.unusedVariables false
set_option linter.unusedSimpArgs false
namespace Go.Proofs.YtampklajoikbiaaDoor
open Go.RowKit Go.Proofs.YtampklajoikbiaaDoorW.PrintWords PKeysRead

/-- Byte k of a string; 0 behind its end. -/
def byt (s : ByteArray) (k : Nat) : Int := if h : k < s.size then ((s[k]'h).toNat : Int) else 0
theorem byt_at {s : ByteArray} {k : Nat} (h : k < s.size) : ((s[k]'h).toNat : Int) = byt s k := by unfold byt; rw [dif_pos h]
theorem byt_lo (s : ByteArray) (k : Nat) : 0 ≤ byt s k ∧ byt s k < 256 := by
  unfold byt
  split
  · rename_i h
    have := UInt8.toNat_lt (s[k]'h)
    omega
  · omega

/-- utf8.FullRuneInString, of a string that is not empty, by its first byte's row of the table. -/
def fullX (x : Nat) (s : ByteArray) : Bool :=
  if x % 8 ≤ s.size then true
  else if 1 < s.size ∧ (byt s 1 < Lib.accLo (x / 16) ∨ Lib.accHi (x / 16) < byt s 1) then true
  else if 2 < s.size ∧ (byt s 2 < 128 ∨ 191 < byt s 2) then true
  else false
def fullF (s : ByteArray) : Bool := fullX (Lib.firstT (byt s 0).toNat) s

def FullPost (r : Bool) (w : World) (e : Ending) (w' : World) : Prop := e = .returned (.bool r) ∧ Below w.heap.size w w'


set_option maxRecDepth 100000 in
set_option maxHeartbeats 8000000 in
theorem full_2 (s : ByteArray) (h0 : 0 < s.size) (hs : s.size ≤ 1000000) (w : World) (hg : Gl w) (hf : Lib.firstT (s[0]'h0).toNat = 2) :
    Calls Tryd.prog 55 #[.string s] w (FullPost (fullX 2 s) w) := by
  have hc := hg.tabs.1 (s[0]'h0).toNat (UInt8.toNat_lt _)
  rw [hf] at hc
  have ha0 := (hg.tabs.2 0 (by omega)).1
  have hb0 := (hg.tabs.2 0 (by omega)).2
  simp only [Lib.accLo, Lib.accHi] at ha0 hb0
  simp at ha0 hb0 hc
  clear hf hg
  have hlt : ((s[0]'h0).toNat : Int) < 256 := by have := UInt8.toNat_lt (s[0]'h0); omega
  by_cases hn : 2 ≤ s.size
  · have hr : fullX 2 s = true := by unfold fullX; rw [if_pos (by omega)]
    have HR := Lib.hid hr
    clear hr
    go_enter Tryd.func55, Tryd.ntmps55
    go_wp2
    go_ret
    exact ⟨by rw [HR.out]; rfl, by repeat (first | exact Below.refl _ _ | apply pw_below_drewN | apply below_drew | apply below_alloc)⟩
  · by_cases h1 : s.size ≤ 1
    · have d1 : decide ((1 : Int) < (s.size : Int)) = false := by simp; omega
      have d2 : decide ((2 : Int) < (s.size : Int)) = false := by simp; omega
      have hr : fullX 2 s = false := by
        unfold fullX; rw [if_neg (by omega)]; rw [if_neg (by omega), if_neg (by omega)]
      have HR := Lib.hid hr
      clear hr
      go_enter Tryd.func55, Tryd.ntmps55
      go_wp2
      go_quiet (fail)
      go_wp2
      go_ret
      exact ⟨by rw [HR.out]; rfl, by repeat (first | exact Below.refl _ _ | apply pw_below_drewN | apply below_drew | apply below_alloc)⟩
    · exact absurd h1 (by omega)

set_option maxRecDepth 100000 in
set_option maxHeartbeats 8000000 in
theorem full_19 (s : ByteArray) (h0 : 0 < s.size) (hs : s.size ≤ 1000000) (w : World) (hg : Gl w) (hf : Lib.firstT (s[0]'h0).toNat = 19) :
    Calls Tryd.prog 55 #[.string s] w (FullPost (fullX 19 s) w) := by
  have hc := hg.tabs.1 (s[0]'h0).toNat (UInt8.toNat_lt _)
  rw [hf] at hc
  have ha0 := (hg.tabs.2 1 (by omega)).1
  have hb0 := (hg.tabs.2 1 (by omega)).2
  simp only [Lib.accLo, Lib.accHi] at ha0 hb0
  simp at ha0 hb0 hc
  clear hf hg
  have hlt : ((s[0]'h0).toNat : Int) < 256 := by have := UInt8.toNat_lt (s[0]'h0); omega
  by_cases hn : 3 ≤ s.size
  · have hr : fullX 19 s = true := by unfold fullX; rw [if_pos (by omega)]
    have HR := Lib.hid hr
    clear hr
    go_enter Tryd.func55, Tryd.ntmps55
    go_wp2
    go_ret
    exact ⟨by rw [HR.out]; rfl, by repeat (first | exact Below.refl _ _ | apply pw_below_drewN | apply below_drew | apply below_alloc)⟩
  · by_cases h1 : s.size ≤ 1
    · have d1 : decide ((1 : Int) < (s.size : Int)) = false := by simp; omega
      have d2 : decide ((2 : Int) < (s.size : Int)) = false := by simp; omega
      have hr : fullX 19 s = false := by
        unfold fullX; rw [if_neg (by omega)]; rw [if_neg (by omega), if_neg (by omega)]
      have HR := Lib.hid hr
      clear hr
      go_enter Tryd.func55, Tryd.ntmps55
      go_wp2
      go_quiet (fail)
      go_wp2
      go_ret
      exact ⟨by rw [HR.out]; rfl, by repeat (first | exact Below.refl _ _ | apply pw_below_drewN | apply below_drew | apply below_alloc)⟩
    · have hb1 : 1 < s.size := by omega
      have E1 := Lib.hid (byt_at hb1)
      have r1 := byt_lo s 1
      have i1 : (1 : Int) < (s.size : Int) := by omega
      by_cases hp : ((s[1]'hb1).toNat : Int) < 160
      · have d1 : decide ((1 : Int) < (s.size : Int)) = true := by simp; omega
        have c1 : decide (((s[1]'hb1).toNat : Int) < 160) = true := by simp; omega
        have hr : fullX 19 s = true := by
          have e1 := E1.out; unfold fullX; rw [if_neg (by omega)]; rw [if_pos ⟨hb1, by simp [Lib.accLo]; omega⟩]
        have HR := Lib.hid hr
        clear hr
        go_enter Tryd.func55, Tryd.ntmps55
        go_wp2
        go_quiet (fail)
        go_wp2
        go_ret
        exact ⟨by rw [HR.out]; rfl, by repeat (first | exact Below.refl _ _ | apply pw_below_drewN | apply below_drew | apply below_alloc)⟩
      by_cases hq : 191 < ((s[1]'hb1).toNat : Int)
      · have d1 : decide ((1 : Int) < (s.size : Int)) = true := by simp; omega
        have c1 : decide (((s[1]'hb1).toNat : Int) < 160) = false := by simp; omega
        have c2 : decide ((191 : Int) < ((s[1]'hb1).toNat : Int)) = true := by simp; omega
        have hr : fullX 19 s = true := by
          have e1 := E1.out; unfold fullX; rw [if_neg (by omega)]; rw [if_pos ⟨hb1, by simp [Lib.accHi]; omega⟩]
        have HR := Lib.hid hr
        clear hr
        go_enter Tryd.func55, Tryd.ntmps55
        go_wp2
        go_quiet (fail)
        go_wp2
        go_ret
        exact ⟨by rw [HR.out]; rfl, by repeat (first | exact Below.refl _ _ | apply pw_below_drewN | apply below_drew | apply below_alloc)⟩
      have d1 : decide ((1 : Int) < (s.size : Int)) = true := by simp; omega
      have d2 : decide ((2 : Int) < (s.size : Int)) = false := by simp; omega
      have c1 : decide (((s[1]'hb1).toNat : Int) < 160) = false := by simp; omega
      have c2 : decide ((191 : Int) < ((s[1]'hb1).toNat : Int)) = false := by simp; omega
      have hr : fullX 19 s = false := by
        have e1 := E1.out; unfold fullX; rw [if_neg (by omega)]; rw [if_neg (by simp [Lib.accLo, Lib.accHi]; omega)]; rw [if_neg (by omega)]
      have HR := Lib.hid hr
      clear hr
      go_enter Tryd.func55, Tryd.ntmps55
      go_wp2
      go_quiet (fail)
      go_wp2
      go_ret
      exact ⟨by rw [HR.out]; rfl, by repeat (first | exact Below.refl _ _ | apply pw_below_drewN | apply below_drew | apply below_alloc)⟩

set_option maxRecDepth 100000 in
set_option maxHeartbeats 8000000 in
theorem full_3 (s : ByteArray) (h0 : 0 < s.size) (hs : s.size ≤ 1000000) (w : World) (hg : Gl w) (hf : Lib.firstT (s[0]'h0).toNat = 3) :
    Calls Tryd.prog 55 #[.string s] w (FullPost (fullX 3 s) w) := by
  have hc := hg.tabs.1 (s[0]'h0).toNat (UInt8.toNat_lt _)
  rw [hf] at hc
  have ha0 := (hg.tabs.2 0 (by omega)).1
  have hb0 := (hg.tabs.2 0 (by omega)).2
  simp only [Lib.accLo, Lib.accHi] at ha0 hb0
  simp at ha0 hb0 hc
  clear hf hg
  have hlt : ((s[0]'h0).toNat : Int) < 256 := by have := UInt8.toNat_lt (s[0]'h0); omega
  by_cases hn : 3 ≤ s.size
  · have hr : fullX 3 s = true := by unfold fullX; rw [if_pos (by omega)]
    have HR := Lib.hid hr
    clear hr
    go_enter Tryd.func55, Tryd.ntmps55
    go_wp2
    go_ret
    exact ⟨by rw [HR.out]; rfl, by repeat (first | exact Below.refl _ _ | apply pw_below_drewN | apply below_drew | apply below_alloc)⟩
  · by_cases h1 : s.size ≤ 1
    · have d1 : decide ((1 : Int) < (s.size : Int)) = false := by simp; omega
      have d2 : decide ((2 : Int) < (s.size : Int)) = false := by simp; omega
      have hr : fullX 3 s = false := by
        unfold fullX; rw [if_neg (by omega)]; rw [if_neg (by omega), if_neg (by omega)]
      have HR := Lib.hid hr
      clear hr
      go_enter Tryd.func55, Tryd.ntmps55
      go_wp2
      go_quiet (fail)
      go_wp2
      go_ret
      exact ⟨by rw [HR.out]; rfl, by repeat (first | exact Below.refl _ _ | apply pw_below_drewN | apply below_drew | apply below_alloc)⟩
    · have hb1 : 1 < s.size := by omega
      have E1 := Lib.hid (byt_at hb1)
      have r1 := byt_lo s 1
      have i1 : (1 : Int) < (s.size : Int) := by omega
      by_cases hp : ((s[1]'hb1).toNat : Int) < 128
      · have d1 : decide ((1 : Int) < (s.size : Int)) = true := by simp; omega
        have c1 : decide (((s[1]'hb1).toNat : Int) < 128) = true := by simp; omega
        have hr : fullX 3 s = true := by
          have e1 := E1.out; unfold fullX; rw [if_neg (by omega)]; rw [if_pos ⟨hb1, by simp [Lib.accLo]; omega⟩]
        have HR := Lib.hid hr
        clear hr
        go_enter Tryd.func55, Tryd.ntmps55
        go_wp2
        go_quiet (fail)
        go_wp2
        go_ret
        exact ⟨by rw [HR.out]; rfl, by repeat (first | exact Below.refl _ _ | apply pw_below_drewN | apply below_drew | apply below_alloc)⟩
      by_cases hq : 191 < ((s[1]'hb1).toNat : Int)
      · have d1 : decide ((1 : Int) < (s.size : Int)) = true := by simp; omega
        have c1 : decide (((s[1]'hb1).toNat : Int) < 128) = false := by simp; omega
        have c2 : decide ((191 : Int) < ((s[1]'hb1).toNat : Int)) = true := by simp; omega
        have hr : fullX 3 s = true := by
          have e1 := E1.out; unfold fullX; rw [if_neg (by omega)]; rw [if_pos ⟨hb1, by simp [Lib.accHi]; omega⟩]
        have HR := Lib.hid hr
        clear hr
        go_enter Tryd.func55, Tryd.ntmps55
        go_wp2
        go_quiet (fail)
        go_wp2
        go_ret
        exact ⟨by rw [HR.out]; rfl, by repeat (first | exact Below.refl _ _ | apply pw_below_drewN | apply below_drew | apply below_alloc)⟩
      have d1 : decide ((1 : Int) < (s.size : Int)) = true := by simp; omega
      have d2 : decide ((2 : Int) < (s.size : Int)) = false := by simp; omega
      have c1 : decide (((s[1]'hb1).toNat : Int) < 128) = false := by simp; omega
      have c2 : decide ((191 : Int) < ((s[1]'hb1).toNat : Int)) = false := by simp; omega
      have hr : fullX 3 s = false := by
        have e1 := E1.out; unfold fullX; rw [if_neg (by omega)]; rw [if_neg (by simp [Lib.accLo, Lib.accHi]; omega)]; rw [if_neg (by omega)]
      have HR := Lib.hid hr
      clear hr
      go_enter Tryd.func55, Tryd.ntmps55
      go_wp2
      go_quiet (fail)
      go_wp2
      go_ret
      exact ⟨by rw [HR.out]; rfl, by repeat (first | exact Below.refl _ _ | apply pw_below_drewN | apply below_drew | apply below_alloc)⟩

set_option maxRecDepth 100000 in
set_option maxHeartbeats 8000000 in
theorem full_35 (s : ByteArray) (h0 : 0 < s.size) (hs : s.size ≤ 1000000) (w : World) (hg : Gl w) (hf : Lib.firstT (s[0]'h0).toNat = 35) :
    Calls Tryd.prog 55 #[.string s] w (FullPost (fullX 35 s) w) := by
  have hc := hg.tabs.1 (s[0]'h0).toNat (UInt8.toNat_lt _)
  rw [hf] at hc
  have ha0 := (hg.tabs.2 2 (by omega)).1
  have hb0 := (hg.tabs.2 2 (by omega)).2
  simp only [Lib.accLo, Lib.accHi] at ha0 hb0
  simp at ha0 hb0 hc
  clear hf hg
  have hlt : ((s[0]'h0).toNat : Int) < 256 := by have := UInt8.toNat_lt (s[0]'h0); omega
  by_cases hn : 3 ≤ s.size
  · have hr : fullX 35 s = true := by unfold fullX; rw [if_pos (by omega)]
    have HR := Lib.hid hr
    clear hr
    go_enter Tryd.func55, Tryd.ntmps55
    go_wp2
    go_ret
    exact ⟨by rw [HR.out]; rfl, by repeat (first | exact Below.refl _ _ | apply pw_below_drewN | apply below_drew | apply below_alloc)⟩
  · by_cases h1 : s.size ≤ 1
    · have d1 : decide ((1 : Int) < (s.size : Int)) = false := by simp; omega
      have d2 : decide ((2 : Int) < (s.size : Int)) = false := by simp; omega
      have hr : fullX 35 s = false := by
        unfold fullX; rw [if_neg (by omega)]; rw [if_neg (by omega), if_neg (by omega)]
      have HR := Lib.hid hr
      clear hr
      go_enter Tryd.func55, Tryd.ntmps55
      go_wp2
      go_quiet (fail)
      go_wp2
      go_ret
      exact ⟨by rw [HR.out]; rfl, by repeat (first | exact Below.refl _ _ | apply pw_below_drewN | apply below_drew | apply below_alloc)⟩
    · have hb1 : 1 < s.size := by omega
      have E1 := Lib.hid (byt_at hb1)
      have r1 := byt_lo s 1
      have i1 : (1 : Int) < (s.size : Int) := by omega
      by_cases hp : ((s[1]'hb1).toNat : Int) < 128
      · have d1 : decide ((1 : Int) < (s.size : Int)) = true := by simp; omega
        have c1 : decide (((s[1]'hb1).toNat : Int) < 128) = true := by simp; omega
        have hr : fullX 35 s = true := by
          have e1 := E1.out; unfold fullX; rw [if_neg (by omega)]; rw [if_pos ⟨hb1, by simp [Lib.accLo]; omega⟩]
        have HR := Lib.hid hr
        clear hr
        go_enter Tryd.func55, Tryd.ntmps55
        go_wp2
        go_quiet (fail)
        go_wp2
        go_ret
        exact ⟨by rw [HR.out]; rfl, by repeat (first | exact Below.refl _ _ | apply pw_below_drewN | apply below_drew | apply below_alloc)⟩
      by_cases hq : 159 < ((s[1]'hb1).toNat : Int)
      · have d1 : decide ((1 : Int) < (s.size : Int)) = true := by simp; omega
        have c1 : decide (((s[1]'hb1).toNat : Int) < 128) = false := by simp; omega
        have c2 : decide ((159 : Int) < ((s[1]'hb1).toNat : Int)) = true := by simp; omega
        have hr : fullX 35 s = true := by
          have e1 := E1.out; unfold fullX; rw [if_neg (by omega)]; rw [if_pos ⟨hb1, by simp [Lib.accHi]; omega⟩]
        have HR := Lib.hid hr
        clear hr
        go_enter Tryd.func55, Tryd.ntmps55
        go_wp2
        go_quiet (fail)
        go_wp2
        go_ret
        exact ⟨by rw [HR.out]; rfl, by repeat (first | exact Below.refl _ _ | apply pw_below_drewN | apply below_drew | apply below_alloc)⟩
      have d1 : decide ((1 : Int) < (s.size : Int)) = true := by simp; omega
      have d2 : decide ((2 : Int) < (s.size : Int)) = false := by simp; omega
      have c1 : decide (((s[1]'hb1).toNat : Int) < 128) = false := by simp; omega
      have c2 : decide ((159 : Int) < ((s[1]'hb1).toNat : Int)) = false := by simp; omega
      have hr : fullX 35 s = false := by
        have e1 := E1.out; unfold fullX; rw [if_neg (by omega)]; rw [if_neg (by simp [Lib.accLo, Lib.accHi]; omega)]; rw [if_neg (by omega)]
      have HR := Lib.hid hr
      clear hr
      go_enter Tryd.func55, Tryd.ntmps55
      go_wp2
      go_quiet (fail)
      go_wp2
      go_ret
      exact ⟨by rw [HR.out]; rfl, by repeat (first | exact Below.refl _ _ | apply pw_below_drewN | apply below_drew | apply below_alloc)⟩

set_option maxRecDepth 100000 in
set_option maxHeartbeats 8000000 in
theorem full_52 (s : ByteArray) (h0 : 0 < s.size) (hs : s.size ≤ 1000000) (w : World) (hg : Gl w) (hf : Lib.firstT (s[0]'h0).toNat = 52) :
    Calls Tryd.prog 55 #[.string s] w (FullPost (fullX 52 s) w) := by
  have hc := hg.tabs.1 (s[0]'h0).toNat (UInt8.toNat_lt _)
  rw [hf] at hc
  have ha0 := (hg.tabs.2 3 (by omega)).1
  have hb0 := (hg.tabs.2 3 (by omega)).2
  simp only [Lib.accLo, Lib.accHi] at ha0 hb0
  simp at ha0 hb0 hc
  clear hf hg
  have hlt : ((s[0]'h0).toNat : Int) < 256 := by have := UInt8.toNat_lt (s[0]'h0); omega
  by_cases hn : 4 ≤ s.size
  · have hr : fullX 52 s = true := by unfold fullX; rw [if_pos (by omega)]
    have HR := Lib.hid hr
    clear hr
    go_enter Tryd.func55, Tryd.ntmps55
    go_wp2
    go_ret
    exact ⟨by rw [HR.out]; rfl, by repeat (first | exact Below.refl _ _ | apply pw_below_drewN | apply below_drew | apply below_alloc)⟩
  · by_cases h1 : s.size ≤ 1
    · have d1 : decide ((1 : Int) < (s.size : Int)) = false := by simp; omega
      have d2 : decide ((2 : Int) < (s.size : Int)) = false := by simp; omega
      have hr : fullX 52 s = false := by
        unfold fullX; rw [if_neg (by omega)]; rw [if_neg (by omega), if_neg (by omega)]
      have HR := Lib.hid hr
      clear hr
      go_enter Tryd.func55, Tryd.ntmps55
      go_wp2
      go_quiet (fail)
      go_wp2
      all_goals (try (go_quiet (fail); go_wp2))
      go_ret
      exact ⟨by rw [HR.out]; rfl, by repeat (first | exact Below.refl _ _ | apply pw_below_drewN | apply below_drew | apply below_alloc)⟩
    · have hb1 : 1 < s.size := by omega
      have E1 := Lib.hid (byt_at hb1)
      have r1 := byt_lo s 1
      have i1 : (1 : Int) < (s.size : Int) := by omega
      by_cases hp : ((s[1]'hb1).toNat : Int) < 144
      · have d1 : decide ((1 : Int) < (s.size : Int)) = true := by simp; omega
        have c1 : decide (((s[1]'hb1).toNat : Int) < 144) = true := by simp; omega
        have hr : fullX 52 s = true := by
          have e1 := E1.out; unfold fullX; rw [if_neg (by omega)]; rw [if_pos ⟨hb1, by simp [Lib.accLo]; omega⟩]
        have HR := Lib.hid hr
        clear hr
        go_enter Tryd.func55, Tryd.ntmps55
        go_wp2
        go_quiet (fail)
        go_wp2
        all_goals (try (go_quiet (fail); go_wp2))
        go_ret
        exact ⟨by rw [HR.out]; rfl, by repeat (first | exact Below.refl _ _ | apply pw_below_drewN | apply below_drew | apply below_alloc)⟩
      by_cases hq : 191 < ((s[1]'hb1).toNat : Int)
      · have d1 : decide ((1 : Int) < (s.size : Int)) = true := by simp; omega
        have c1 : decide (((s[1]'hb1).toNat : Int) < 144) = false := by simp; omega
        have c2 : decide ((191 : Int) < ((s[1]'hb1).toNat : Int)) = true := by simp; omega
        have hr : fullX 52 s = true := by
          have e1 := E1.out; unfold fullX; rw [if_neg (by omega)]; rw [if_pos ⟨hb1, by simp [Lib.accHi]; omega⟩]
        have HR := Lib.hid hr
        clear hr
        go_enter Tryd.func55, Tryd.ntmps55
        go_wp2
        go_quiet (fail)
        go_wp2
        all_goals (try (go_quiet (fail); go_wp2))
        go_ret
        exact ⟨by rw [HR.out]; rfl, by repeat (first | exact Below.refl _ _ | apply pw_below_drewN | apply below_drew | apply below_alloc)⟩
      by_cases h2 : s.size ≤ 2
      · have d1 : decide ((1 : Int) < (s.size : Int)) = true := by simp; omega
        have d2 : decide ((2 : Int) < (s.size : Int)) = false := by simp; omega
        have c1 : decide (((s[1]'hb1).toNat : Int) < 144) = false := by simp; omega
        have c2 : decide ((191 : Int) < ((s[1]'hb1).toNat : Int)) = false := by simp; omega
        have hr : fullX 52 s = false := by
          have e1 := E1.out; unfold fullX; rw [if_neg (by omega)]; rw [if_neg (by simp [Lib.accLo, Lib.accHi]; omega)]; rw [if_neg (by omega)]
        have HR := Lib.hid hr
        clear hr
        go_enter Tryd.func55, Tryd.ntmps55
        go_wp2
        go_quiet (fail)
        go_wp2
        all_goals (try (go_quiet (fail); go_wp2))
        go_ret
        exact ⟨by rw [HR.out]; rfl, by repeat (first | exact Below.refl _ _ | apply pw_below_drewN | apply below_drew | apply below_alloc)⟩
      have hb2 : 2 < s.size := by omega
      have E2 := Lib.hid (byt_at hb2)
      have r2 := byt_lo s 2
      have i2 : (2 : Int) < (s.size : Int) := by omega
      by_cases hu : ((s[2]'hb2).toNat : Int) < 128
      · have d1 : decide ((1 : Int) < (s.size : Int)) = true := by simp; omega
        have d2 : decide ((2 : Int) < (s.size : Int)) = true := by simp; omega
        have c1 : decide (((s[1]'hb1).toNat : Int) < 144) = false := by simp; omega
        have c2 : decide ((191 : Int) < ((s[1]'hb1).toNat : Int)) = false := by simp; omega
        have k1 : decide (((s[2]'hb2).toNat : Int) < 128) = true := by simp; omega
        have hr : fullX 52 s = true := by
          have e1 := E1.out; have e2 := E2.out; unfold fullX; rw [if_neg (by omega)]; rw [if_neg (by simp [Lib.accLo, Lib.accHi]; omega)]; rw [if_pos ⟨hb2, by omega⟩]
        have HR := Lib.hid hr
        clear hr
        go_enter Tryd.func55, Tryd.ntmps55
        go_wp2
        go_quiet (fail)
        go_wp2
        all_goals (try (go_quiet (fail); go_wp2))
        go_ret
        exact ⟨by rw [HR.out]; rfl, by repeat (first | exact Below.refl _ _ | apply pw_below_drewN | apply below_drew | apply below_alloc)⟩
      by_cases hv : 191 < ((s[2]'hb2).toNat : Int)
      · have d1 : decide ((1 : Int) < (s.size : Int)) = true := by simp; omega
        have d2 : decide ((2 : Int) < (s.size : Int)) = true := by simp; omega
        have c1 : decide (((s[1]'hb1).toNat : Int) < 144) = false := by simp; omega
        have c2 : decide ((191 : Int) < ((s[1]'hb1).toNat : Int)) = false := by simp; omega
        have k1 : decide (((s[2]'hb2).toNat : Int) < 128) = false := by simp; omega
        have k2 : decide ((191 : Int) < ((s[2]'hb2).toNat : Int)) = true := by simp; omega
        have hr : fullX 52 s = true := by
          have e1 := E1.out; have e2 := E2.out; unfold fullX; rw [if_neg (by omega)]; rw [if_neg (by simp [Lib.accLo, Lib.accHi]; omega)]; rw [if_pos ⟨hb2, by omega⟩]
        have HR := Lib.hid hr
        clear hr
        go_enter Tryd.func55, Tryd.ntmps55
        go_wp2
        go_quiet (fail)
        go_wp2
        all_goals (try (go_quiet (fail); go_wp2))
        go_ret
        exact ⟨by rw [HR.out]; rfl, by repeat (first | exact Below.refl _ _ | apply pw_below_drewN | apply below_drew | apply below_alloc)⟩
      have d1 : decide ((1 : Int) < (s.size : Int)) = true := by simp; omega
      have d2 : decide ((2 : Int) < (s.size : Int)) = true := by simp; omega
      have c1 : decide (((s[1]'hb1).toNat : Int) < 144) = false := by simp; omega
      have c2 : decide ((191 : Int) < ((s[1]'hb1).toNat : Int)) = false := by simp; omega
      have k1 : decide (((s[2]'hb2).toNat : Int) < 128) = false := by simp; omega
      have k2 : decide ((191 : Int) < ((s[2]'hb2).toNat : Int)) = false := by simp; omega
      have hr : fullX 52 s = false := by
        have e1 := E1.out; have e2 := E2.out; unfold fullX; rw [if_neg (by omega)]; rw [if_neg (by simp [Lib.accLo, Lib.accHi]; omega)]; rw [if_neg (by omega)]
      have HR := Lib.hid hr
      clear hr
      go_enter Tryd.func55, Tryd.ntmps55
      go_wp2
      go_quiet (fail)
      go_wp2
      all_goals (try (go_quiet (fail); go_wp2))
      go_ret
      exact ⟨by rw [HR.out]; rfl, by repeat (first | exact Below.refl _ _ | apply pw_below_drewN | apply below_drew | apply below_alloc)⟩

set_option maxRecDepth 100000 in
set_option maxHeartbeats 8000000 in
theorem full_4 (s : ByteArray) (h0 : 0 < s.size) (hs : s.size ≤ 1000000) (w : World) (hg : Gl w) (hf : Lib.firstT (s[0]'h0).toNat = 4) :
    Calls Tryd.prog 55 #[.string s] w (FullPost (fullX 4 s) w) := by
  have hc := hg.tabs.1 (s[0]'h0).toNat (UInt8.toNat_lt _)
  rw [hf] at hc
  have ha0 := (hg.tabs.2 0 (by omega)).1
  have hb0 := (hg.tabs.2 0 (by omega)).2
  simp only [Lib.accLo, Lib.accHi] at ha0 hb0
  simp at ha0 hb0 hc
  clear hf hg
  have hlt : ((s[0]'h0).toNat : Int) < 256 := by have := UInt8.toNat_lt (s[0]'h0); omega
  by_cases hn : 4 ≤ s.size
  · have hr : fullX 4 s = true := by unfold fullX; rw [if_pos (by omega)]
    have HR := Lib.hid hr
    clear hr
    go_enter Tryd.func55, Tryd.ntmps55
    go_wp2
    go_ret
    exact ⟨by rw [HR.out]; rfl, by repeat (first | exact Below.refl _ _ | apply pw_below_drewN | apply below_drew | apply below_alloc)⟩
  · by_cases h1 : s.size ≤ 1
    · have d1 : decide ((1 : Int) < (s.size : Int)) = false := by simp; omega
      have d2 : decide ((2 : Int) < (s.size : Int)) = false := by simp; omega
      have hr : fullX 4 s = false := by
        unfold fullX; rw [if_neg (by omega)]; rw [if_neg (by omega), if_neg (by omega)]
      have HR := Lib.hid hr
      clear hr
      go_enter Tryd.func55, Tryd.ntmps55
      go_wp2
      go_quiet (fail)
      go_wp2
      all_goals (try (go_quiet (fail); go_wp2))
      go_ret
      exact ⟨by rw [HR.out]; rfl, by repeat (first | exact Below.refl _ _ | apply pw_below_drewN | apply below_drew | apply below_alloc)⟩
    · have hb1 : 1 < s.size := by omega
      have E1 := Lib.hid (byt_at hb1)
      have r1 := byt_lo s 1
      have i1 : (1 : Int) < (s.size : Int) := by omega
      by_cases hp : ((s[1]'hb1).toNat : Int) < 128
      · have d1 : decide ((1 : Int) < (s.size : Int)) = true := by simp; omega
        have c1 : decide (((s[1]'hb1).toNat : Int) < 128) = true := by simp; omega
        have hr : fullX 4 s = true := by
          have e1 := E1.out; unfold fullX; rw [if_neg (by omega)]; rw [if_pos ⟨hb1, by simp [Lib.accLo]; omega⟩]
        have HR := Lib.hid hr
        clear hr
        go_enter Tryd.func55, Tryd.ntmps55
        go_wp2
        go_quiet (fail)
        go_wp2
        all_goals (try (go_quiet (fail); go_wp2))
        go_ret
        exact ⟨by rw [HR.out]; rfl, by repeat (first | exact Below.refl _ _ | apply pw_below_drewN | apply below_drew | apply below_alloc)⟩
      by_cases hq : 191 < ((s[1]'hb1).toNat : Int)
      · have d1 : decide ((1 : Int) < (s.size : Int)) = true := by simp; omega
        have c1 : decide (((s[1]'hb1).toNat : Int) < 128) = false := by simp; omega
        have c2 : decide ((191 : Int) < ((s[1]'hb1).toNat : Int)) = true := by simp; omega
        have hr : fullX 4 s = true := by
          have e1 := E1.out; unfold fullX; rw [if_neg (by omega)]; rw [if_pos ⟨hb1, by simp [Lib.accHi]; omega⟩]
        have HR := Lib.hid hr
        clear hr
        go_enter Tryd.func55, Tryd.ntmps55
        go_wp2
        go_quiet (fail)
        go_wp2
        all_goals (try (go_quiet (fail); go_wp2))
        go_ret
        exact ⟨by rw [HR.out]; rfl, by repeat (first | exact Below.refl _ _ | apply pw_below_drewN | apply below_drew | apply below_alloc)⟩
      by_cases h2 : s.size ≤ 2
      · have d1 : decide ((1 : Int) < (s.size : Int)) = true := by simp; omega
        have d2 : decide ((2 : Int) < (s.size : Int)) = false := by simp; omega
        have c1 : decide (((s[1]'hb1).toNat : Int) < 128) = false := by simp; omega
        have c2 : decide ((191 : Int) < ((s[1]'hb1).toNat : Int)) = false := by simp; omega
        have hr : fullX 4 s = false := by
          have e1 := E1.out; unfold fullX; rw [if_neg (by omega)]; rw [if_neg (by simp [Lib.accLo, Lib.accHi]; omega)]; rw [if_neg (by omega)]
        have HR := Lib.hid hr
        clear hr
        go_enter Tryd.func55, Tryd.ntmps55
        go_wp2
        go_quiet (fail)
        go_wp2
        all_goals (try (go_quiet (fail); go_wp2))
        go_ret
        exact ⟨by rw [HR.out]; rfl, by repeat (first | exact Below.refl _ _ | apply pw_below_drewN | apply below_drew | apply below_alloc)⟩
      have hb2 : 2 < s.size := by omega
      have E2 := Lib.hid (byt_at hb2)
      have r2 := byt_lo s 2
      have i2 : (2 : Int) < (s.size : Int) := by omega
      by_cases hu : ((s[2]'hb2).toNat : Int) < 128
      · have d1 : decide ((1 : Int) < (s.size : Int)) = true := by simp; omega
        have d2 : decide ((2 : Int) < (s.size : Int)) = true := by simp; omega
        have c1 : decide (((s[1]'hb1).toNat : Int) < 128) = false := by simp; omega
        have c2 : decide ((191 : Int) < ((s[1]'hb1).toNat : Int)) = false := by simp; omega
        have k1 : decide (((s[2]'hb2).toNat : Int) < 128) = true := by simp; omega
        have hr : fullX 4 s = true := by
          have e1 := E1.out; have e2 := E2.out; unfold fullX; rw [if_neg (by omega)]; rw [if_neg (by simp [Lib.accLo, Lib.accHi]; omega)]; rw [if_pos ⟨hb2, by omega⟩]
        have HR := Lib.hid hr
        clear hr
        go_enter Tryd.func55, Tryd.ntmps55
        go_wp2
        go_quiet (fail)
        go_wp2
        all_goals (try (go_quiet (fail); go_wp2))
        go_ret
        exact ⟨by rw [HR.out]; rfl, by repeat (first | exact Below.refl _ _ | apply pw_below_drewN | apply below_drew | apply below_alloc)⟩
      by_cases hv : 191 < ((s[2]'hb2).toNat : Int)
      · have d1 : decide ((1 : Int) < (s.size : Int)) = true := by simp; omega
        have d2 : decide ((2 : Int) < (s.size : Int)) = true := by simp; omega
        have c1 : decide (((s[1]'hb1).toNat : Int) < 128) = false := by simp; omega
        have c2 : decide ((191 : Int) < ((s[1]'hb1).toNat : Int)) = false := by simp; omega
        have k1 : decide (((s[2]'hb2).toNat : Int) < 128) = false := by simp; omega
        have k2 : decide ((191 : Int) < ((s[2]'hb2).toNat : Int)) = true := by simp; omega
        have hr : fullX 4 s = true := by
          have e1 := E1.out; have e2 := E2.out; unfold fullX; rw [if_neg (by omega)]; rw [if_neg (by simp [Lib.accLo, Lib.accHi]; omega)]; rw [if_pos ⟨hb2, by omega⟩]
        have HR := Lib.hid hr
        clear hr
        go_enter Tryd.func55, Tryd.ntmps55
        go_wp2
        go_quiet (fail)
        go_wp2
        all_goals (try (go_quiet (fail); go_wp2))
        go_ret
        exact ⟨by rw [HR.out]; rfl, by repeat (first | exact Below.refl _ _ | apply pw_below_drewN | apply below_drew | apply below_alloc)⟩
      have d1 : decide ((1 : Int) < (s.size : Int)) = true := by simp; omega
      have d2 : decide ((2 : Int) < (s.size : Int)) = true := by simp; omega
      have c1 : decide (((s[1]'hb1).toNat : Int) < 128) = false := by simp; omega
      have c2 : decide ((191 : Int) < ((s[1]'hb1).toNat : Int)) = false := by simp; omega
      have k1 : decide (((s[2]'hb2).toNat : Int) < 128) = false := by simp; omega
      have k2 : decide ((191 : Int) < ((s[2]'hb2).toNat : Int)) = false := by simp; omega
      have hr : fullX 4 s = false := by
        have e1 := E1.out; have e2 := E2.out; unfold fullX; rw [if_neg (by omega)]; rw [if_neg (by simp [Lib.accLo, Lib.accHi]; omega)]; rw [if_neg (by omega)]
      have HR := Lib.hid hr
      clear hr
      go_enter Tryd.func55, Tryd.ntmps55
      go_wp2
      go_quiet (fail)
      go_wp2
      all_goals (try (go_quiet (fail); go_wp2))
      go_ret
      exact ⟨by rw [HR.out]; rfl, by repeat (first | exact Below.refl _ _ | apply pw_below_drewN | apply below_drew | apply below_alloc)⟩

set_option maxRecDepth 100000 in
set_option maxHeartbeats 8000000 in
theorem full_68 (s : ByteArray) (h0 : 0 < s.size) (hs : s.size ≤ 1000000) (w : World) (hg : Gl w) (hf : Lib.firstT (s[0]'h0).toNat = 68) :
    Calls Tryd.prog 55 #[.string s] w (FullPost (fullX 68 s) w) := by
  have hc := hg.tabs.1 (s[0]'h0).toNat (UInt8.toNat_lt _)
  rw [hf] at hc
  have ha0 := (hg.tabs.2 4 (by omega)).1
  have hb0 := (hg.tabs.2 4 (by omega)).2
  simp only [Lib.accLo, Lib.accHi] at ha0 hb0
  simp at ha0 hb0 hc
  clear hf hg
  have hlt : ((s[0]'h0).toNat : Int) < 256 := by have := UInt8.toNat_lt (s[0]'h0); omega
  by_cases hn : 4 ≤ s.size
  · have hr : fullX 68 s = true := by unfold fullX; rw [if_pos (by omega)]
    have HR := Lib.hid hr
    clear hr
    go_enter Tryd.func55, Tryd.ntmps55
    go_wp2
    go_ret
    exact ⟨by rw [HR.out]; rfl, by repeat (first | exact Below.refl _ _ | apply pw_below_drewN | apply below_drew | apply below_alloc)⟩
  · by_cases h1 : s.size ≤ 1
    · have d1 : decide ((1 : Int) < (s.size : Int)) = false := by simp; omega
      have d2 : decide ((2 : Int) < (s.size : Int)) = false := by simp; omega
      have hr : fullX 68 s = false := by
        unfold fullX; rw [if_neg (by omega)]; rw [if_neg (by omega), if_neg (by omega)]
      have HR := Lib.hid hr
      clear hr
      go_enter Tryd.func55, Tryd.ntmps55
      go_wp2
      go_quiet (fail)
      go_wp2
      all_goals (try (go_quiet (fail); go_wp2))
      go_ret
      exact ⟨by rw [HR.out]; rfl, by repeat (first | exact Below.refl _ _ | apply pw_below_drewN | apply below_drew | apply below_alloc)⟩
    · have hb1 : 1 < s.size := by omega
      have E1 := Lib.hid (byt_at hb1)
      have r1 := byt_lo s 1
      have i1 : (1 : Int) < (s.size : Int) := by omega
      by_cases hp : ((s[1]'hb1).toNat : Int) < 128
      · have d1 : decide ((1 : Int) < (s.size : Int)) = true := by simp; omega
        have c1 : decide (((s[1]'hb1).toNat : Int) < 128) = true := by simp; omega
        have hr : fullX 68 s = true := by
          have e1 := E1.out; unfold fullX; rw [if_neg (by omega)]; rw [if_pos ⟨hb1, by simp [Lib.accLo]; omega⟩]
        have HR := Lib.hid hr
        clear hr
        go_enter Tryd.func55, Tryd.ntmps55
        go_wp2
        go_quiet (fail)
        go_wp2
        all_goals (try (go_quiet (fail); go_wp2))
        go_ret
        exact ⟨by rw [HR.out]; rfl, by repeat (first | exact Below.refl _ _ | apply pw_below_drewN | apply below_drew | apply below_alloc)⟩
      by_cases hq : 143 < ((s[1]'hb1).toNat : Int)
      · have d1 : decide ((1 : Int) < (s.size : Int)) = true := by simp; omega
        have c1 : decide (((s[1]'hb1).toNat : Int) < 128) = false := by simp; omega
        have c2 : decide ((143 : Int) < ((s[1]'hb1).toNat : Int)) = true := by simp; omega
        have hr : fullX 68 s = true := by
          have e1 := E1.out; unfold fullX; rw [if_neg (by omega)]; rw [if_pos ⟨hb1, by simp [Lib.accHi]; omega⟩]
        have HR := Lib.hid hr
        clear hr
        go_enter Tryd.func55, Tryd.ntmps55
        go_wp2
        go_quiet (fail)
        go_wp2
        all_goals (try (go_quiet (fail); go_wp2))
        go_ret
        exact ⟨by rw [HR.out]; rfl, by repeat (first | exact Below.refl _ _ | apply pw_below_drewN | apply below_drew | apply below_alloc)⟩
      by_cases h2 : s.size ≤ 2
      · have d1 : decide ((1 : Int) < (s.size : Int)) = true := by simp; omega
        have d2 : decide ((2 : Int) < (s.size : Int)) = false := by simp; omega
        have c1 : decide (((s[1]'hb1).toNat : Int) < 128) = false := by simp; omega
        have c2 : decide ((143 : Int) < ((s[1]'hb1).toNat : Int)) = false := by simp; omega
        have hr : fullX 68 s = false := by
          have e1 := E1.out; unfold fullX; rw [if_neg (by omega)]; rw [if_neg (by simp [Lib.accLo, Lib.accHi]; omega)]; rw [if_neg (by omega)]
        have HR := Lib.hid hr
        clear hr
        go_enter Tryd.func55, Tryd.ntmps55
        go_wp2
        go_quiet (fail)
        go_wp2
        all_goals (try (go_quiet (fail); go_wp2))
        go_ret
        exact ⟨by rw [HR.out]; rfl, by repeat (first | exact Below.refl _ _ | apply pw_below_drewN | apply below_drew | apply below_alloc)⟩
      have hb2 : 2 < s.size := by omega
      have E2 := Lib.hid (byt_at hb2)
      have r2 := byt_lo s 2
      have i2 : (2 : Int) < (s.size : Int) := by omega
      by_cases hu : ((s[2]'hb2).toNat : Int) < 128
      · have d1 : decide ((1 : Int) < (s.size : Int)) = true := by simp; omega
        have d2 : decide ((2 : Int) < (s.size : Int)) = true := by simp; omega
        have c1 : decide (((s[1]'hb1).toNat : Int) < 128) = false := by simp; omega
        have c2 : decide ((143 : Int) < ((s[1]'hb1).toNat : Int)) = false := by simp; omega
        have k1 : decide (((s[2]'hb2).toNat : Int) < 128) = true := by simp; omega
        have hr : fullX 68 s = true := by
          have e1 := E1.out; have e2 := E2.out; unfold fullX; rw [if_neg (by omega)]; rw [if_neg (by simp [Lib.accLo, Lib.accHi]; omega)]; rw [if_pos ⟨hb2, by omega⟩]
        have HR := Lib.hid hr
        clear hr
        go_enter Tryd.func55, Tryd.ntmps55
        go_wp2
        go_quiet (fail)
        go_wp2
        all_goals (try (go_quiet (fail); go_wp2))
        go_ret
        exact ⟨by rw [HR.out]; rfl, by repeat (first | exact Below.refl _ _ | apply pw_below_drewN | apply below_drew | apply below_alloc)⟩
      by_cases hv : 191 < ((s[2]'hb2).toNat : Int)
      · have d1 : decide ((1 : Int) < (s.size : Int)) = true := by simp; omega
        have d2 : decide ((2 : Int) < (s.size : Int)) = true := by simp; omega
        have c1 : decide (((s[1]'hb1).toNat : Int) < 128) = false := by simp; omega
        have c2 : decide ((143 : Int) < ((s[1]'hb1).toNat : Int)) = false := by simp; omega
        have k1 : decide (((s[2]'hb2).toNat : Int) < 128) = false := by simp; omega
        have k2 : decide ((191 : Int) < ((s[2]'hb2).toNat : Int)) = true := by simp; omega
        have hr : fullX 68 s = true := by
          have e1 := E1.out; have e2 := E2.out; unfold fullX; rw [if_neg (by omega)]; rw [if_neg (by simp [Lib.accLo, Lib.accHi]; omega)]; rw [if_pos ⟨hb2, by omega⟩]
        have HR := Lib.hid hr
        clear hr
        go_enter Tryd.func55, Tryd.ntmps55
        go_wp2
        go_quiet (fail)
        go_wp2
        all_goals (try (go_quiet (fail); go_wp2))
        go_ret
        exact ⟨by rw [HR.out]; rfl, by repeat (first | exact Below.refl _ _ | apply pw_below_drewN | apply below_drew | apply below_alloc)⟩
      have d1 : decide ((1 : Int) < (s.size : Int)) = true := by simp; omega
      have d2 : decide ((2 : Int) < (s.size : Int)) = true := by simp; omega
      have c1 : decide (((s[1]'hb1).toNat : Int) < 128) = false := by simp; omega
      have c2 : decide ((143 : Int) < ((s[1]'hb1).toNat : Int)) = false := by simp; omega
      have k1 : decide (((s[2]'hb2).toNat : Int) < 128) = false := by simp; omega
      have k2 : decide ((191 : Int) < ((s[2]'hb2).toNat : Int)) = false := by simp; omega
      have hr : fullX 68 s = false := by
        have e1 := E1.out; have e2 := E2.out; unfold fullX; rw [if_neg (by omega)]; rw [if_neg (by simp [Lib.accLo, Lib.accHi]; omega)]; rw [if_neg (by omega)]
      have HR := Lib.hid hr
      clear hr
      go_enter Tryd.func55, Tryd.ntmps55
      go_wp2
      go_quiet (fail)
      go_wp2
      all_goals (try (go_quiet (fail); go_wp2))
      go_ret
      exact ⟨by rw [HR.out]; rfl, by repeat (first | exact Below.refl _ _ | apply pw_below_drewN | apply below_drew | apply below_alloc)⟩

set_option maxRecDepth 100000 in
set_option maxHeartbeats 8000000 in
theorem full_240 (s : ByteArray) (h0 : 0 < s.size) (hs : s.size ≤ 1000000) (w : World) (hg : Gl w) (hf : Lib.firstT (s[0]'h0).toNat = 240) :
    Calls Tryd.prog 55 #[.string s] w (FullPost (fullX 240 s) w) := by
  have hc := hg.tabs.1 (s[0]'h0).toNat (UInt8.toNat_lt _)
  rw [hf] at hc
  simp at hc
  clear hf hg
  have hlt : ((s[0]'h0).toNat : Int) < 256 := by have := UInt8.toNat_lt (s[0]'h0); omega
  have hr : fullX 240 s = true := by unfold fullX; rw [if_pos (by omega)]
  have HR := Lib.hid hr
  clear hr
  go_enter Tryd.func55, Tryd.ntmps55
  go_wp2
  go_ret
  exact ⟨by rw [HR.out]; rfl, by go_grown⟩

set_option maxRecDepth 100000 in
set_option maxHeartbeats 8000000 in
theorem full_241 (s : ByteArray) (h0 : 0 < s.size) (hs : s.size ≤ 1000000) (w : World) (hg : Gl w) (hf : Lib.firstT (s[0]'h0).toNat = 241) :
    Calls Tryd.prog 55 #[.string s] w (FullPost (fullX 241 s) w) := by
  have hc := hg.tabs.1 (s[0]'h0).toNat (UInt8.toNat_lt _)
  rw [hf] at hc
  simp at hc
  clear hf hg
  have hlt : ((s[0]'h0).toNat : Int) < 256 := by have := UInt8.toNat_lt (s[0]'h0); omega
  have hr : fullX 241 s = true := by unfold fullX; rw [if_pos (by omega)]
  have HR := Lib.hid hr
  clear hr
  go_enter Tryd.func55, Tryd.ntmps55
  go_wp2
  go_ret
  exact ⟨by rw [HR.out]; rfl, by go_grown⟩

theorem full_calls (s : ByteArray) (h0 : 0 < s.size) (hs : s.size ≤ 1000000) (w : World) (hg : Gl w) : Calls Tryd.prog 55 #[.string s] w (FullPost (fullF s) w) := by
  have e : (byt s 0).toNat = (s[0]'h0).toNat := by rw [← byt_at h0]; simp
  unfold fullF
  rw [e]
  rcases Lib.firstT_cases (s[0]'h0).toNat with h | h | h | h | h | h | h | h | h
  · rw [h]; exact full_240 s h0 hs w hg h
  · rw [h]; exact full_241 s h0 hs w hg h
  · rw [h]; exact full_2 s h0 hs w hg h
  · rw [h]; exact full_19 s h0 hs w hg h
  · rw [h]; exact full_3 s h0 hs w hg h
  · rw [h]; exact full_35 s h0 hs w hg h
  · rw [h]; exact full_52 s h0 hs w hg h
  · rw [h]; exact full_4 s h0 hs w hg h
  · rw [h]; exact full_68 s h0 hs w hg h
end Go.Proofs.YtampklajoikbiaaDoor
