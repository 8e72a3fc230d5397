-- PRINTED BY print.sh 35421559b90ae4d0a3588c463048766b98c2df88dd9212a6774a882060cdf62d: not written by this session
import Derived.Test.YtampklajoikbiaaDoorPKeysReadx0
import Derived.Test.YtampklajoikbiaaDoorPKeysReadx2
namespace Go.Proofs.YtampklajoikbiaaDoor.PKeysRead
open Go.RowKit Go.Proofs.YtampklajoikbiaaDoorW.PrintWords Go.Proofs.YtampklajoikbiaaDoorW.PrintLast Go.Proofs.YtampklajoikbiaaDoorW.PrintMore
attribute [local go_sem] max2_int min2_int max_two min_two max_three min_three max_four min_four   -- for this text's walks alone
set_option linter.unusedVariables false
set_option linter.unusedSimpArgs false

/-! ### keys_Check: function 10 -/
mutual
def keys_Check.j0 : Nat → Bool → Int → Int → Int → Int → Option (Bool)
  | 0, _, _, _, _, _ => none
  | k + 1, x28, x114000, x114001, x114002, x114003 => if x28 = true then (some false) else (if x114000 = 1 then (if (Go.bits .and .i64 x114003 4) = 0 then (if (Go.bits .and .i64 x114003 1) = 0 then ((text_Width.f k x114001).bind fun t114 => (if t114 > 0 then ((utf8_ValidRune.f k x114001).bind fun t115 => (if t115 = true then (if x114003 = 0 then (some true) else (if x114001 = 91 then (some false) else (some (x114001 != 79)))) else (some false))) else (some false))) else (some false)) else (if (Go.bits .and .i64 x114003 1) = 0 then (if x114001 ≥ 97 then (if x114001 ≤ 122 then (if x114001 = 105 then (some false) else (if x114001 = 109 then (some false) else (some (x114001 != 104)))) else (some false)) else (some false)) else (some false))) else (if x114000 = 2 then (keys_Check.j1 k x114000 (x114000 == 2) x114000 x114001 x114002 x114003) else (keys_Check.j1 k x114000 (x114000 == 4) x114000 x114001 x114002 x114003)))
def keys_Check.j1 : Nat → Int → Bool → Int → Int → Int → Int → Option (Bool)
  | 0, _, _, _, _, _, _ => none
  | k + 1, x30, x96, x114000, x114001, x114002, x114003 => if x96 = true then (some ((Go.bits .andNot .i64 x114003 2) == 0)) else (if x30 = 3 then (if x114003 = 0 then (some true) else (some (x114003 == 1))) else (if x30 = 5 then (some (x114003 == 0)) else (if x30 = 15 then (if x114002 ≥ 1 then (some (decide (x114002 ≤ 12))) else (some false)) else (if x114000 ≥ 6 then (some (decide (x114000 ≤ 14))) else (some false)))))
end
def keys_Check.f (k : Nat) (a0_0 : Int) (a0_1 : Int) (a0_2 : Int) (a0_3 : Int) : Option (Bool) := if a0_3 < 0 then (keys_Check.j0 k true a0_0 a0_1 a0_2 a0_3) else (if a0_3 > 7 then (keys_Check.j0 k true a0_0 a0_1 a0_2 a0_3) else (if ((a0_0 != 1) != (a0_1 == 0)) = true then (keys_Check.j0 k true a0_0 a0_1 a0_2 a0_3) else (keys_Check.j0 k ((a0_0 != 15) != (a0_2 == 0)) a0_0 a0_1 a0_2 a0_3)))
theorem keys_Check.mono_l : ∀ k, (∀ y0 y1 y2 y3 y4, LeO (keys_Check.j0 k y0 y1 y2 y3 y4) (keys_Check.j0 (k + 1) y0 y1 y2 y3 y4)) ∧ (∀ y0 y1 y2 y3 y4 y5, LeO (keys_Check.j1 k y0 y1 y2 y3 y4 y5) (keys_Check.j1 (k + 1) y0 y1 y2 y3 y4 y5))
  | 0 => ⟨fun _ _ _ _ _ r h => by simp [keys_Check.j0] at h, fun _ _ _ _ _ _ r h => by simp [keys_Check.j1] at h⟩
  | k + 1 => by
    obtain ⟨ih0, ih1⟩ := keys_Check.mono_l k
    refine ⟨?_, ?_⟩
    · intro y0 y1 y2 y3 y4
      unfold keys_Check.j0
      repeat' first
      | (with_reducible exact ih0 _ _ _ _ _)
      | (with_reducible exact ih1 _ _ _ _ _ _)
      | (with_reducible exact text_Width.mono _ _)
      | (with_reducible exact utf8_ValidRune.mono _ _)
      | (with_reducible exact LeO.refl _)
      | (with_reducible exact LeO.none _)
      | (with_reducible refine LeO.ite ?_ ?_)
      | (with_reducible refine LeO.bind ?_ (fun _ => ?_))
      | exact ih0 _ _ _ _ _
      | exact ih1 _ _ _ _ _ _
      | exact text_Width.mono _ _
      | exact utf8_ValidRune.mono _ _
      | exact LeO.none _
      | refine LeO.ite ?_ ?_
      | refine LeO.bind ?_ (fun _ => ?_)
    · intro y0 y1 y2 y3 y4 y5
      unfold keys_Check.j1
      repeat' first
      | (with_reducible exact ih0 _ _ _ _ _)
      | (with_reducible exact ih1 _ _ _ _ _ _)
      | (with_reducible exact text_Width.mono _ _)
      | (with_reducible exact utf8_ValidRune.mono _ _)
      | (with_reducible exact LeO.refl _)
      | (with_reducible exact LeO.none _)
      | (with_reducible refine LeO.ite ?_ ?_)
      | (with_reducible refine LeO.bind ?_ (fun _ => ?_))
      | exact ih0 _ _ _ _ _
      | exact ih1 _ _ _ _ _ _
      | exact text_Width.mono _ _
      | exact utf8_ValidRune.mono _ _
      | exact LeO.none _
      | refine LeO.ite ?_ ?_
      | refine LeO.bind ?_ (fun _ => ?_)
theorem keys_Check.mono : ∀ a0 a1 a2 a3 k, LeO (keys_Check.f k a0 a1 a2 a3) (keys_Check.f (k + 1) a0 a1 a2 a3) := by
  intro a0 a1 a2 a3 k
  obtain ⟨ih0, ih1⟩ := keys_Check.mono_l k
  unfold keys_Check.f
  repeat' first
      | (with_reducible exact ih0 _ _ _ _ _)
      | (with_reducible exact ih1 _ _ _ _ _ _)
      | (with_reducible exact text_Width.mono _ _)
      | (with_reducible exact utf8_ValidRune.mono _ _)
      | (with_reducible exact LeO.refl _)
      | (with_reducible exact LeO.none _)
      | (with_reducible refine LeO.ite ?_ ?_)
      | (with_reducible refine LeO.bind ?_ (fun _ => ?_))
      | exact ih0 _ _ _ _ _
      | exact ih1 _ _ _ _ _ _
      | exact text_Width.mono _ _
      | exact utf8_ValidRune.mono _ _
      | exact LeO.none _
      | refine LeO.ite ?_ ?_
      | refine LeO.bind ?_ (fun _ => ?_)
set_option maxHeartbeats 8000000 in
set_option maxRecDepth 100000 in
theorem keys_Check.calls (k : Nat) (a0_0 : Int) (a0_1 : Int) (a0_2 : Int) (a0_3 : Int) (r : Bool) (w : World) (h : keys_Check.f k a0_0 a0_1 a0_2 a0_3 = some r) :
    Calls Tryd.prog 10 #[.agg #[.int .i64 a0_0, .int .i32 a0_1, .int .i64 a0_2, .int .i64 a0_3]] w fun e w' => e = .returned (.bool r) ∧ Below w.heap.size w w' := by
  have hu23 := Tryd.underlying23
  have HB := Aside0.mk (Below.refl w.heap.size w)
  have H : (if a0_3 < 0 then (keys_Check.j0 k true a0_0 a0_1 a0_2 a0_3) else (if a0_3 > 7 then (keys_Check.j0 k true a0_0 a0_1 a0_2 a0_3) else (if ((a0_0 != 1) != (a0_1 == 0)) = true then (keys_Check.j0 k true a0_0 a0_1 a0_2 a0_3) else (keys_Check.j0 k ((a0_0 != 15) != (a0_2 == 0)) a0_0 a0_1 a0_2 a0_3)))) = some r := h
  clear h
  have HC2 := Aside0.mk H
  clear H
  go_enter Tryd.func10, Tryd.ntmps10
  go_upto_region 1 with (first | ((with_reducible refine gate_dst (N := 1) rfl ?_); refine box_event ?hg (N := 1) ?hd (cs := #[.int .i64 a0_0, .int .i32 a0_1, .int .i64 a0_2, .int .i64 a0_3]) (t := 23) ?hr ?_; (case hd => rfl); (case hg => rfl); (case hr => first | (go_simp; done) | (go_simp; rfl)); intro gb113 hg w3 hbox hb; have n0_ := Aside0.mk (below_step (by repeat (first | (with_reducible first | exact HB.out | apply below_alloc | apply pw_below_drewN | apply below_drew1) | exact HB.out)) hb); have n1_ := Aside0.mk (hbox); have n2_ := Aside0.mk ((by rw [hg]; exact (below_size (by repeat (first | (with_reducible first | exact HB.out | apply below_alloc | apply pw_below_drewN | apply below_drew1) | exact HB.out))) : w.heap.size ≤ gb113)); have n3_ := Aside0.mk ((by rw [hg]; exact (below_size (by repeat (first | (with_reducible first | exact HB.out | apply below_alloc | apply pw_below_drewN | apply below_drew1) | exact HB.out))) : w.heap.size ≤ gb113)); clear HB; have HB := n0_; have BK113 := n1_; have GW113 := n2_; have GE113 := n3_; clear n0_ n1_ n2_ n3_; clear hb hbox hg))
  (try simp only [Act.put, List.setIfInBounds_toArray, List.set_cons_zero, List.set_cons_succ])
  go_cut [28] (fun v28 wc => ∃ (kq : Nat) (x28_1 : Bool), v28 = .bool x28_1 ∧ Aside0 (keys_Check.j0 kq x28_1 a0_0 a0_1 a0_2 a0_3 = some r) ∧ Aside0 (kq ≤ k) ∧ Aside0 (wc.heap[gb113]? = some (.cells #[.int .i64 a0_0, .int .i32 a0_1, .int .i64 a0_2, .int .i64 a0_3] 23 (0, 0))) ∧ Aside0 (Below w.heap.size w wc))
  case first =>
    have H := HC2.out
    clear HC2
    by_cases c4 : a0_3 < 0
    · rw [if_pos c4] at H
      have c4b0 : decide (a0_3 < 0) = true := decide_eq_true c4
      clear c4
      (first | rw [c4b0] | (simp only [i64_w, i32_w]; rw [c4b0]) | skip)
      have H' := Aside0.mk H
      clear H
      have hcz5_0 : w3.cell? ⟨gb113, 0, none⟩ = some (.int .i64 a0_0) := (blk_cell BK113.out 0).trans rfl
      have hcz5_1 : w3.cell? ⟨gb113, 1, none⟩ = some (.int .i32 a0_1) := (blk_cell BK113.out 1).trans rfl
      have hcz5_2 : w3.cell? ⟨gb113, 2, none⟩ = some (.int .i64 a0_2) := (blk_cell BK113.out 2).trans rfl
      have hcz5_3 : w3.cell? ⟨gb113, 3, none⟩ = some (.int .i64 a0_3) := (blk_cell BK113.out 3).trans rfl
      have hfz5_0 := blk_frozen BK113.out 0
      have hfz5_1 := blk_frozen BK113.out 1
      have hfz5_2 := blk_frozen BK113.out 2
      have hfz5_3 := blk_frozen BK113.out 3
      go_wp2
      go_meet
      case rel => exact ⟨_, (true), (by first | rfl | (simp; done) | (simp [*]; done)), H', ⟨by first | omega | exact Nat.le_refl _⟩, ⟨by (with_reducible repeat (first | refine blk_drewN ?_ _ | refine blk_drew ?_ | refine blk_alloc ?_ _)); exact BK113.out⟩, ⟨by repeat (first | (with_reducible first | exact HB.out | apply below_alloc | apply pw_below_drewN | apply below_drew1 | refine below_set ?_ GE113.out) | exact HB.out)⟩⟩
    · rw [if_neg c4] at H
      have c4b0 : decide (a0_3 < 0) = false := decide_eq_false c4
      clear c4
      (first | rw [c4b0] | (simp only [i64_w, i32_w]; rw [c4b0]) | skip)
      by_cases c6 : a0_3 > 7
      · rw [if_pos c6] at H
        have c6b0 : decide (7 < a0_3) = true := decide_eq_true c6
        clear c6
        have H' := Aside0.mk H
        clear H
        have hcz7_0 : w3.cell? ⟨gb113, 0, none⟩ = some (.int .i64 a0_0) := (blk_cell BK113.out 0).trans rfl
        have hcz7_1 : w3.cell? ⟨gb113, 1, none⟩ = some (.int .i32 a0_1) := (blk_cell BK113.out 1).trans rfl
        have hcz7_2 : w3.cell? ⟨gb113, 2, none⟩ = some (.int .i64 a0_2) := (blk_cell BK113.out 2).trans rfl
        have hcz7_3 : w3.cell? ⟨gb113, 3, none⟩ = some (.int .i64 a0_3) := (blk_cell BK113.out 3).trans rfl
        have hfz7_0 := blk_frozen BK113.out 0
        have hfz7_1 := blk_frozen BK113.out 1
        have hfz7_2 := blk_frozen BK113.out 2
        have hfz7_3 := blk_frozen BK113.out 3
        go_wp2
        go_meet
        case rel => exact ⟨_, (true), (by first | rfl | (simp; done) | (simp [*]; done)), H', ⟨by first | omega | exact Nat.le_refl _⟩, ⟨by (with_reducible repeat (first | refine blk_drewN ?_ _ | refine blk_drew ?_ | refine blk_alloc ?_ _)); exact BK113.out⟩, ⟨by repeat (first | (with_reducible first | exact HB.out | apply below_alloc | apply pw_below_drewN | apply below_drew1 | refine below_set ?_ GE113.out) | exact HB.out)⟩⟩
      · rw [if_neg c6] at H
        have c6b0 : decide (7 < a0_3) = false := decide_eq_false c6
        clear c6
        by_cases c8 : ((a0_0 != 1) != (a0_1 == 0)) = true
        · rw [if_pos c8] at H
          have c8b0 : ((a0_0 != 1) != (a0_1 == 0)) = true := c8
          (try (have c8b1 : decide ((a0_0 != 1) = (a0_1 == 0)) = false := by simpa using c8))
          (try (have c8b2 : ((a0_0 != 1) == (a0_1 == 0)) = false := by simpa using c8))
          (try (have c8b3 : ¬ ((a0_0 != 1) = (a0_1 == 0)) := by simpa using c8))
          clear c8
          have H' := Aside0.mk H
          clear H
          have hcz9_0 : w3.cell? ⟨gb113, 0, none⟩ = some (.int .i64 a0_0) := (blk_cell BK113.out 0).trans rfl
          have hcz9_1 : w3.cell? ⟨gb113, 1, none⟩ = some (.int .i32 a0_1) := (blk_cell BK113.out 1).trans rfl
          have hcz9_2 : w3.cell? ⟨gb113, 2, none⟩ = some (.int .i64 a0_2) := (blk_cell BK113.out 2).trans rfl
          have hcz9_3 : w3.cell? ⟨gb113, 3, none⟩ = some (.int .i64 a0_3) := (blk_cell BK113.out 3).trans rfl
          have hfz9_0 := blk_frozen BK113.out 0
          have hfz9_1 := blk_frozen BK113.out 1
          have hfz9_2 := blk_frozen BK113.out 2
          have hfz9_3 := blk_frozen BK113.out 3
          go_wp2
          go_meet
          case rel => exact ⟨_, (true), (by first | rfl | (simp; done) | (simp [*]; done)), H', ⟨by first | omega | exact Nat.le_refl _⟩, ⟨by (with_reducible repeat (first | refine blk_drewN ?_ _ | refine blk_drew ?_ | refine blk_alloc ?_ _)); exact BK113.out⟩, ⟨by repeat (first | (with_reducible first | exact HB.out | apply below_alloc | apply pw_below_drewN | apply below_drew1 | refine below_set ?_ GE113.out) | exact HB.out)⟩⟩
        · rw [if_neg c8] at H
          have c8b0 : ((a0_0 != 1) != (a0_1 == 0)) = false := by simpa using c8
          (try (have c8b1 : decide ((a0_0 != 1) = (a0_1 == 0)) = true := by simpa using c8))
          (try (have c8b2 : ((a0_0 != 1) == (a0_1 == 0)) = true := by simpa using c8))
          clear c8
          have H' := Aside0.mk H
          clear H
          have hcz10_0 : w3.cell? ⟨gb113, 0, none⟩ = some (.int .i64 a0_0) := (blk_cell BK113.out 0).trans rfl
          have hcz10_1 : w3.cell? ⟨gb113, 1, none⟩ = some (.int .i32 a0_1) := (blk_cell BK113.out 1).trans rfl
          have hcz10_2 : w3.cell? ⟨gb113, 2, none⟩ = some (.int .i64 a0_2) := (blk_cell BK113.out 2).trans rfl
          have hcz10_3 : w3.cell? ⟨gb113, 3, none⟩ = some (.int .i64 a0_3) := (blk_cell BK113.out 3).trans rfl
          have hfz10_0 := blk_frozen BK113.out 0
          have hfz10_1 := blk_frozen BK113.out 1
          have hfz10_2 := blk_frozen BK113.out 2
          have hfz10_3 := blk_frozen BK113.out 3
          go_wp2
          go_meet
          case rel => exact ⟨_, (((a0_0 != 15) != (a0_2 == 0))), (by first | rfl | (simp; done) | (simp [*]; done)), H', ⟨by first | omega | exact Nat.le_refl _⟩, ⟨by (with_reducible repeat (first | refine blk_drewN ?_ _ | refine blk_drew ?_ | refine blk_alloc ?_ _)); exact BK113.out⟩, ⟨by repeat (first | (with_reducible first | exact HB.out | apply below_alloc | apply pw_below_drewN | apply below_drew1 | refine below_set ?_ GE113.out) | exact HB.out)⟩⟩
  case rest =>
    clear HC2
    try clear c1
    try clear p2
    try clear c4
    try clear c4b0
    try clear c6
    try clear c6b0
    try clear c8
    try clear c8b0
    try clear c8b1
    try clear c8b2
    try clear c10
    try clear hcz10_0
    try clear hcz10_1
    try clear hcz10_2
    try clear hcz10_3
    try clear hcz5_0
    try clear hcz5_1
    try clear hcz5_2
    try clear hcz5_3
    try clear hcz7_0
    try clear hcz7_1
    try clear hcz7_2
    try clear hcz7_3
    try clear hcz9_0
    try clear hcz9_1
    try clear hcz9_2
    try clear hcz9_3
    try clear hfz10_0
    try clear hfz10_1
    try clear hfz10_2
    try clear hfz10_3
    try clear hfz5_0
    try clear hfz5_1
    try clear hfz5_2
    try clear hfz5_3
    try clear hfz7_0
    try clear hfz7_1
    try clear hfz7_2
    try clear hfz7_3
    try clear hfz9_0
    try clear hfz9_1
    try clear hfz9_2
    try clear hfz9_3
    obtain ⟨kq, x28_1, rfl, HA, HJ1, BK113, HB⟩ := hcut
    cases kq with
    | zero => exact absurd HA.out (by simp [keys_Check.j0])
    | succ kj1 =>
      have H := HA.out
      clear HA
      simp only [keys_Check.j0] at H
      by_cases c11 : x28_1 = true
      · subst c11
        have H1 : (some false) = some r := by rw [if_pos rfl] at H; exact H
        clear H
        have H := H1
        clear H1
        obtain rfl := Option.some.inj H
        go_wp2
        go_ret
        exact ⟨by first | rfl | (simp [errW_none, errW_some] <;> rfl) | (simp [*, errW_none, errW_some] <;> rfl), by repeat (first | (with_reducible first | exact HB.out | apply below_alloc | apply pw_below_drewN | apply below_drew1 | refine below_set ?_ GE113.out) | exact HB.out)⟩
      · replace c11 := Bool.eq_false_iff.mpr c11
        subst c11
        have H1 : (if a0_0 = 1 then (if (Go.bits .and .i64 a0_3 4) = 0 then (if (Go.bits .and .i64 a0_3 1) = 0 then ((text_Width.f kj1 a0_1).bind fun t114 => (if t114 > 0 then ((utf8_ValidRune.f kj1 a0_1).bind fun t115 => (if t115 = true then (if a0_3 = 0 then (some true) else (if a0_1 = 91 then (some false) else (some (a0_1 != 79)))) else (some false))) else (some false))) else (some false)) else (if (Go.bits .and .i64 a0_3 1) = 0 then (if a0_1 ≥ 97 then (if a0_1 ≤ 122 then (if a0_1 = 105 then (some false) else (if a0_1 = 109 then (some false) else (some (a0_1 != 104)))) else (some false)) else (some false)) else (some false))) else (if a0_0 = 2 then (keys_Check.j1 kj1 a0_0 (a0_0 == 2) a0_0 a0_1 a0_2 a0_3) else (keys_Check.j1 kj1 a0_0 (a0_0 == 4) a0_0 a0_1 a0_2 a0_3))) = some r := by rw [if_neg (show ¬ (false = true) by decide)] at H; exact H
        clear H
        have H := H1
        clear H1
        by_cases c12 : a0_0 = 1
        · rw [if_pos c12] at H
          have c12b0 : (a0_0 == 1) = true := beq_iff_eq.mpr c12
          have c12b1 : (a0_0 != 1) = false := bne_eq_false_iff_eq.mpr c12
          clear c12
          by_cases c13 : (Go.bits .and .i64 a0_3 4) = 0
          · rw [if_pos c13] at H
            have c13b0 : ((Go.bits .and .i64 a0_3 4) == 0) = true := beq_iff_eq.mpr c13
            have c13b1 : ((Go.bits .and .i64 a0_3 4) != 0) = false := bne_eq_false_iff_eq.mpr c13
            clear c13
            by_cases c14 : (Go.bits .and .i64 a0_3 1) = 0
            · rw [if_pos c14] at H
              have c14b0 : ((Go.bits .and .i64 a0_3 1) == 0) = true := beq_iff_eq.mpr c14
              have c14b1 : ((Go.bits .and .i64 a0_3 1) != 0) = false := bne_eq_false_iff_eq.mpr c14
              clear c14
              replace H := Option.bind_eq_some_iff.mp H
              obtain ⟨t114, A150, H⟩ := H
              replace H : (if t114 > 0 then ((utf8_ValidRune.f kj1 a0_1).bind fun t115 => (if t115 = true then (if a0_3 = 0 then (some true) else (if a0_1 = 91 then (some false) else (some (a0_1 != 79)))) else (some false))) else (some false)) = some r := H
              have A15 := Aside0.mk A150
              clear A150
              by_cases c16 : t114 > 0
              · rw [if_pos c16] at H
                have c16b0 : decide (0 < t114) = true := decide_eq_true c16
                clear c16
                replace H := Option.bind_eq_some_iff.mp H
                obtain ⟨t115, A170, H⟩ := H
                replace H : (if t115 = true then (if a0_3 = 0 then (some true) else (if a0_1 = 91 then (some false) else (some (a0_1 != 79)))) else (some false)) = some r := H
                have A17 := Aside0.mk A170
                clear A170
                by_cases c18 : t115 = true
                · subst c18
                  have H1 : (if a0_3 = 0 then (some true) else (if a0_1 = 91 then (some false) else (some (a0_1 != 79)))) = some r := by rw [if_pos rfl] at H; exact H
                  clear H
                  have H := H1
                  clear H1
                  by_cases c19 : a0_3 = 0
                  · rw [if_pos c19] at H
                    have c19b0 : (a0_3 == 0) = true := beq_iff_eq.mpr c19
                    have c19b1 : (a0_3 != 0) = false := bne_eq_false_iff_eq.mpr c19
                    clear c19
                    obtain rfl := Option.some.inj H
                    have hcz20_0 : wc.cell? ⟨gb113, 0, none⟩ = some (.int .i64 a0_0) := (blk_cell BK113.out 0).trans rfl
                    have hcz20_1 : wc.cell? ⟨gb113, 1, none⟩ = some (.int .i32 a0_1) := (blk_cell BK113.out 1).trans rfl
                    have hcz20_2 : wc.cell? ⟨gb113, 2, none⟩ = some (.int .i64 a0_2) := (blk_cell BK113.out 2).trans rfl
                    have hcz20_3 : wc.cell? ⟨gb113, 3, none⟩ = some (.int .i64 a0_3) := (blk_cell BK113.out 3).trans rfl
                    have hfz20_0 := blk_frozen BK113.out 0
                    have hfz20_1 := blk_frozen BK113.out 1
                    have hfz20_2 := blk_frozen BK113.out 2
                    have hfz20_3 := blk_frozen BK113.out 3
                    go_wp2_with (first | (go_at_call 36; (with_reducible refine (text_Width.calls kj1 a0_1 t114 _ A15.out).mono ?_); rintro e w21 ⟨rfl, hb⟩; have n0_ := Aside0.mk (blk_below (g := gb113) (o := .cells #[.int .i64 a0_0, .int .i32 a0_1, .int .i64 a0_2, .int .i64 a0_3] 23 (0, 0)) (by (with_reducible repeat (first | refine blk_drewN ?_ _ | refine blk_drew ?_ | refine blk_alloc ?_ _)); exact BK113.out) hb); have n1_ := Aside0.mk (below_step (by repeat (first | (with_reducible first | exact HB.out | apply below_alloc | apply pw_below_drewN | apply below_drew1 | refine below_set ?_ GE113.out) | exact HB.out)) hb); clear BK113; clear HB; have BK113 := n0_; have HB := n1_; clear n0_ n1_; (try clear hb); (try clear hb2); (try clear hk); (try clear hi); have hcz22_0 : w21.cell? ⟨gb113, 0, none⟩ = some (.int .i64 a0_0) := (blk_cell BK113.out 0).trans rfl; have hcz22_1 : w21.cell? ⟨gb113, 1, none⟩ = some (.int .i32 a0_1) := (blk_cell BK113.out 1).trans rfl; have hcz22_2 : w21.cell? ⟨gb113, 2, none⟩ = some (.int .i64 a0_2) := (blk_cell BK113.out 2).trans rfl; have hcz22_3 : w21.cell? ⟨gb113, 3, none⟩ = some (.int .i64 a0_3) := (blk_cell BK113.out 3).trans rfl; have hfz22_0 := blk_frozen BK113.out 0; have hfz22_1 := blk_frozen BK113.out 1; have hfz22_2 := blk_frozen BK113.out 2; have hfz22_3 := blk_frozen BK113.out 3) | (go_at_call 34; (with_reducible refine (utf8_ValidRune.calls kj1 a0_1 true _ A17.out).mono ?_); rintro e w' ⟨rfl, ⟨nd, rfl⟩⟩))
                    go_ret
                    exact ⟨by first | rfl | (simp [errW_none, errW_some] <;> rfl) | (simp [*, errW_none, errW_some] <;> rfl), by repeat (first | (with_reducible first | exact HB.out | apply below_alloc | apply pw_below_drewN | apply below_drew1 | refine below_set ?_ GE113.out) | exact HB.out)⟩
                  · rw [if_neg c19] at H
                    have c19b0 : (a0_3 == 0) = false := beq_eq_false_iff_ne.mpr c19
                    have c19b1 : (a0_3 != 0) = true := bne_iff_ne.mpr c19
                    by_cases c23 : a0_1 = 91
                    · rw [if_pos c23] at H
                      have c23b0 : (a0_1 == 91) = true := beq_iff_eq.mpr c23
                      have c23b1 : (a0_1 != 91) = false := bne_eq_false_iff_eq.mpr c23
                      clear c23
                      obtain rfl := Option.some.inj H
                      have hcz24_0 : wc.cell? ⟨gb113, 0, none⟩ = some (.int .i64 a0_0) := (blk_cell BK113.out 0).trans rfl
                      have hcz24_1 : wc.cell? ⟨gb113, 1, none⟩ = some (.int .i32 a0_1) := (blk_cell BK113.out 1).trans rfl
                      have hcz24_2 : wc.cell? ⟨gb113, 2, none⟩ = some (.int .i64 a0_2) := (blk_cell BK113.out 2).trans rfl
                      have hcz24_3 : wc.cell? ⟨gb113, 3, none⟩ = some (.int .i64 a0_3) := (blk_cell BK113.out 3).trans rfl
                      have hfz24_0 := blk_frozen BK113.out 0
                      have hfz24_1 := blk_frozen BK113.out 1
                      have hfz24_2 := blk_frozen BK113.out 2
                      have hfz24_3 := blk_frozen BK113.out 3
                      go_wp2_with (first | (go_at_call 36; (with_reducible refine (text_Width.calls kj1 a0_1 t114 _ A15.out).mono ?_); rintro e w25 ⟨rfl, hb⟩; have n0_ := Aside0.mk (blk_below (g := gb113) (o := .cells #[.int .i64 a0_0, .int .i32 a0_1, .int .i64 a0_2, .int .i64 a0_3] 23 (0, 0)) (by (with_reducible repeat (first | refine blk_drewN ?_ _ | refine blk_drew ?_ | refine blk_alloc ?_ _)); exact BK113.out) hb); have n1_ := Aside0.mk (below_step (by repeat (first | (with_reducible first | exact HB.out | apply below_alloc | apply pw_below_drewN | apply below_drew1 | refine below_set ?_ GE113.out) | exact HB.out)) hb); clear BK113; clear HB; have BK113 := n0_; have HB := n1_; clear n0_ n1_; (try clear hb); (try clear hb2); (try clear hk); (try clear hi); have hcz26_0 : w25.cell? ⟨gb113, 0, none⟩ = some (.int .i64 a0_0) := (blk_cell BK113.out 0).trans rfl; have hcz26_1 : w25.cell? ⟨gb113, 1, none⟩ = some (.int .i32 a0_1) := (blk_cell BK113.out 1).trans rfl; have hcz26_2 : w25.cell? ⟨gb113, 2, none⟩ = some (.int .i64 a0_2) := (blk_cell BK113.out 2).trans rfl; have hcz26_3 : w25.cell? ⟨gb113, 3, none⟩ = some (.int .i64 a0_3) := (blk_cell BK113.out 3).trans rfl; have hfz26_0 := blk_frozen BK113.out 0; have hfz26_1 := blk_frozen BK113.out 1; have hfz26_2 := blk_frozen BK113.out 2; have hfz26_3 := blk_frozen BK113.out 3) | (go_at_call 34; (with_reducible refine (utf8_ValidRune.calls kj1 a0_1 true _ A17.out).mono ?_); rintro e w' ⟨rfl, ⟨nd, rfl⟩⟩))
                      go_ret
                      exact ⟨by first | rfl | (simp [errW_none, errW_some] <;> rfl) | (simp [*, errW_none, errW_some] <;> rfl), by repeat (first | (with_reducible first | exact HB.out | apply below_alloc | apply pw_below_drewN | apply below_drew1 | refine below_set ?_ GE113.out) | exact HB.out)⟩
                    · rw [if_neg c23] at H
                      have c23b0 : (a0_1 == 91) = false := beq_eq_false_iff_ne.mpr c23
                      have c23b1 : (a0_1 != 91) = true := bne_iff_ne.mpr c23
                      obtain rfl := Option.some.inj H
                      have hcz27_0 : wc.cell? ⟨gb113, 0, none⟩ = some (.int .i64 a0_0) := (blk_cell BK113.out 0).trans rfl
                      have hcz27_1 : wc.cell? ⟨gb113, 1, none⟩ = some (.int .i32 a0_1) := (blk_cell BK113.out 1).trans rfl
                      have hcz27_2 : wc.cell? ⟨gb113, 2, none⟩ = some (.int .i64 a0_2) := (blk_cell BK113.out 2).trans rfl
                      have hcz27_3 : wc.cell? ⟨gb113, 3, none⟩ = some (.int .i64 a0_3) := (blk_cell BK113.out 3).trans rfl
                      have hfz27_0 := blk_frozen BK113.out 0
                      have hfz27_1 := blk_frozen BK113.out 1
                      have hfz27_2 := blk_frozen BK113.out 2
                      have hfz27_3 := blk_frozen BK113.out 3
                      go_wp2_with (first | (go_at_call 36; (with_reducible refine (text_Width.calls kj1 a0_1 t114 _ A15.out).mono ?_); rintro e w28 ⟨rfl, hb⟩; have n0_ := Aside0.mk (blk_below (g := gb113) (o := .cells #[.int .i64 a0_0, .int .i32 a0_1, .int .i64 a0_2, .int .i64 a0_3] 23 (0, 0)) (by (with_reducible repeat (first | refine blk_drewN ?_ _ | refine blk_drew ?_ | refine blk_alloc ?_ _)); exact BK113.out) hb); have n1_ := Aside0.mk (below_step (by repeat (first | (with_reducible first | exact HB.out | apply below_alloc | apply pw_below_drewN | apply below_drew1 | refine below_set ?_ GE113.out) | exact HB.out)) hb); clear BK113; clear HB; have BK113 := n0_; have HB := n1_; clear n0_ n1_; (try clear hb); (try clear hb2); (try clear hk); (try clear hi); have hcz29_0 : w28.cell? ⟨gb113, 0, none⟩ = some (.int .i64 a0_0) := (blk_cell BK113.out 0).trans rfl; have hcz29_1 : w28.cell? ⟨gb113, 1, none⟩ = some (.int .i32 a0_1) := (blk_cell BK113.out 1).trans rfl; have hcz29_2 : w28.cell? ⟨gb113, 2, none⟩ = some (.int .i64 a0_2) := (blk_cell BK113.out 2).trans rfl; have hcz29_3 : w28.cell? ⟨gb113, 3, none⟩ = some (.int .i64 a0_3) := (blk_cell BK113.out 3).trans rfl; have hfz29_0 := blk_frozen BK113.out 0; have hfz29_1 := blk_frozen BK113.out 1; have hfz29_2 := blk_frozen BK113.out 2; have hfz29_3 := blk_frozen BK113.out 3) | (go_at_call 34; (with_reducible refine (utf8_ValidRune.calls kj1 a0_1 true _ A17.out).mono ?_); rintro e w' ⟨rfl, ⟨nd, rfl⟩⟩))
                      go_ret
                      exact ⟨by first | rfl | (simp [errW_none, errW_some] <;> rfl) | (simp [*, errW_none, errW_some] <;> rfl), by repeat (first | (with_reducible first | exact HB.out | apply below_alloc | apply pw_below_drewN | apply below_drew1 | refine below_set ?_ GE113.out) | exact HB.out)⟩
                · replace c18 := Bool.eq_false_iff.mpr c18
                  subst c18
                  have H1 : (some false) = some r := by rw [if_neg (show ¬ (false = true) by decide)] at H; exact H
                  clear H
                  have H := H1
                  clear H1
                  obtain rfl := Option.some.inj H
                  have hcz30_0 : wc.cell? ⟨gb113, 0, none⟩ = some (.int .i64 a0_0) := (blk_cell BK113.out 0).trans rfl
                  have hcz30_1 : wc.cell? ⟨gb113, 1, none⟩ = some (.int .i32 a0_1) := (blk_cell BK113.out 1).trans rfl
                  have hcz30_2 : wc.cell? ⟨gb113, 2, none⟩ = some (.int .i64 a0_2) := (blk_cell BK113.out 2).trans rfl
                  have hcz30_3 : wc.cell? ⟨gb113, 3, none⟩ = some (.int .i64 a0_3) := (blk_cell BK113.out 3).trans rfl
                  have hfz30_0 := blk_frozen BK113.out 0
                  have hfz30_1 := blk_frozen BK113.out 1
                  have hfz30_2 := blk_frozen BK113.out 2
                  have hfz30_3 := blk_frozen BK113.out 3
                  go_wp2_with (first | (go_at_call 36; (with_reducible refine (text_Width.calls kj1 a0_1 t114 _ A15.out).mono ?_); rintro e w31 ⟨rfl, hb⟩; have n0_ := Aside0.mk (blk_below (g := gb113) (o := .cells #[.int .i64 a0_0, .int .i32 a0_1, .int .i64 a0_2, .int .i64 a0_3] 23 (0, 0)) (by (with_reducible repeat (first | refine blk_drewN ?_ _ | refine blk_drew ?_ | refine blk_alloc ?_ _)); exact BK113.out) hb); have n1_ := Aside0.mk (below_step (by repeat (first | (with_reducible first | exact HB.out | apply below_alloc | apply pw_below_drewN | apply below_drew1 | refine below_set ?_ GE113.out) | exact HB.out)) hb); clear BK113; clear HB; have BK113 := n0_; have HB := n1_; clear n0_ n1_; (try clear hb); (try clear hb2); (try clear hk); (try clear hi); have hcz32_0 : w31.cell? ⟨gb113, 0, none⟩ = some (.int .i64 a0_0) := (blk_cell BK113.out 0).trans rfl; have hcz32_1 : w31.cell? ⟨gb113, 1, none⟩ = some (.int .i32 a0_1) := (blk_cell BK113.out 1).trans rfl; have hcz32_2 : w31.cell? ⟨gb113, 2, none⟩ = some (.int .i64 a0_2) := (blk_cell BK113.out 2).trans rfl; have hcz32_3 : w31.cell? ⟨gb113, 3, none⟩ = some (.int .i64 a0_3) := (blk_cell BK113.out 3).trans rfl; have hfz32_0 := blk_frozen BK113.out 0; have hfz32_1 := blk_frozen BK113.out 1; have hfz32_2 := blk_frozen BK113.out 2; have hfz32_3 := blk_frozen BK113.out 3) | (go_at_call 34; (with_reducible refine (utf8_ValidRune.calls kj1 a0_1 false _ A17.out).mono ?_); rintro e w' ⟨rfl, ⟨nd, rfl⟩⟩))
                  go_ret
                  exact ⟨by first | rfl | (simp [errW_none, errW_some] <;> rfl) | (simp [*, errW_none, errW_some] <;> rfl), by repeat (first | (with_reducible first | exact HB.out | apply below_alloc | apply pw_below_drewN | apply below_drew1 | refine below_set ?_ GE113.out) | exact HB.out)⟩
              · rw [if_neg c16] at H
                have c16b0 : decide (0 < t114) = false := decide_eq_false c16
                clear c16
                obtain rfl := Option.some.inj H
                have hcz33_0 : wc.cell? ⟨gb113, 0, none⟩ = some (.int .i64 a0_0) := (blk_cell BK113.out 0).trans rfl
                have hcz33_1 : wc.cell? ⟨gb113, 1, none⟩ = some (.int .i32 a0_1) := (blk_cell BK113.out 1).trans rfl
                have hcz33_2 : wc.cell? ⟨gb113, 2, none⟩ = some (.int .i64 a0_2) := (blk_cell BK113.out 2).trans rfl
                have hcz33_3 : wc.cell? ⟨gb113, 3, none⟩ = some (.int .i64 a0_3) := (blk_cell BK113.out 3).trans rfl
                have hfz33_0 := blk_frozen BK113.out 0
                have hfz33_1 := blk_frozen BK113.out 1
                have hfz33_2 := blk_frozen BK113.out 2
                have hfz33_3 := blk_frozen BK113.out 3
                go_wp2_with (first | (go_at_call 36; (with_reducible refine (text_Width.calls kj1 a0_1 t114 _ A15.out).mono ?_); rintro e w34 ⟨rfl, hb⟩; have n0_ := Aside0.mk (blk_below (g := gb113) (o := .cells #[.int .i64 a0_0, .int .i32 a0_1, .int .i64 a0_2, .int .i64 a0_3] 23 (0, 0)) (by (with_reducible repeat (first | refine blk_drewN ?_ _ | refine blk_drew ?_ | refine blk_alloc ?_ _)); exact BK113.out) hb); have n1_ := Aside0.mk (below_step (by repeat (first | (with_reducible first | exact HB.out | apply below_alloc | apply pw_below_drewN | apply below_drew1 | refine below_set ?_ GE113.out) | exact HB.out)) hb); clear BK113; clear HB; have BK113 := n0_; have HB := n1_; clear n0_ n1_; (try clear hb); (try clear hb2); (try clear hk); (try clear hi)))
                go_ret
                exact ⟨by first | rfl | (simp [errW_none, errW_some] <;> rfl) | (simp [*, errW_none, errW_some] <;> rfl), by repeat (first | (with_reducible first | exact HB.out | apply below_alloc | apply pw_below_drewN | apply below_drew1 | refine below_set ?_ GE113.out) | exact HB.out)⟩
            · rw [if_neg c14] at H
              have c14b0 : ((Go.bits .and .i64 a0_3 1) == 0) = false := beq_eq_false_iff_ne.mpr c14
              have c14b1 : ((Go.bits .and .i64 a0_3 1) != 0) = true := bne_iff_ne.mpr c14
              obtain rfl := Option.some.inj H
              have hcz35_0 : wc.cell? ⟨gb113, 0, none⟩ = some (.int .i64 a0_0) := (blk_cell BK113.out 0).trans rfl
              have hcz35_1 : wc.cell? ⟨gb113, 1, none⟩ = some (.int .i32 a0_1) := (blk_cell BK113.out 1).trans rfl
              have hcz35_2 : wc.cell? ⟨gb113, 2, none⟩ = some (.int .i64 a0_2) := (blk_cell BK113.out 2).trans rfl
              have hcz35_3 : wc.cell? ⟨gb113, 3, none⟩ = some (.int .i64 a0_3) := (blk_cell BK113.out 3).trans rfl
              have hfz35_0 := blk_frozen BK113.out 0
              have hfz35_1 := blk_frozen BK113.out 1
              have hfz35_2 := blk_frozen BK113.out 2
              have hfz35_3 := blk_frozen BK113.out 3
              go_wp2
              go_ret
              exact ⟨by first | rfl | (simp [errW_none, errW_some] <;> rfl) | (simp [*, errW_none, errW_some] <;> rfl), by repeat (first | (with_reducible first | exact HB.out | apply below_alloc | apply pw_below_drewN | apply below_drew1 | refine below_set ?_ GE113.out) | exact HB.out)⟩
          · rw [if_neg c13] at H
            have c13b0 : ((Go.bits .and .i64 a0_3 4) == 0) = false := beq_eq_false_iff_ne.mpr c13
            have c13b1 : ((Go.bits .and .i64 a0_3 4) != 0) = true := bne_iff_ne.mpr c13
            by_cases c36 : (Go.bits .and .i64 a0_3 1) = 0
            · rw [if_pos c36] at H
              have c36b0 : ((Go.bits .and .i64 a0_3 1) == 0) = true := beq_iff_eq.mpr c36
              have c36b1 : ((Go.bits .and .i64 a0_3 1) != 0) = false := bne_eq_false_iff_eq.mpr c36
              clear c36
              by_cases c37 : a0_1 ≥ 97
              · rw [if_pos c37] at H
                have c37b0 : decide (97 ≤ a0_1) = true := decide_eq_true c37
                clear c37
                by_cases c38 : a0_1 ≤ 122
                · rw [if_pos c38] at H
                  have c38b0 : decide (a0_1 ≤ 122) = true := decide_eq_true c38
                  clear c38
                  by_cases c39 : a0_1 = 105
                  · rw [if_pos c39] at H
                    have c39b0 : (a0_1 == 105) = true := beq_iff_eq.mpr c39
                    have c39b1 : (a0_1 != 105) = false := bne_eq_false_iff_eq.mpr c39
                    clear c39
                    obtain rfl := Option.some.inj H
                    have hcz40_0 : wc.cell? ⟨gb113, 0, none⟩ = some (.int .i64 a0_0) := (blk_cell BK113.out 0).trans rfl
                    have hcz40_1 : wc.cell? ⟨gb113, 1, none⟩ = some (.int .i32 a0_1) := (blk_cell BK113.out 1).trans rfl
                    have hcz40_2 : wc.cell? ⟨gb113, 2, none⟩ = some (.int .i64 a0_2) := (blk_cell BK113.out 2).trans rfl
                    have hcz40_3 : wc.cell? ⟨gb113, 3, none⟩ = some (.int .i64 a0_3) := (blk_cell BK113.out 3).trans rfl
                    have hfz40_0 := blk_frozen BK113.out 0
                    have hfz40_1 := blk_frozen BK113.out 1
                    have hfz40_2 := blk_frozen BK113.out 2
                    have hfz40_3 := blk_frozen BK113.out 3
                    go_wp2
                    go_ret
                    exact ⟨by first | rfl | (simp [errW_none, errW_some] <;> rfl) | (simp [*, errW_none, errW_some] <;> rfl), by repeat (first | (with_reducible first | exact HB.out | apply below_alloc | apply pw_below_drewN | apply below_drew1 | refine below_set ?_ GE113.out) | exact HB.out)⟩
                  · rw [if_neg c39] at H
                    have c39b0 : (a0_1 == 105) = false := beq_eq_false_iff_ne.mpr c39
                    have c39b1 : (a0_1 != 105) = true := bne_iff_ne.mpr c39
                    by_cases c41 : a0_1 = 109
                    · rw [if_pos c41] at H
                      have c41b0 : (a0_1 == 109) = true := beq_iff_eq.mpr c41
                      have c41b1 : (a0_1 != 109) = false := bne_eq_false_iff_eq.mpr c41
                      clear c41
                      obtain rfl := Option.some.inj H
                      have hcz42_0 : wc.cell? ⟨gb113, 0, none⟩ = some (.int .i64 a0_0) := (blk_cell BK113.out 0).trans rfl
                      have hcz42_1 : wc.cell? ⟨gb113, 1, none⟩ = some (.int .i32 a0_1) := (blk_cell BK113.out 1).trans rfl
                      have hcz42_2 : wc.cell? ⟨gb113, 2, none⟩ = some (.int .i64 a0_2) := (blk_cell BK113.out 2).trans rfl
                      have hcz42_3 : wc.cell? ⟨gb113, 3, none⟩ = some (.int .i64 a0_3) := (blk_cell BK113.out 3).trans rfl
                      have hfz42_0 := blk_frozen BK113.out 0
                      have hfz42_1 := blk_frozen BK113.out 1
                      have hfz42_2 := blk_frozen BK113.out 2
                      have hfz42_3 := blk_frozen BK113.out 3
                      go_wp2
                      go_ret
                      exact ⟨by first | rfl | (simp [errW_none, errW_some] <;> rfl) | (simp [*, errW_none, errW_some] <;> rfl), by repeat (first | (with_reducible first | exact HB.out | apply below_alloc | apply pw_below_drewN | apply below_drew1 | refine below_set ?_ GE113.out) | exact HB.out)⟩
                    · rw [if_neg c41] at H
                      have c41b0 : (a0_1 == 109) = false := beq_eq_false_iff_ne.mpr c41
                      have c41b1 : (a0_1 != 109) = true := bne_iff_ne.mpr c41
                      obtain rfl := Option.some.inj H
                      have hcz43_0 : wc.cell? ⟨gb113, 0, none⟩ = some (.int .i64 a0_0) := (blk_cell BK113.out 0).trans rfl
                      have hcz43_1 : wc.cell? ⟨gb113, 1, none⟩ = some (.int .i32 a0_1) := (blk_cell BK113.out 1).trans rfl
                      have hcz43_2 : wc.cell? ⟨gb113, 2, none⟩ = some (.int .i64 a0_2) := (blk_cell BK113.out 2).trans rfl
                      have hcz43_3 : wc.cell? ⟨gb113, 3, none⟩ = some (.int .i64 a0_3) := (blk_cell BK113.out 3).trans rfl
                      have hfz43_0 := blk_frozen BK113.out 0
                      have hfz43_1 := blk_frozen BK113.out 1
                      have hfz43_2 := blk_frozen BK113.out 2
                      have hfz43_3 := blk_frozen BK113.out 3
                      go_wp2
                      go_ret
                      exact ⟨by first | rfl | (simp [errW_none, errW_some] <;> rfl) | (simp [*, errW_none, errW_some] <;> rfl), by repeat (first | (with_reducible first | exact HB.out | apply below_alloc | apply pw_below_drewN | apply below_drew1 | refine below_set ?_ GE113.out) | exact HB.out)⟩
                · rw [if_neg c38] at H
                  have c38b0 : decide (a0_1 ≤ 122) = false := decide_eq_false c38
                  clear c38
                  obtain rfl := Option.some.inj H
                  have hcz44_0 : wc.cell? ⟨gb113, 0, none⟩ = some (.int .i64 a0_0) := (blk_cell BK113.out 0).trans rfl
                  have hcz44_1 : wc.cell? ⟨gb113, 1, none⟩ = some (.int .i32 a0_1) := (blk_cell BK113.out 1).trans rfl
                  have hcz44_2 : wc.cell? ⟨gb113, 2, none⟩ = some (.int .i64 a0_2) := (blk_cell BK113.out 2).trans rfl
                  have hcz44_3 : wc.cell? ⟨gb113, 3, none⟩ = some (.int .i64 a0_3) := (blk_cell BK113.out 3).trans rfl
                  have hfz44_0 := blk_frozen BK113.out 0
                  have hfz44_1 := blk_frozen BK113.out 1
                  have hfz44_2 := blk_frozen BK113.out 2
                  have hfz44_3 := blk_frozen BK113.out 3
                  go_wp2
                  go_ret
                  exact ⟨by first | rfl | (simp [errW_none, errW_some] <;> rfl) | (simp [*, errW_none, errW_some] <;> rfl), by repeat (first | (with_reducible first | exact HB.out | apply below_alloc | apply pw_below_drewN | apply below_drew1 | refine below_set ?_ GE113.out) | exact HB.out)⟩
              · rw [if_neg c37] at H
                have c37b0 : decide (97 ≤ a0_1) = false := decide_eq_false c37
                clear c37
                obtain rfl := Option.some.inj H
                have hcz45_0 : wc.cell? ⟨gb113, 0, none⟩ = some (.int .i64 a0_0) := (blk_cell BK113.out 0).trans rfl
                have hcz45_1 : wc.cell? ⟨gb113, 1, none⟩ = some (.int .i32 a0_1) := (blk_cell BK113.out 1).trans rfl
                have hcz45_2 : wc.cell? ⟨gb113, 2, none⟩ = some (.int .i64 a0_2) := (blk_cell BK113.out 2).trans rfl
                have hcz45_3 : wc.cell? ⟨gb113, 3, none⟩ = some (.int .i64 a0_3) := (blk_cell BK113.out 3).trans rfl
                have hfz45_0 := blk_frozen BK113.out 0
                have hfz45_1 := blk_frozen BK113.out 1
                have hfz45_2 := blk_frozen BK113.out 2
                have hfz45_3 := blk_frozen BK113.out 3
                go_wp2
                go_ret
                exact ⟨by first | rfl | (simp [errW_none, errW_some] <;> rfl) | (simp [*, errW_none, errW_some] <;> rfl), by repeat (first | (with_reducible first | exact HB.out | apply below_alloc | apply pw_below_drewN | apply below_drew1 | refine below_set ?_ GE113.out) | exact HB.out)⟩
            · rw [if_neg c36] at H
              have c36b0 : ((Go.bits .and .i64 a0_3 1) == 0) = false := beq_eq_false_iff_ne.mpr c36
              have c36b1 : ((Go.bits .and .i64 a0_3 1) != 0) = true := bne_iff_ne.mpr c36
              obtain rfl := Option.some.inj H
              have hcz46_0 : wc.cell? ⟨gb113, 0, none⟩ = some (.int .i64 a0_0) := (blk_cell BK113.out 0).trans rfl
              have hcz46_1 : wc.cell? ⟨gb113, 1, none⟩ = some (.int .i32 a0_1) := (blk_cell BK113.out 1).trans rfl
              have hcz46_2 : wc.cell? ⟨gb113, 2, none⟩ = some (.int .i64 a0_2) := (blk_cell BK113.out 2).trans rfl
              have hcz46_3 : wc.cell? ⟨gb113, 3, none⟩ = some (.int .i64 a0_3) := (blk_cell BK113.out 3).trans rfl
              have hfz46_0 := blk_frozen BK113.out 0
              have hfz46_1 := blk_frozen BK113.out 1
              have hfz46_2 := blk_frozen BK113.out 2
              have hfz46_3 := blk_frozen BK113.out 3
              go_wp2
              go_ret
              exact ⟨by first | rfl | (simp [errW_none, errW_some] <;> rfl) | (simp [*, errW_none, errW_some] <;> rfl), by repeat (first | (with_reducible first | exact HB.out | apply below_alloc | apply pw_below_drewN | apply below_drew1 | refine below_set ?_ GE113.out) | exact HB.out)⟩
        · rw [if_neg c12] at H
          have c12b0 : (a0_0 == 1) = false := beq_eq_false_iff_ne.mpr c12
          have c12b1 : (a0_0 != 1) = true := bne_iff_ne.mpr c12
          have HC47 := Aside0.mk H
          clear H
          have hcz48_0 : wc.cell? ⟨gb113, 0, none⟩ = some (.int .i64 a0_0) := (blk_cell BK113.out 0).trans rfl
          have hcz48_1 : wc.cell? ⟨gb113, 1, none⟩ = some (.int .i32 a0_1) := (blk_cell BK113.out 1).trans rfl
          have hcz48_2 : wc.cell? ⟨gb113, 2, none⟩ = some (.int .i64 a0_2) := (blk_cell BK113.out 2).trans rfl
          have hcz48_3 : wc.cell? ⟨gb113, 3, none⟩ = some (.int .i64 a0_3) := (blk_cell BK113.out 3).trans rfl
          have hfz48_0 := blk_frozen BK113.out 0
          have hfz48_1 := blk_frozen BK113.out 1
          have hfz48_2 := blk_frozen BK113.out 2
          have hfz48_3 := blk_frozen BK113.out 3
          go_upto_if 96 with (fail)
          go_cut [96] (fun v96 wc => ∃ (kq : Nat) (x96_46 : Bool), v96 = .bool x96_46 ∧ Aside0 (keys_Check.j1 kq a0_0 x96_46 a0_0 a0_1 a0_2 a0_3 = some r) ∧ Aside0 (kq ≤ kj1) ∧ Aside0 (wc.heap[gb113]? = some (.cells #[.int .i64 a0_0, .int .i32 a0_1, .int .i64 a0_2, .int .i64 a0_3] 23 (0, 0))) ∧ Aside0 (Below w.heap.size w wc))
          case first =>
            have H := HC47.out
            clear HC47
            by_cases c49 : a0_0 = 2
            · rw [if_pos c49] at H
              have c49b0 : (a0_0 == 2) = true := beq_iff_eq.mpr c49
              have c49b1 : (a0_0 != 2) = false := bne_eq_false_iff_eq.mpr c49
              clear c49
              (first | rw [c49b0] | (simp only [i64_w, i32_w]; rw [c49b0]) | skip)
              have H' := Aside0.mk H
              clear H
              go_wp2
              go_meet
              case rel => exact ⟨_, ((a0_0 == 2)), (by first | rfl | (simp; done) | (simp [*]; done)), H', ⟨by have := HJ1.out; first | omega | exact Nat.le_refl _⟩, ⟨by (with_reducible repeat (first | refine blk_drewN ?_ _ | refine blk_drew ?_ | refine blk_alloc ?_ _)); exact BK113.out⟩, ⟨by repeat (first | (with_reducible first | exact HB.out | apply below_alloc | apply pw_below_drewN | apply below_drew1 | refine below_set ?_ GE113.out) | exact HB.out)⟩⟩
            · rw [if_neg c49] at H
              have c49b0 : (a0_0 == 2) = false := beq_eq_false_iff_ne.mpr c49
              have c49b1 : (a0_0 != 2) = true := bne_iff_ne.mpr c49
              (first | rw [c49b0] | (simp only [i64_w, i32_w]; rw [c49b0]) | skip)
              have H' := Aside0.mk H
              clear H
              go_wp2
              go_meet
              case rel => exact ⟨_, ((a0_0 == 4)), (by first | rfl | (simp; done) | (simp [*]; done)), H', ⟨by have := HJ1.out; first | omega | exact Nat.le_refl _⟩, ⟨by (with_reducible repeat (first | refine blk_drewN ?_ _ | refine blk_drew ?_ | refine blk_alloc ?_ _)); exact BK113.out⟩, ⟨by repeat (first | (with_reducible first | exact HB.out | apply below_alloc | apply pw_below_drewN | apply below_drew1 | refine below_set ?_ GE113.out) | exact HB.out)⟩⟩
          case rest =>
            clear HC47
            try clear c1
            try clear c2
            try clear p2
            try clear c3
            try clear c4
            try clear c4b0
            try clear c6
            try clear c6b0
            try clear c8
            try clear c8b0
            try clear c8b1
            try clear c8b2
            try clear c10
            try clear c11
            try clear c12
            try clear c12b0
            try clear c12b1
            try clear c13
            try clear c13b0
            try clear c13b1
            try clear c14
            try clear c14b0
            try clear c14b1
            try clear c16
            try clear c16b0
            try clear c18
            try clear c19
            try clear c19b0
            try clear c19b1
            try clear c23
            try clear c23b0
            try clear c23b1
            try clear c36
            try clear c36b0
            try clear c36b1
            try clear c37
            try clear c37b0
            try clear c38
            try clear c38b0
            try clear c39
            try clear c39b0
            try clear c39b1
            try clear c41
            try clear c41b0
            try clear c41b1
            try clear c49
            try clear c49b0
            try clear c49b1
            try clear hcz10_0
            try clear hcz10_1
            try clear hcz10_2
            try clear hcz10_3
            try clear hcz20_0
            try clear hcz20_1
            try clear hcz20_2
            try clear hcz20_3
            try clear hcz22_0
            try clear hcz22_1
            try clear hcz22_2
            try clear hcz22_3
            try clear hcz24_0
            try clear hcz24_1
            try clear hcz24_2
            try clear hcz24_3
            try clear hcz26_0
            try clear hcz26_1
            try clear hcz26_2
            try clear hcz26_3
            try clear hcz27_0
            try clear hcz27_1
            try clear hcz27_2
            try clear hcz27_3
            try clear hcz29_0
            try clear hcz29_1
            try clear hcz29_2
            try clear hcz29_3
            try clear hcz30_0
            try clear hcz30_1
            try clear hcz30_2
            try clear hcz30_3
            try clear hcz32_0
            try clear hcz32_1
            try clear hcz32_2
            try clear hcz32_3
            try clear hcz33_0
            try clear hcz33_1
            try clear hcz33_2
            try clear hcz33_3
            try clear hcz35_0
            try clear hcz35_1
            try clear hcz35_2
            try clear hcz35_3
            try clear hcz40_0
            try clear hcz40_1
            try clear hcz40_2
            try clear hcz40_3
            try clear hcz42_0
            try clear hcz42_1
            try clear hcz42_2
            try clear hcz42_3
            try clear hcz43_0
            try clear hcz43_1
            try clear hcz43_2
            try clear hcz43_3
            try clear hcz44_0
            try clear hcz44_1
            try clear hcz44_2
            try clear hcz44_3
            try clear hcz45_0
            try clear hcz45_1
            try clear hcz45_2
            try clear hcz45_3
            try clear hcz46_0
            try clear hcz46_1
            try clear hcz46_2
            try clear hcz46_3
            try clear hcz48_0
            try clear hcz48_1
            try clear hcz48_2
            try clear hcz48_3
            try clear hcz5_0
            try clear hcz5_1
            try clear hcz5_2
            try clear hcz5_3
            try clear hcz7_0
            try clear hcz7_1
            try clear hcz7_2
            try clear hcz7_3
            try clear hcz9_0
            try clear hcz9_1
            try clear hcz9_2
            try clear hcz9_3
            try clear hfz10_0
            try clear hfz10_1
            try clear hfz10_2
            try clear hfz10_3
            try clear hfz20_0
            try clear hfz20_1
            try clear hfz20_2
            try clear hfz20_3
            try clear hfz22_0
            try clear hfz22_1
            try clear hfz22_2
            try clear hfz22_3
            try clear hfz24_0
            try clear hfz24_1
            try clear hfz24_2
            try clear hfz24_3
            try clear hfz26_0
            try clear hfz26_1
            try clear hfz26_2
            try clear hfz26_3
            try clear hfz27_0
            try clear hfz27_1
            try clear hfz27_2
            try clear hfz27_3
            try clear hfz29_0
            try clear hfz29_1
            try clear hfz29_2
            try clear hfz29_3
            try clear hfz30_0
            try clear hfz30_1
            try clear hfz30_2
            try clear hfz30_3
            try clear hfz32_0
            try clear hfz32_1
            try clear hfz32_2
            try clear hfz32_3
            try clear hfz33_0
            try clear hfz33_1
            try clear hfz33_2
            try clear hfz33_3
            try clear hfz35_0
            try clear hfz35_1
            try clear hfz35_2
            try clear hfz35_3
            try clear hfz40_0
            try clear hfz40_1
            try clear hfz40_2
            try clear hfz40_3
            try clear hfz42_0
            try clear hfz42_1
            try clear hfz42_2
            try clear hfz42_3
            try clear hfz43_0
            try clear hfz43_1
            try clear hfz43_2
            try clear hfz43_3
            try clear hfz44_0
            try clear hfz44_1
            try clear hfz44_2
            try clear hfz44_3
            try clear hfz45_0
            try clear hfz45_1
            try clear hfz45_2
            try clear hfz45_3
            try clear hfz46_0
            try clear hfz46_1
            try clear hfz46_2
            try clear hfz46_3
            try clear hfz48_0
            try clear hfz48_1
            try clear hfz48_2
            try clear hfz48_3
            try clear hfz5_0
            try clear hfz5_1
            try clear hfz5_2
            try clear hfz5_3
            try clear hfz7_0
            try clear hfz7_1
            try clear hfz7_2
            try clear hfz7_3
            try clear hfz9_0
            try clear hfz9_1
            try clear hfz9_2
            try clear hfz9_3
            try clear p2
            obtain ⟨kq, x96_46, rfl, HA, HJ46, BK113, HB⟩ := hcut
            cases kq with
            | zero => exact absurd HA.out (by simp [keys_Check.j1])
            | succ kj46 =>
              have H := HA.out
              clear HA
              simp only [keys_Check.j1] at H
              by_cases c50 : x96_46 = true
              · subst c50
                have H1 : (some ((Go.bits .andNot .i64 a0_3 2) == 0)) = some r := by rw [if_pos rfl] at H; exact H
                clear H
                have H := H1
                clear H1
                obtain rfl := Option.some.inj H
                have hcz51_0 : wc.cell? ⟨gb113, 0, none⟩ = some (.int .i64 a0_0) := (blk_cell BK113.out 0).trans rfl
                have hcz51_1 : wc.cell? ⟨gb113, 1, none⟩ = some (.int .i32 a0_1) := (blk_cell BK113.out 1).trans rfl
                have hcz51_2 : wc.cell? ⟨gb113, 2, none⟩ = some (.int .i64 a0_2) := (blk_cell BK113.out 2).trans rfl
                have hcz51_3 : wc.cell? ⟨gb113, 3, none⟩ = some (.int .i64 a0_3) := (blk_cell BK113.out 3).trans rfl
                have hfz51_0 := blk_frozen BK113.out 0
                have hfz51_1 := blk_frozen BK113.out 1
                have hfz51_2 := blk_frozen BK113.out 2
                have hfz51_3 := blk_frozen BK113.out 3
                go_wp2
                go_ret
                exact ⟨by first | rfl | (simp [errW_none, errW_some] <;> rfl) | (simp [*, errW_none, errW_some] <;> rfl), by repeat (first | (with_reducible first | exact HB.out | apply below_alloc | apply pw_below_drewN | apply below_drew1 | refine below_set ?_ GE113.out) | exact HB.out)⟩
              · replace c50 := Bool.eq_false_iff.mpr c50
                subst c50
                have H1 : (if a0_0 = 3 then (if a0_3 = 0 then (some true) else (some (a0_3 == 1))) else (if a0_0 = 5 then (some (a0_3 == 0)) else (if a0_0 = 15 then (if a0_2 ≥ 1 then (some (decide (a0_2 ≤ 12))) else (some false)) else (if a0_0 ≥ 6 then (some (decide (a0_0 ≤ 14))) else (some false))))) = some r := by rw [if_neg (show ¬ (false = true) by decide)] at H; exact H
                clear H
                have H := H1
                clear H1
                by_cases c52 : a0_0 = 3
                · rw [if_pos c52] at H
                  have c52b0 : (a0_0 == 3) = true := beq_iff_eq.mpr c52
                  have c52b1 : (a0_0 != 3) = false := bne_eq_false_iff_eq.mpr c52
                  clear c52
                  by_cases c53 : a0_3 = 0
                  · rw [if_pos c53] at H
                    have c53b0 : (a0_3 == 0) = true := beq_iff_eq.mpr c53
                    have c53b1 : (a0_3 != 0) = false := bne_eq_false_iff_eq.mpr c53
                    clear c53
                    obtain rfl := Option.some.inj H
                    have hcz54_0 : wc.cell? ⟨gb113, 0, none⟩ = some (.int .i64 a0_0) := (blk_cell BK113.out 0).trans rfl
                    have hcz54_1 : wc.cell? ⟨gb113, 1, none⟩ = some (.int .i32 a0_1) := (blk_cell BK113.out 1).trans rfl
                    have hcz54_2 : wc.cell? ⟨gb113, 2, none⟩ = some (.int .i64 a0_2) := (blk_cell BK113.out 2).trans rfl
                    have hcz54_3 : wc.cell? ⟨gb113, 3, none⟩ = some (.int .i64 a0_3) := (blk_cell BK113.out 3).trans rfl
                    have hfz54_0 := blk_frozen BK113.out 0
                    have hfz54_1 := blk_frozen BK113.out 1
                    have hfz54_2 := blk_frozen BK113.out 2
                    have hfz54_3 := blk_frozen BK113.out 3
                    go_wp2
                    go_ret
                    exact ⟨by first | rfl | (simp [errW_none, errW_some] <;> rfl) | (simp [*, errW_none, errW_some] <;> rfl), by repeat (first | (with_reducible first | exact HB.out | apply below_alloc | apply pw_below_drewN | apply below_drew1 | refine below_set ?_ GE113.out) | exact HB.out)⟩
                  · rw [if_neg c53] at H
                    have c53b0 : (a0_3 == 0) = false := beq_eq_false_iff_ne.mpr c53
                    have c53b1 : (a0_3 != 0) = true := bne_iff_ne.mpr c53
                    obtain rfl := Option.some.inj H
                    have hcz55_0 : wc.cell? ⟨gb113, 0, none⟩ = some (.int .i64 a0_0) := (blk_cell BK113.out 0).trans rfl
                    have hcz55_1 : wc.cell? ⟨gb113, 1, none⟩ = some (.int .i32 a0_1) := (blk_cell BK113.out 1).trans rfl
                    have hcz55_2 : wc.cell? ⟨gb113, 2, none⟩ = some (.int .i64 a0_2) := (blk_cell BK113.out 2).trans rfl
                    have hcz55_3 : wc.cell? ⟨gb113, 3, none⟩ = some (.int .i64 a0_3) := (blk_cell BK113.out 3).trans rfl
                    have hfz55_0 := blk_frozen BK113.out 0
                    have hfz55_1 := blk_frozen BK113.out 1
                    have hfz55_2 := blk_frozen BK113.out 2
                    have hfz55_3 := blk_frozen BK113.out 3
                    go_wp2
                    go_ret
                    exact ⟨by first | rfl | (simp [errW_none, errW_some] <;> rfl) | (simp [*, errW_none, errW_some] <;> rfl), by repeat (first | (with_reducible first | exact HB.out | apply below_alloc | apply pw_below_drewN | apply below_drew1 | refine below_set ?_ GE113.out) | exact HB.out)⟩
                · rw [if_neg c52] at H
                  have c52b0 : (a0_0 == 3) = false := beq_eq_false_iff_ne.mpr c52
                  have c52b1 : (a0_0 != 3) = true := bne_iff_ne.mpr c52
                  by_cases c56 : a0_0 = 5
                  · rw [if_pos c56] at H
                    have c56b0 : (a0_0 == 5) = true := beq_iff_eq.mpr c56
                    have c56b1 : (a0_0 != 5) = false := bne_eq_false_iff_eq.mpr c56
                    clear c56
                    obtain rfl := Option.some.inj H
                    have hcz57_0 : wc.cell? ⟨gb113, 0, none⟩ = some (.int .i64 a0_0) := (blk_cell BK113.out 0).trans rfl
                    have hcz57_1 : wc.cell? ⟨gb113, 1, none⟩ = some (.int .i32 a0_1) := (blk_cell BK113.out 1).trans rfl
                    have hcz57_2 : wc.cell? ⟨gb113, 2, none⟩ = some (.int .i64 a0_2) := (blk_cell BK113.out 2).trans rfl
                    have hcz57_3 : wc.cell? ⟨gb113, 3, none⟩ = some (.int .i64 a0_3) := (blk_cell BK113.out 3).trans rfl
                    have hfz57_0 := blk_frozen BK113.out 0
                    have hfz57_1 := blk_frozen BK113.out 1
                    have hfz57_2 := blk_frozen BK113.out 2
                    have hfz57_3 := blk_frozen BK113.out 3
                    go_wp2
                    go_ret
                    exact ⟨by first | rfl | (simp [errW_none, errW_some] <;> rfl) | (simp [*, errW_none, errW_some] <;> rfl), by repeat (first | (with_reducible first | exact HB.out | apply below_alloc | apply pw_below_drewN | apply below_drew1 | refine below_set ?_ GE113.out) | exact HB.out)⟩
                  · rw [if_neg c56] at H
                    have c56b0 : (a0_0 == 5) = false := beq_eq_false_iff_ne.mpr c56
                    have c56b1 : (a0_0 != 5) = true := bne_iff_ne.mpr c56
                    by_cases c58 : a0_0 = 15
                    · rw [if_pos c58] at H
                      have c58b0 : (a0_0 == 15) = true := beq_iff_eq.mpr c58
                      have c58b1 : (a0_0 != 15) = false := bne_eq_false_iff_eq.mpr c58
                      clear c58
                      by_cases c59 : a0_2 ≥ 1
                      · rw [if_pos c59] at H
                        have c59b0 : decide (1 ≤ a0_2) = true := decide_eq_true c59
                        clear c59
                        obtain rfl := Option.some.inj H
                        have hcz60_0 : wc.cell? ⟨gb113, 0, none⟩ = some (.int .i64 a0_0) := (blk_cell BK113.out 0).trans rfl
                        have hcz60_1 : wc.cell? ⟨gb113, 1, none⟩ = some (.int .i32 a0_1) := (blk_cell BK113.out 1).trans rfl
                        have hcz60_2 : wc.cell? ⟨gb113, 2, none⟩ = some (.int .i64 a0_2) := (blk_cell BK113.out 2).trans rfl
                        have hcz60_3 : wc.cell? ⟨gb113, 3, none⟩ = some (.int .i64 a0_3) := (blk_cell BK113.out 3).trans rfl
                        have hfz60_0 := blk_frozen BK113.out 0
                        have hfz60_1 := blk_frozen BK113.out 1
                        have hfz60_2 := blk_frozen BK113.out 2
                        have hfz60_3 := blk_frozen BK113.out 3
                        go_wp2
                        go_ret
                        exact ⟨by first | rfl | (simp [errW_none, errW_some] <;> rfl) | (simp [*, errW_none, errW_some] <;> rfl), by repeat (first | (with_reducible first | exact HB.out | apply below_alloc | apply pw_below_drewN | apply below_drew1 | refine below_set ?_ GE113.out) | exact HB.out)⟩
                      · rw [if_neg c59] at H
                        have c59b0 : decide (1 ≤ a0_2) = false := decide_eq_false c59
                        clear c59
                        obtain rfl := Option.some.inj H
                        have hcz61_0 : wc.cell? ⟨gb113, 0, none⟩ = some (.int .i64 a0_0) := (blk_cell BK113.out 0).trans rfl
                        have hcz61_1 : wc.cell? ⟨gb113, 1, none⟩ = some (.int .i32 a0_1) := (blk_cell BK113.out 1).trans rfl
                        have hcz61_2 : wc.cell? ⟨gb113, 2, none⟩ = some (.int .i64 a0_2) := (blk_cell BK113.out 2).trans rfl
                        have hcz61_3 : wc.cell? ⟨gb113, 3, none⟩ = some (.int .i64 a0_3) := (blk_cell BK113.out 3).trans rfl
                        have hfz61_0 := blk_frozen BK113.out 0
                        have hfz61_1 := blk_frozen BK113.out 1
                        have hfz61_2 := blk_frozen BK113.out 2
                        have hfz61_3 := blk_frozen BK113.out 3
                        go_wp2
                        go_ret
                        exact ⟨by first | rfl | (simp [errW_none, errW_some] <;> rfl) | (simp [*, errW_none, errW_some] <;> rfl), by repeat (first | (with_reducible first | exact HB.out | apply below_alloc | apply pw_below_drewN | apply below_drew1 | refine below_set ?_ GE113.out) | exact HB.out)⟩
                    · rw [if_neg c58] at H
                      have c58b0 : (a0_0 == 15) = false := beq_eq_false_iff_ne.mpr c58
                      have c58b1 : (a0_0 != 15) = true := bne_iff_ne.mpr c58
                      by_cases c62 : a0_0 ≥ 6
                      · rw [if_pos c62] at H
                        have c62b0 : decide (6 ≤ a0_0) = true := decide_eq_true c62
                        clear c62
                        obtain rfl := Option.some.inj H
                        have hcz63_0 : wc.cell? ⟨gb113, 0, none⟩ = some (.int .i64 a0_0) := (blk_cell BK113.out 0).trans rfl
                        have hcz63_1 : wc.cell? ⟨gb113, 1, none⟩ = some (.int .i32 a0_1) := (blk_cell BK113.out 1).trans rfl
                        have hcz63_2 : wc.cell? ⟨gb113, 2, none⟩ = some (.int .i64 a0_2) := (blk_cell BK113.out 2).trans rfl
                        have hcz63_3 : wc.cell? ⟨gb113, 3, none⟩ = some (.int .i64 a0_3) := (blk_cell BK113.out 3).trans rfl
                        have hfz63_0 := blk_frozen BK113.out 0
                        have hfz63_1 := blk_frozen BK113.out 1
                        have hfz63_2 := blk_frozen BK113.out 2
                        have hfz63_3 := blk_frozen BK113.out 3
                        go_wp2
                        go_ret
                        exact ⟨by first | rfl | (simp [errW_none, errW_some] <;> rfl) | (simp [*, errW_none, errW_some] <;> rfl), by repeat (first | (with_reducible first | exact HB.out | apply below_alloc | apply pw_below_drewN | apply below_drew1 | refine below_set ?_ GE113.out) | exact HB.out)⟩
                      · rw [if_neg c62] at H
                        have c62b0 : decide (6 ≤ a0_0) = false := decide_eq_false c62
                        clear c62
                        obtain rfl := Option.some.inj H
                        have hcz64_0 : wc.cell? ⟨gb113, 0, none⟩ = some (.int .i64 a0_0) := (blk_cell BK113.out 0).trans rfl
                        have hcz64_1 : wc.cell? ⟨gb113, 1, none⟩ = some (.int .i32 a0_1) := (blk_cell BK113.out 1).trans rfl
                        have hcz64_2 : wc.cell? ⟨gb113, 2, none⟩ = some (.int .i64 a0_2) := (blk_cell BK113.out 2).trans rfl
                        have hcz64_3 : wc.cell? ⟨gb113, 3, none⟩ = some (.int .i64 a0_3) := (blk_cell BK113.out 3).trans rfl
                        have hfz64_0 := blk_frozen BK113.out 0
                        have hfz64_1 := blk_frozen BK113.out 1
                        have hfz64_2 := blk_frozen BK113.out 2
                        have hfz64_3 := blk_frozen BK113.out 3
                        go_wp2
                        go_ret
                        exact ⟨by first | rfl | (simp [errW_none, errW_some] <;> rfl) | (simp [*, errW_none, errW_some] <;> rfl), by repeat (first | (with_reducible first | exact HB.out | apply below_alloc | apply pw_below_drewN | apply below_drew1 | refine below_set ?_ GE113.out) | exact HB.out)⟩

end Go.Proofs.YtampklajoikbiaaDoor.PKeysRead
