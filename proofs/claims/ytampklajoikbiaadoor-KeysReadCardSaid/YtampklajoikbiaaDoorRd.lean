/- trellisref.firstKey, whole. -/
import Derived.Test.YtampklajoikbiaaDoorRc
import Derived.Test.YtampklajoikbiaaDoorP
set_option linter.unusedVariables false
set_option linter.unusedSimpArgs false
namespace Go.Proofs.YtampklajoikbiaaDoor
open Go.RowKit Go.Proofs.YtampklajoikbiaaDoorW.PrintWords PKeysRead

theorem seqGo_ds (b : ByteArray) : ∀ (f i j : Nat), i ≤ j → j < seqGo b f i → isDS (byt b j) = true
  | 0, i, j, h1, h2 => by unfold seqGo at h2; omega
  | f + 1, i, j, h1, h2 => by
    unfold seqGo at h2
    split at h2
    · rename_i h
      by_cases e : i = j
      · subst e; exact h.2.1
      · exact seqGo_ds b f (i + 1) j (by omega) h2
    · omega
theorem seq_ds {b : ByteArray} (h2 : 2 ≤ b.size) : ∀ c ∈ (b.extract 2 (seqEnd b)).data.toList, dsB c = true := by
  intro c hc
  rw [Lib.extract_data] at hc
  obtain ⟨i, hi⟩ := List.getElem?_of_mem hc
  rw [List.getElem?_take] at hi
  split at hi
  · rename_i hlt
    rw [List.getElem?_drop] at hi
    obtain ⟨hb, e⟩ := List.getElem?_eq_some_iff.1 hi
    have hd := seqGo_ds b 11 2 (2 + i) (by omega) (by unfold seqEnd at hlt; omega)
    have hs : 2 + i < b.size := by rw [data_length] at hb; exact hb
    rw [← byt_at hs] at hd
    have e2 : b[2 + i]'hs = c := by rw [← e]; rfl
    rw [e2] at hd
    have h3 := (isDS_iff _).1 hd
    simp [dsB]
    omega
  · cases hi
theorem seq_short {b : ByteArray} (h2 : 2 ≤ b.size) : (b.extract 2 (seqEnd b)).size ≤ 10 := by
  have := seqEnd_bd h2
  rw [ByteArray.size_extract]; omega
/-- keyOf at the numbers of a sequence: what told answers. -/
def KPost (o : Option Key) (w : World) (e : Ending) (w' : World) : Prop := ∃ (a b c d : Int) (ok : Bool), e = .returned (.tuple #[.agg #[.int .i64 a, .int .i32 b, .int .i64 c, .int .i64 d], .bool ok]) ∧ Agree o ⟨a, b, c, d⟩ ok ∧ Below w.heap.size w w'
theorem keyOf_seq {b : ByteArray} (h2 : 2 ≤ b.size) {last : Int} (h8 : 0 ≤ last ∧ last < 256) (w : World) (hg : Gl w) (htab : Lib.TabIs Tryd.prog w "internal/strconv.uint64pow10" .u64 Lib.pow10Tab) :
    Calls Tryd.prog 60 #[.string (b.extract 2 (seqEnd b)), .int .u8 last] w (KPost (toldF (b.extract 2 (seqEnd b)) last) w) := by
  have hs := seq_short h2
  have hd := seq_ds h2
  refine (keyOf_calls _ last w hg htab (by omega) h8 (fun x hx ho => atoi_bd (parts_ds hd hx) (Nat.le_trans (parts_size hx) hs) ho)).mono ?_
  rintro e w' ⟨k, ok, he, hK, hb⟩
  obtain ⟨a, b1, c, d⟩ := k
  exact ⟨a, b1, c, d, ok, he, ko_told hd hs hK, hb⟩
set_option maxRecDepth 100000 in
theorem ix_all : ∀ x : Fin 256, (decide (0 ≤ Lib.indexByte [48, 49, 50, 51, 52, 53, 54, 55, 56, 57, 59] (UInt8.ofNat x.val))) = isDS (x.val : Nat) := by decide
theorem ix_val (c : UInt8) : (decide (0 ≤ Lib.indexByte [48, 49, 50, 51, 52, 53, 54, 55, 56, 57, 59] c)) = isDS (c.toNat : Nat) := by
  have h := ix_all ⟨c.toNat, UInt8.toNat_lt c⟩
  simpa using h
theorem ix_calls (c : UInt8) (w : World) : Calls Tryd.prog 59 #[.string ⟨#[48, 49, 50, 51, 52, 53, 54, 55, 56, 57, 59]⟩, .int .u8 (c.toNat : Nat)] w fun e w' => ∃ v : Int, e = .returned (.int .i64 v) ∧ (decide (0 ≤ v) = isDS (c.toNat : Nat)) ∧ w = w' :=
  (Tryd.strings_IndexByte ⟨#[48, 49, 50, 51, 52, 53, 54, 55, 56, 57, 59]⟩ ((c.toNat : Nat) : Int) w).mono fun e w' ⟨he, hw⟩ => ⟨_, he, by
    have := ix_val c
    simpa using this, hw.symm⟩

theorem letter_range (a : Int) : letterF a ≠ 0 ↔ 6 ≤ a ∧ a ≤ 11 := by
  unfold letterF
  constructor
  · intro h
    repeat' split at h
    all_goals omega
  · intro h
    repeat' split
    all_goals omega
/-- The key that keyOf has told, and where it lies. -/
def KeyCut2 (w : World) (o : Option Key) (s11 s12 : Value) (wx : World) : Prop := ∃ (a b c d : Int) (ok : Bool), Agree o ⟨a, b, c, d⟩ ok ∧ KeyCut w a b c d (.bool ok) s11 s12 wx

set_option maxRecDepth 100000 in
set_option maxHeartbeats 8000000 in
theorem fk_seq (b : ByteArray) (last : Bool) (w : World) (hg : Gl w) (htab : Lib.TabIs Tryd.prog w "internal/strconv.uint64pow10" .u64 Lib.pow10Tab) (h2 : 2 ≤ b.size) (hs : b.size ≤ 1000000) (h0 : byt b 0 = 27) (hq : byt b 1 = 91 ∨ byt b 1 = 79) :
    Calls Tryd.prog 38 #[.string b, .bool last] w (FPost (seqF b last) w) := by
  have HG := Lib.hid hg
  have HTB : Hid (∀ w', Below w.heap.size w w' → Lib.TabIs Tryd.prog w' "internal/strconv.uint64pow10" .u64 Lib.pow10Tab) := Lib.hid (fun w' hb => Go.Joins.tab_stays pow_at htab hb (Nat.le_refl _))
  clear hg htab
  have hb0 : 0 < b.size := by omega
  have hb1 : 1 < b.size := by omega
  have E0 := Lib.hid (byt_at hb0)
  have E1 := Lib.hid (byt_at hb1)
  have q0 : (((b[0]'hb0).toNat : Int) != 27) = false := by rw [E0.out, h0]; rfl
  have qz : ((b.size : Int) == 1) = false := beq_eq_false_iff_ne.2 (by omega)
  have q27 : (((b[1]'hb1).toNat : Int) == 27) = false := by rw [E1.out]; simp; omega
  have q9 : (((b[1]'hb1).toNat : Int) == 9) = false := by rw [E1.out]; simp; omega
  have hsp : ((((b[1]'hb1).toNat : Int) == 91) = true ∧ (((b[1]'hb1).toNat : Int) == 79) = false ∧ byt b 1 = 91) ∨ ((((b[1]'hb1).toNat : Int) == 91) = false ∧ (((b[1]'hb1).toNat : Int) == 79) = true ∧ byt b 1 = 79) := by
    rw [E1.out]; simp; omega
  clear h0 hq
  rcases hsp with ⟨q91, q79, hq⟩ | ⟨q91, q79, hq⟩
  all_goals
    have HQ := Lib.hid hq
    clear hq
    go_enter Tryd.func38, Tryd.ntmps38
    go_upto_if 89 with fail
    go_cut [10] (fun s10 wx => s10 = .int .i64 (seqEnd b) ∧ wx = w.alloc (.cells #[.int .i64 0, .int .i32 0, .int .i64 0, .int .i64 0] 23))
  case first =>
    go_wp2_with fail
    go_loop [10] (seqRel b) (fun i => 13 - (intOf i).toNat)
    case atStart => exact ⟨2, by omega, by omega, by omega, rfl, rfl⟩
    case round =>
      obtain ⟨k, hk2, hk12, hkb, rfl, hrel⟩ := hrel
      have HR := Lib.hid hrel
      clear hrel
      by_cases hlt : k < b.size
      · have EK := Lib.hid (byt_at hlt)
        cases hd : isDS (byt b k) with
        | true =>
          have HD := Lib.hid hd
          clear hd
          go_wp2_with (go_at_call 59; refine (ix_calls _ _).mono ?_; rintro e w1 ⟨v, rfl, hv, rfl⟩; rw [EK.out, HD.out] at hv; have hv0 : 0 ≤ v := (by simpa using hv); clear hv)
          all_goals first
            | (go_round
               case rel => exact seqRel_next hk2 hk12 ⟨hlt, HD.out, by omega, HQ.out⟩ HR
               case measure => simp [intOf]; omega)
            | (go_meet
               exact ⟨seqRel_end hk2 hk12 (fun h => by omega) HR, rfl⟩)
        | false =>
          have HD := Lib.hid hd
          clear hd
          go_wp2_with (go_at_call 59; refine (ix_calls _ _).mono ?_; rintro e w1 ⟨v, rfl, hv, rfl⟩; rw [EK.out, HD.out] at hv; have hv0 : v < 0 := (by simpa using hv); clear hv)
          all_goals
            go_meet
            exact ⟨seqRel_end hk2 hk12 (fun h => by rw [HD.out] at h; exact absurd h.2.1 (by decide)) HR, rfl⟩
      · go_wp2_with fail
        go_meet
        exact ⟨seqRel_end hk2 hk12 (fun h => hlt h.1) HR, rfl⟩
  case rest =>
    obtain ⟨rfl, rfl⟩ := hcut
    obtain ⟨n2, n12, nb⟩ := seqEnd_bd h2
    have hr : seqF b last = (if seqEnd b = b.size then (if last = true then (keyEsc, 1) else (key0, 0)) else seqPick b (seqEnd b) (toldF (b.extract 2 (seqEnd b)) (byt b (seqEnd b)))) := rfl
    have HKO : Hid (∀ (last : Int), 0 ≤ last ∧ last < 256 → ∀ w, Gl w → Lib.TabIs Tryd.prog w "internal/strconv.uint64pow10" .u64 Lib.pow10Tab → Calls Tryd.prog 60 #[.string (b.extract 2 (seqEnd b)), .int .u8 last] w (KPost (toldF (b.extract 2 (seqEnd b)) last) w)) :=
      Lib.hid (fun last h8 w hg ht => keyOf_seq h2 h8 w hg ht)
    generalize seqEnd b = n at *
    by_cases hn : n = b.size
    · rw [if_pos hn] at hr
      subst hn
      cases last with
      | true =>
        have HR := Lib.hid hr
        clear hr
        go_wp2_with fail
        rw [HR.out]
        go_returns
        exact ⟨rfl, by go_grown⟩
      | false =>
        have HR := Lib.hid hr
        clear hr
        go_wp2_with fail
        rw [HR.out]
        go_returns
        exact ⟨rfl, by go_grown⟩
    · rw [if_neg hn] at hr
      have hlt : n < b.size := by omega
      have EN := Lib.hid (byt_at hlt)
      have hbn := byt_lo b n
      have HC : Hid (∀ w, Gl w → Lib.TabIs Tryd.prog w "internal/strconv.uint64pow10" .u64 Lib.pow10Tab → Calls Tryd.prog 60 #[.string (b.extract 2 n), .int .u8 ((b[n]'hlt).toNat : Int)] w (KPost (toldF (b.extract 2 n) (byt b n)) w)) := Lib.hid (fun w hg ht => by rw [EN.out]; exact HKO.out _ hbn w hg ht)
      generalize toldF (b.extract 2 n) (byt b n) = o at *
      have HR := Lib.hid hr
      clear hr hn hbn HKO
      go_upto_region 40 with fail
      go_cut [11, 12] (KeyCut2 w o)
      case first =>
        have hk0 : (0 : Int) ≤ n := by omega
        go_region_with ((go_at_call 60; refine (HC.out _ (HG.out.below (by go_grown)) (HTB.out _ (by go_grown))).mono ?_; rintro e w1 ⟨a, k1, k2, k3, ok, rfl, hag, hb⟩; have HAG := Lib.hid hag; obtain ⟨hcc, hff⟩ := bcell hb; have hB1 : Below w.heap.size w w1 := bt (by go_grown) hb; have hz1 : w.heap.size < w1.heap.size := by (have := hb.size; simp at this; omega)))
        all_goals
          go_wp2_with fail
          go_meet
          refine ⟨a, k1, k2, k3, ok, HAG.out, ?_⟩
          first
            | ((with_reducible refine keyCutA ?_ ?_)
               · exact Zero4.below (Zero4.drew (Zero4.new w)) hb
               · exact hB1)
            | ((with_reducible refine keyCutB ?_ ?_ ?_ ?_)
               · exact Zero4.below (Zero4.drew (Zero4.alloc (Zero4.new w) _)) hb
               · exact Zero4.below (Zero4.drew (Zero4.new2 w _)) hb
               · exact hB1
               · omega)
      case rest =>
        obtain ⟨a, k1, k2, k3, ok, hag, q, rfl, rfl, hK, hZ, hB, hq⟩ := hcut
        obtain ⟨e0, e1, e2, e3⟩ := hK.cells
        have hz : w.heap.size < wc.heap.size := (Array.getElem?_eq_some_iff.1 hZ).1
        have HZ := Lib.hid hZ
        have c0 := hZ.c0
        have c1' := hZ.c1
        have c2' := hZ.c2
        have c3' := hZ.c3
        have z0 := hZ.fz 0
        have z1 := hZ.fz 1
        have z2 := hZ.fz 2
        have z3 := hZ.fz 3
        clear hK hZ
        rcases hag with ⟨rfl, ho⟩ | ⟨rfl, ho⟩
        · have hr := HR.out
          rw [ho] at hr
          have HR' : Hid (seqF b last = (⟨a, k1, k2, k3⟩, (n : Int) + 1)) := Lib.hid (by rw [hr]; exact seqPick_yes (.inl HQ.out))
          clear hr ho
          go_wp2_with fail
          rw [HR'.out]
          exact bodyPost_ret (res_set rfl _ _ w.heap.size ⟨a, k1, k2, k3⟩ _ rfl rfl HZ.out) rfl ⟨rfl, by go_grown⟩
        · have hr := HR.out
          rw [ho] at hr
          have HR' := Lib.hid hr
          clear hr ho
          go_wp2_with fail
          rw [HR'.out]
          exact bodyPost_ret (res_set rfl _ _ w.heap.size ⟨5, 0, 0, 0⟩ _ rfl rfl HZ.out) rfl ⟨rfl, by go_grown⟩
  case first =>
    have he : seqEnd b = 2 := by
      unfold seqEnd
      exact seq_stop (b := b) (k := 2) (by omega) (fun h => by have := HQ.out; omega)
    have HE := Lib.hid he
    clear he
    go_wp2_with fail
    go_meet
    exact ⟨by rw [HE.out]; rfl, rfl⟩
  case rest =>
    obtain ⟨rfl, rfl⟩ := hcut
    obtain ⟨n2, n12, nb⟩ := seqEnd_bd h2
    have hr : seqF b last = (if seqEnd b = b.size then (if last = true then (keyEsc, 1) else (key0, 0)) else seqPick b (seqEnd b) (toldF (b.extract 2 (seqEnd b)) (byt b (seqEnd b)))) := rfl
    have HKO : Hid (∀ (last : Int), 0 ≤ last ∧ last < 256 → ∀ w, Gl w → Lib.TabIs Tryd.prog w "internal/strconv.uint64pow10" .u64 Lib.pow10Tab → Calls Tryd.prog 60 #[.string (b.extract 2 (seqEnd b)), .int .u8 last] w (KPost (toldF (b.extract 2 (seqEnd b)) last) w)) :=
      Lib.hid (fun last h8 w hg ht => keyOf_seq h2 h8 w hg ht)
    generalize seqEnd b = n at *
    by_cases hn : n = b.size
    · rw [if_pos hn] at hr
      subst hn
      cases last with
      | true =>
        have HR := Lib.hid hr
        clear hr
        go_wp2_with fail
        rw [HR.out]
        go_returns
        exact ⟨rfl, by go_grown⟩
      | false =>
        have HR := Lib.hid hr
        clear hr
        go_wp2_with fail
        rw [HR.out]
        go_returns
        exact ⟨rfl, by go_grown⟩
    · rw [if_neg hn] at hr
      have hlt : n < b.size := by omega
      have EN := Lib.hid (byt_at hlt)
      have hbn := byt_lo b n
      have HC : Hid (∀ w, Gl w → Lib.TabIs Tryd.prog w "internal/strconv.uint64pow10" .u64 Lib.pow10Tab → Calls Tryd.prog 60 #[.string (b.extract 2 n), .int .u8 ((b[n]'hlt).toNat : Int)] w (KPost (toldF (b.extract 2 n) (byt b n)) w)) := Lib.hid (fun w hg ht => by rw [EN.out]; exact HKO.out _ hbn w hg ht)
      generalize toldF (b.extract 2 n) (byt b n) = o at *
      have HR := Lib.hid hr
      clear hr hn hbn HKO
      go_upto_region 40 with fail
      go_cut [11, 12] (KeyCut2 w o)
      case first =>
        have hk0 : (0 : Int) ≤ n := by omega
        go_region_with ((go_at_call 60; refine (HC.out _ (HG.out.below (by go_grown)) (HTB.out _ (by go_grown))).mono ?_; rintro e w1 ⟨a, k1, k2, k3, ok, rfl, hag, hb⟩; have HAG := Lib.hid hag; obtain ⟨hcc, hff⟩ := bcell hb; have hB1 : Below w.heap.size w w1 := bt (by go_grown) hb; have hz1 : w.heap.size < w1.heap.size := by (have := hb.size; simp at this; omega)))
        all_goals
          go_wp2_with fail
          go_meet
          refine ⟨a, k1, k2, k3, ok, HAG.out, ?_⟩
          first
            | ((with_reducible refine keyCutA ?_ ?_)
               · exact Zero4.below (Zero4.drew (Zero4.new w)) hb
               · exact hB1)
            | ((with_reducible refine keyCutB ?_ ?_ ?_ ?_)
               · exact Zero4.below (Zero4.drew (Zero4.alloc (Zero4.new w) _)) hb
               · exact Zero4.below (Zero4.drew (Zero4.new2 w _)) hb
               · exact hB1
               · omega)
      case rest =>
        obtain ⟨a, k1, k2, k3, ok, hag, q, rfl, rfl, hK, hZ, hB, hq⟩ := hcut
        obtain ⟨e0, e1, e2, e3⟩ := hK.cells
        have hz : w.heap.size < wc.heap.size := (Array.getElem?_eq_some_iff.1 hZ).1
        have HZ := Lib.hid hZ
        have c0 := hZ.c0
        have c1' := hZ.c1
        have c2' := hZ.c2
        have c3' := hZ.c3
        have z0 := hZ.fz 0
        have z1 := hZ.fz 1
        have z2 := hZ.fz 2
        have z3 := hZ.fz 3
        clear hK hZ
        rcases hag with ⟨rfl, ho⟩ | ⟨rfl, ho⟩
        · have hr := HR.out
          rw [ho] at hr
          by_cases hlet : 6 ≤ a ∧ a ≤ 11
          · obtain ⟨ha6, ha11⟩ := hlet
            have HR' : Hid (seqF b last = (⟨a, k1, k2, k3⟩, (n : Int) + 1)) := Lib.hid (by rw [hr]; exact seqPick_yes (.inr ((letter_range a).2 ⟨ha6, ha11⟩)))
            have p6 : decide (6 ≤ a) = true := by simpa using ha6
            have p11 : decide (a ≤ 11) = true := by simpa using ha11
            clear hr ho
            go_wp2_with fail
            rw [HR'.out]
            exact bodyPost_ret (res_set rfl _ _ w.heap.size ⟨a, k1, k2, k3⟩ _ rfl rfl HZ.out) rfl ⟨rfl, by go_grown⟩
          · have HR' : Hid (seqF b last = (keyEsc, 1)) := Lib.hid (by rw [hr]; exact seqPick_no (by rintro (h | h); have := HQ.out; omega; exact hlet ((letter_range a).1 h)))
            have hsp : decide (6 ≤ a) = false ∨ (decide (6 ≤ a) = true ∧ decide (a ≤ 11) = false) := by simp; omega
            clear hr ho hlet
            rcases hsp with p6 | ⟨p6, p11⟩
            all_goals
              go_wp2_with fail
              rw [HR'.out]
              exact bodyPost_ret (res_set rfl _ _ w.heap.size ⟨5, 0, 0, 0⟩ _ rfl rfl HZ.out) rfl ⟨rfl, by go_grown⟩
        · have hr := HR.out
          rw [ho] at hr
          have HR' := Lib.hid hr
          clear hr ho
          go_wp2_with fail
          rw [HR'.out]
          exact bodyPost_ret (res_set rfl _ _ w.heap.size ⟨5, 0, 0, 0⟩ _ rfl rfl HZ.out) rfl ⟨rfl, by go_grown⟩
end Go.Proofs.YtampklajoikbiaaDoor
