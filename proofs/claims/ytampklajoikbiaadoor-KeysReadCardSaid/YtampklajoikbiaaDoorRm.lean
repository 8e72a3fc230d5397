import Derived.Test.YtampklajoikbiaaDoorRd
import Derived.Test.YtampklajoikbiaaDoorVm
import Derived.Deep.RegionLaw
/- trellisref.firstKey, whole; ReadKeys. -/
set_option linter.unusedVariables false
set_option linter.unusedSimpArgs false
namespace Go.Proofs.YtampklajoikbiaaDoor
open Go.RowKit Go.Proofs.YtampklajoikbiaaDoorW.PrintWords PKeysRead

set_option maxRecDepth 100000 in
set_option maxHeartbeats 8000000 in
theorem firstKey_calls (b : ByteArray) (last : Bool) (w : World) (hg : Gl w) (htab : Lib.TabIs Tryd.prog w "internal/strconv.uint64pow10" .u64 Lib.pow10Tab) (h1 : 1 ≤ b.size) (hs : b.size ≤ 1000000) :
    Calls Tryd.prog 38 #[.string b, .bool last] w (FPost (firstF b last) w) := by
  by_cases hne : byt b 0 ≠ 27
  · rw [firstF_n hne]
    exact fkN_calls b last w hg h1 hs hne
  · have HG := Lib.hid hg
    have HTB := Lib.hid htab
    clear hg htab
    have hb0 : 0 < b.size := by omega
    have E0 := Lib.hid (byt_at hb0)
    have q0 : (((b[0]'hb0).toNat : Int) != 27) = false := by rw [E0.out]; simpa using hne
    by_cases hz : b.size = 1
    · have hr := firstF_esc (last := last) hne hz
      have HR := Lib.hid hr
      have qz : ((b.size : Int) == 1) = true := beq_iff_eq.2 (by omega)
      clear hr hne hz
      cases last with
      | true =>
        go_enter Tryd.func38, Tryd.ntmps38
        go_wp2_with fail
        rw [HR.out]
        go_returns
        exact ⟨rfl, by go_grown⟩
      | false =>
        go_enter Tryd.func38, Tryd.ntmps38
        go_wp2_with fail
        rw [HR.out]
        go_returns
        exact ⟨rfl, by go_grown⟩
    · have qz : ((b.size : Int) == 1) = false := beq_eq_false_iff_ne.2 (by omega)
      have hb1 : 1 < b.size := by omega
      have E1 := Lib.hid (byt_at hb1)
      by_cases hq : byt b 1 = 91 ∨ byt b 1 = 79
      · rw [firstF_seq hne hz hq]
        exact fk_seq b last w HG.out HTB.out (by omega) hs (by omega) hq
      · have q1 : (((b[1]'hb1).toNat : Int) == 91) = false := by rw [E1.out]; simp; omega
        have q2 : (((b[1]'hb1).toNat : Int) == 79) = false := by rw [E1.out]; simp; omega
        by_cases hq2 : byt b 1 = 27 ∨ byt b 1 = 9
        · have HR := Lib.hid (firstF_two (last := last) hne hz hq hq2)
          have hsp : (((b[1]'hb1).toNat : Int) == 27) = true ∨ (((b[1]'hb1).toNat : Int) == 27) = false ∧ (((b[1]'hb1).toNat : Int) == 9) = true := by
            rw [E1.out]; simp; omega
          clear hne hq hz hq2
          rcases hsp with q3 | ⟨q3, q4⟩
          all_goals
            go_enter Tryd.func38, Tryd.ntmps38
            go_wp2_with fail
            rw [HR.out]
            go_returns
            exact ⟨rfl, by go_grown⟩
        · have q3 : (((b[1]'hb1).toNat : Int) == 27) = false := by rw [E1.out]; simp; omega
          have q4 : (((b[1]'hb1).toNat : Int) == 9) = false := by rw [E1.out]; simp; omega
          have hr := firstF_alt (last := last) hne hz hq hq2
          have hts : 0 < (b.extract 1 b.size).size := by rw [ByteArray.size_extract]; omega
          have hnt : byt (b.extract 1 b.size) 0 ≠ 27 := by rw [byt_tail hb1]; omega
          obtain ⟨hn0, hn1, hnz, hf⟩ := firstN_bd (last := last) hts
          have HS : Hid (∀ w, Gl w → Calls Tryd.prog 38 #[.string (b.extract 1 b.size), .bool last] w (FPost (firstN (b.extract 1 b.size) last) w)) := Lib.hid (fun w hg => fkN_calls _ last w hg (by omega) (by rw [ByteArray.size_extract]; omega) hnt)
          have hts2 : (b.extract 1 b.size).size ≤ b.size := by rw [ByteArray.size_extract]; omega
          clear hnt hne hq hz hq2
          generalize firstN (b.extract 1 b.size) last = p at *
          obtain ⟨⟨a, c1, c2, d⟩, n⟩ := p
          simp only at hn0 hn1 hnz hf
          by_cases h0 : n = 0
          · have hpz := hnz h0
            injection hpz with hk hn
            injection hk with e0 e1 e2 e3
            subst e0; subst e1; subst e2; subst e3; subst hn
            have HR := Lib.hid (hr.trans (altP_zero rfl))
            clear hr hnz hf h0
            go_enter Tryd.func38, Tryd.ntmps38
            go_wp2_with (go_at_call 38; refine (HS.out _ (HG.out.below (by go_grown))).mono ?_; rintro e w1 ⟨rfl, hb⟩; unfold kv; have hB1 : Below w.heap.size w w1 := bt (by go_grown) hb; have hZ1 : Hid (Zero4 w.heap.size w1) := Lib.hid ((Zero4.new w).below hb); have hz1 : w.heap.size < w1.heap.size := (Array.getElem?_eq_some_iff.1 hZ1.out).1; clear hb; have c0 := hZ1.out.c0; have c1' := hZ1.out.c1; have c2' := hZ1.out.c2; have c3 := hZ1.out.c3; have z0 := hZ1.out.fz 0; have z1 := hZ1.out.fz 1; have z2 := hZ1.out.fz 2; have z3 := hZ1.out.fz 3)
            rw [HR.out]
            exact endAk rfl w w1 _ _ 0 0 0 0 0 rfl rfl hZ1.out hB1 hz1
          · have q5 : (n == 0) = false := beq_eq_false_iff_ne.2 h0
            have hr2 := hr.trans (altP_more h0)
            have hor0 : bits .or .i64 0 2 = 2 := by decide
            have hor4 : bits .or .i64 4 2 = 6 := by decide
            rcases hf with rfl | rfl
            · have HR : Hid (firstF b last = (⟨a, c1, c2, 2⟩, n + 1)) := Lib.hid (hr2.trans rfl)
              clear hr hr2 hnz h0
              go_enter Tryd.func38, Tryd.ntmps38
              go_wp2_with (go_at_call 38; refine (HS.out _ (HG.out.below (by go_grown))).mono ?_; rintro e w1 ⟨rfl, hb⟩; unfold kv; have hB1 : Below w.heap.size w w1 := bt (by go_grown) hb; have hZ1 : Hid (Zero4 w.heap.size w1) := Lib.hid ((Zero4.new w).below hb); have hz1 : w.heap.size < w1.heap.size := (Array.getElem?_eq_some_iff.1 hZ1.out).1; clear hb; have c0 := hZ1.out.c0; have c1' := hZ1.out.c1; have c2' := hZ1.out.c2; have c3 := hZ1.out.c3; have z0 := hZ1.out.fz 0; have z1 := hZ1.out.fz 1; have z2 := hZ1.out.fz 2; have z3 := hZ1.out.fz 3)
              rw [HR.out]
              exact endAk rfl w w1 _ _ a c1 c2 2 (n + 1) rfl rfl hZ1.out hB1 hz1
            · have HR : Hid (firstF b last = (⟨a, c1, c2, 6⟩, n + 1)) := Lib.hid (hr2.trans rfl)
              clear hr hr2 hnz h0
              go_enter Tryd.func38, Tryd.ntmps38
              go_wp2_with (go_at_call 38; refine (HS.out _ (HG.out.below (by go_grown))).mono ?_; rintro e w1 ⟨rfl, hb⟩; unfold kv; have hB1 : Below w.heap.size w w1 := bt (by go_grown) hb; have hZ1 : Hid (Zero4 w.heap.size w1) := Lib.hid ((Zero4.new w).below hb); have hz1 : w.heap.size < w1.heap.size := (Array.getElem?_eq_some_iff.1 hZ1.out).1; clear hb; have c0 := hZ1.out.c0; have c1' := hZ1.out.c1; have c2' := hZ1.out.c2; have c3 := hZ1.out.c3; have z0 := hZ1.out.fz 0; have z1 := hZ1.out.fz 1; have z2 := hZ1.out.fz 2; have z3 := hZ1.out.fz 3)
              rw [HR.out]
              exact endAk rfl w w1 _ _ a c1 c2 6 (n + 1) rfl rfl hZ1.out hB1 hz1
end Go.Proofs.YtampklajoikbiaaDoor

/- trellisref.ReadKeys. -/
set_option linter.unusedVariables false
set_option linter.unusedSimpArgs false
namespace Go.Proofs.YtampklajoikbiaaDoor
open Go.RowKit Go.Proofs.YtampklajoikbiaaDoorW.PrintWords PKeysRead

theorem step_append_key {ops : Array Oper} {o : Oper} {a : Act} {Q : Exit → Act → World → Prop} {Kc : Act → World → Prop} {w0 W' : World} (W : World) (base : Nat) (hgd : o.guard = none) (s x : Operand)
    (ho : o.op = .call { callee := .builtin .append, args := #[s, x], argTypes := #[31, 31] }) (v : Value) (xs : List Key) (p : Key) (g : Nat) (hs : a.eval s = v) (hx : a.eval x = .slice (some ⟨g, 0, none⟩) 1 1) (hgW : W.heap.size = g) (hW' : W' = W.alloc (.cells #[.int .i64 p.f0, .int .i32 p.f1, .int .i64 p.f2, .int .i64 p.f3] 23))
    (HO : k23.R 23 W base (fun _ => True) v xs) (HB : Below base w0 W) (hbase : base ≤ W.heap.size) (hl : (xs.length + 1) * 32 ≤ 140737488355328)
    (h : ∀ v1 w1, k23.R 23 w1 base (fun _ => True) v1 (xs ++ [p]) → Below base w0 w1 → W.grownBy w1 v.ownBlock → (v1.ownBlock = v.ownBlock ∨ ∃ b, v1.ownBlock = some b ∧ W.heap.size ≤ b) → Kc (a.put o.dst v1) w1) :
    if Region.wanted o (yielded ops a.tmps) = true then Oper.wp Tryd.prog o a W' Kc Q else Kc (a.put o.dst undef) W' := by
  subst hW'
  exact Kd.R_append_step k23 (w0 := w0) base (by simp [Region.wanted, hgd]) s x 31 23 (.agg #[.int .i64 0, .int .i32 0, .int .i64 0, .int .i64 0]) 32 ho Tryd.underlying31 info23' rfl (by decide) (by omega) v xs p [.int .i64 p.f0, .int .i32 p.f1, .int .i64 p.f2, .int .i64 p.f3] (fun _ => True) (fun _ => False) hs (by rw [hx, hgW]) (k23_mkM _ _ _ _) (fun _ hk => hk.elim) (fun _ _ => trivial) HO HB hbase hl h
def ReadIs2 (w : World) (last : Bool) (b : ByteArray) (e : Ending) (w' : World) : Prop := ∃ v, e = .returned (.tuple #[v, .string (readR last b).2]) ∧ OwnK w w' v (readR last b).1 ∧ Below w.heap.size w w'
theorem readIs2_mk {w W : World} {last : Bool} {b c : ByteArray} {v : Value} {xs : List Key} (hr : readR last b = (xs ++ (readR last c).1, (readR last c).2)) (hc : readR last c = ([], c)) (hO : OwnK w W v xs) (hB : Below w.heap.size w W) :
    ReadIs2 w last b (.returned (.tuple #[v, .string c])) W := by
  rw [hc] at hr
  refine ⟨v, by rw [hr], ?_, hB⟩
  rw [hr]
  simpa using hO

set_option maxRecDepth 100000 in
set_option maxHeartbeats 8000000 in
theorem ReadKeys_calls (b : ByteArray) (last : Bool) (w : World) (hg : Gl w) (htab : Lib.TabIs Tryd.prog w "internal/strconv.uint64pow10" .u64 Lib.pow10Tab) (hs : b.size ≤ 4000) :
    Calls Tryd.prog 13 #[.string b, .bool last] w (ReadIs2 w last b) := by
  have HG := Lib.hid hg
  have HTB : Hid (∀ w', Below w.heap.size w w' → Lib.TabIs Tryd.prog w' "internal/strconv.uint64pow10" .u64 Lib.pow10Tab) := Lib.hid (fun w' hb => Go.Joins.tab_stays pow_at htab hb (Nat.le_refl _))
  clear hg htab
  go_enter Tryd.func13, Tryd.ntmps13
  go_wp2_with fail
  generalize hu : Value.slice none 0 0 = u
  have HO0 : Hid (OwnK w w u []) := Lib.hid (by rw [← hu]; exact Kd.R_nil _ _ _ _ _)
  clear hu
  go_loopw [0, 6] (readRel w last b) (fun s0 _ _ => strLen s0)
  case atStart => exact ⟨b, [], rfl, by simp, HO0.out, Below.refl _ _, rfl⟩
  case round =>
    obtain ⟨c, xs, rfl, hsz, hO, hB, hr⟩ := hrel
    have HO := Lib.hid hO
    have HR := Lib.hid hr
    clear hO hr
    by_cases hc : c.size = 0
    · have he := toList_empty hc
      have HC := Lib.hid hc
      clear hc
      go_wp2_with fail
      go_ret2
      exact readIs2_mk HR.out (readR_nil HC.out) HO.out hB
    · have he := toList_nonempty (s := c) (by omega)
      have hc0 : 0 < c.size := by omega
      have HS : Hid (∀ w, Gl w → Lib.TabIs Tryd.prog w "internal/strconv.uint64pow10" .u64 Lib.pow10Tab → Calls Tryd.prog 38 #[.string c, .bool last] w (FPost (firstF c last) w)) := Lib.hid (fun w hg ht => firstKey_calls c last w hg ht (by omega) (by omega))
      obtain ⟨hn0, hn1⟩ := firstF_bd (b := c) (last := last) hc0
      obtain ⟨p, hp⟩ : ∃ p, firstF c last = p := ⟨_, rfl⟩
      rw [hp] at hn0 hn1 HS
      obtain ⟨⟨a, c1, c2, d⟩, n⟩ := p
      simp only at hn0 hn1
      obtain ⟨m, rfl⟩ := Int.eq_ofNat_of_zero_le hn0
      have HP := Lib.hid hp
      clear hp hc
      by_cases hm : m = 0
      · subst hm
        go_wp2_with (go_at_call 38; refine (HS.out _ (HG.out.below hB) (HTB.out _ hB)).mono ?_; rintro e w1 ⟨rfl, hb⟩; unfold kv; have hB1 : Below w.heap.size w w1 := bt hB hb; have HO1 : Hid (OwnK w w1 _ xs) := Lib.hid (Kd.R_below HO.out hb); clear hb)
        go_ret2
        exact readIs2_mk HR.out (readR_stop hc0 (by rw [HP.out]; rfl)) (Kd.R_alloc HO1.out _) (below_alloc hB1 _)
      · have qm : (((m : Nat) : Int) == 0) = false := beq_eq_false_iff_ne.2 (by omega)
        have hm0 : 0 < m := by omega
        clear hm
        go_wp2_with (go_at_call 38; refine (HS.out _ (HG.out.below hB) (HTB.out _ hB)).mono ?_; rintro e w1 ⟨rfl, hb⟩; unfold kv; have hB1 : Below w.heap.size w w1 := bt hB hb; have HO1 : Hid (OwnK w w1 _ xs) := Lib.hid (Kd.R_below HO.out hb); clear hb)
        have him : (m : Int) ≤ (c.size : Int) := hn1
        have h0m : (0 : Int) ≤ (m : Int) := hn0
        go_region_law (refine step_append_key (w0 := w) ((w1.alloc (.cells #[.int .i64 a, .int .i32 c1, .int .i64 c2, .int .i64 d] 23)).drew) w.heap.size rfl (.tmp 19) (.tmp 21) rfl _ xs ⟨a, c1, c2, d⟩ (w1.heap.size + 1) rfl rfl ?aW rfl ?aO ?aB ?aS ?aL ?_; (case aW => simp); (case aO => first | exact Kd.R_drew (Kd.R_alloc HO1.out _) | exact Kd.R_alloc HO1.out _); (case aB => first | exact below_drew (below_alloc hB1 _) | exact below_alloc hB1 _); (case aS => have := hB1.size; simp; omega); (case aL => omega); intro v1 w2 ho hb hg hat; have HO2 := Lib.hid ho; have hB2 := hb; clear ho hb hg hat)
        go_roundw
        case rel =>
          (repeat apply Exists.intro)
          exact ⟨readRel_next hsz HP.out hm0 (by omega) hc0 HO2.out hB2 HR.out, rfl⟩
        case measure => show (c.extract m c.size).size < c.size; rw [ByteArray.size_extract]; omega
end Go.Proofs.YtampklajoikbiaaDoor
