/- The closed fact 'struck', second part: keys.Read of one text. -/
import Derived.Test.YtampklajoikbiaaDoorSa
import Derived.Test.YtampklajoikbiaaDoorSb
import Derived.Test.YtampklajoikbiaaDoorKc
import Derived.Test.YtampklajoikbiaaDoorPKeysReadx7
set_option linter.unusedVariables false
set_option linter.unusedSimpArgs false
namespace Go.Proofs.YtampklajoikbiaaDoor
open Go.RowKit Go.Proofs.YtampklajoikbiaaDoorW.PrintWords PKeysRead
theorem info23 : (Tryd.prog.info? 23).map (fun i => (i.zero, i.size, i.bytes)) = some (some (.agg #[.int .i64 0, .int .i32 0, .int .i64 0, .int .i64 0]), 4, 32) := by kernel_rfl

def ReadPost (w : World) (e : Ending) (w' : World) : Prop := ∃ v, e = .returned (.tuple #[v, .string ⟨#[27]⟩, .int .i64 0]) ∧ Below w.heap.size w w' ∧ k23.R 23 w' w.heap.size (fun _ => True) v [⟨6, 0, 0, 4⟩, ⟨1, 113, 0, 0⟩]
theorem hex6 : (⟨#[27, 91, 49, 59, 53, 65, 113, 27]⟩ : ByteArray).extract 6 8 = ⟨#[113, 27]⟩ := rfl
theorem hex1 : (⟨#[113, 27]⟩ : ByteArray).extract 1 2 = ⟨#[27]⟩ := rfl
set_option maxRecDepth 100000 in
set_option maxHeartbeats 8000000 in
theorem readA (w : World) (hg : Gl w) : Calls Tryd.prog 12 #[.string ⟨#[27, 91, 49, 59, 53, 65, 113, 27]⟩, .bool false] w (ReadPost w) := by
  have HG := Lib.hid hg
  clear hg
  have h6 := hex6
  have h1 := hex1
  go_enter Tryd.func12, Tryd.ntmps12
  go_wp2
  generalize hu : Value.slice none 0 0 = u
  have HO0 : Hid (k23.R 23 w w.heap.size (fun _ => True) u []) := Lib.hid (by rw [← hu]; exact Kd.R_nil _ _ _ _ _)
  clear hu
  refine wp_loop_rounds 3 ?_
  rw [rounds_succ]
  go_wp2_with (first
    | ((with_reducible refine gate_builtin (b := .append) (xs := #[.tmp 23, .tmp 25]) rfl ?_); at_builtin; refine Kd.R_append k23 (w0 := w) w.heap.size rfl (.tmp 23) (.tmp 25) 31 23 (.agg #[.int .i64 0, .int .i32 0, .int .i64 0, .int .i64 0]) 32 rfl Tryd.underlying31 info23 rfl (by decide) (by omega) u [] ⟨6, 0, 0, 4⟩ [.int .i64 (⟨6, 0, 0, 4⟩ : S23).f0, .int .i32 (⟨6, 0, 0, 4⟩ : S23).f1, .int .i64 (⟨6, 0, 0, 4⟩ : S23).f2, .int .i64 (⟨6, 0, 0, 4⟩ : S23).f3] (fun _ => True) (fun _ => False) rfl ?aX ?aP (fun _ hk => hk.elim) ?aF ?aO ?aB ?aS ?aL ?_; (case aX => first | rfl | (show Value.slice (some ⟨w1.heap.size + 1, 0, none⟩) 1 1 = _; simp)); (case aP => exact k23_mkM _ _ _ _); (case aB => exact (by repeat (first | (with_reducible first | exact hB1 | apply below_alloc | apply pw_below_drewN | apply below_drew1) | exact hB1))); (case aF => exact (fun _ _ => trivial)); (case aO => exact (by (with_reducible repeat (first | apply Kd.R_alloc | apply Kd.R_drewN | apply Kd.R_drew)); exact Kd.R_below HO0.out hB1)); (case aS => exact (below_size (by repeat (first | (with_reducible first | exact hB1 | apply below_alloc | apply pw_below_drewN | apply below_drew1) | exact hB1)))); (case aL => decide); intro v1 w2 ho hb hg hat; have HO1 := Lib.hid ho; have hB2 := hb; clear ho hb hg hat)
    | (go_at_call 37; refine (firstA _ (HG.out.below (by go_grown))).mono ?_; rintro e w1 ⟨rfl, hb⟩; have hB1 : Below w.heap.size w w1 := bt (by go_grown) hb; have hRw1 := hb; clear hb))
  rw [rounds_succ]
  go_wp2_with (first
    | ((with_reducible refine gate_builtin (b := .append) (xs := #[.tmp 23, .tmp 25]) rfl ?_); at_builtin; refine Kd.R_append k23 (w0 := w) w.heap.size rfl (.tmp 23) (.tmp 25) 31 23 (.agg #[.int .i64 0, .int .i32 0, .int .i64 0, .int .i64 0]) 32 rfl Tryd.underlying31 info23 rfl (by decide) (by omega) v1 [⟨6, 0, 0, 4⟩] ⟨1, 113, 0, 0⟩ [.int .i64 (⟨1, 113, 0, 0⟩ : S23).f0, .int .i32 (⟨1, 113, 0, 0⟩ : S23).f1, .int .i64 (⟨1, 113, 0, 0⟩ : S23).f2, .int .i64 (⟨1, 113, 0, 0⟩ : S23).f3] (fun _ => True) (fun _ => False) rfl ?aX ?aP (fun _ hk => hk.elim) ?aF ?aO ?aB ?aS ?aL ?_; (case aX => first | rfl | (show Value.slice (some ⟨w3.heap.size + 1, 0, none⟩) 1 1 = _; simp)); (case aP => exact k23_mkM _ _ _ _); (case aB => exact (by repeat (first | (with_reducible first | exact hB3 | apply below_alloc | apply pw_below_drewN | apply below_drew1) | exact hB3))); (case aF => exact (fun _ _ => trivial)); (case aO => exact (by (with_reducible repeat (first | apply Kd.R_alloc | apply Kd.R_drewN | apply Kd.R_drew)); exact HO2.out)); (case aS => exact (below_size (by repeat (first | (with_reducible first | exact hB3 | apply below_alloc | apply pw_below_drewN | apply below_drew1) | exact hB3)))); (case aL => decide); intro v2 w4 ho hb hg hat; have HO3 := Lib.hid ho; have hB4 := hb; clear ho hb hg hat)
    | (go_at_call 37; refine (firstQ _ (HG.out.below hB2)).mono ?_; rintro e w3 ⟨rfl, hb⟩; have hB3 : Below w.heap.size w w3 := bt hB2 hb; have HO2 : Hid (k23.R 23 w3 w.heap.size (fun _ => True) v1 [⟨6, 0, 0, 4⟩]) := Lib.hid (Kd.R_below HO1.out hb); clear hb))
  rw [rounds_succ]
  go_wp2_with (go_at_call 37; refine (firstE _).mono ?_; rintro e w5 ⟨rfl, hb⟩; have hB5 : Below w.heap.size w w5 := bt hB4 hb; have HO5 : Hid (k23.R 23 w5 w.heap.size (fun _ => True) v2 [⟨6, 0, 0, 4⟩, ⟨1, 113, 0, 0⟩]) := Lib.hid (Kd.R_below HO3.out hb); clear hb)
  first | go_ret3 | go_returns
  exact ⟨v2, rfl, (by repeat (first | (with_reducible first | exact hB5 | apply below_alloc | apply pw_below_drewN | apply below_drew1) | exact hB5)), by (with_reducible repeat (first | apply Kd.R_alloc | apply Kd.R_drewN | apply Kd.R_drew)); exact HO5.out⟩

theorem kbA : kb 6 0 0 4 true = ⟨#[27, 91, 49, 59, 53, 65]⟩ := by kernel_rfl
theorem chkA : chk ⟨6, 0, 0, 4⟩ = true := by kernel_rfl
theorem WriteA (w : World) : Calls Tryd.prog 7 #[.agg #[.int .i64 6, .int .i32 0, .int .i64 0, .int .i64 4], .bool true] w fun e w' => e = .returned (.tuple #[.string ⟨#[27, 91, 49, 59, 53, 65]⟩, .int .i64 0]) ∧ Below w.heap.size w w' := by
  have h := Write_ok 6 0 0 4 true w chkA
  rw [kbA] at h
  exact h
theorem C_two (w : World) (p q : S23) : Kd.C k23 (w.alloc (.cells #[.int .i64 p.f0, .int .i32 p.f1, .int .i64 p.f2, .int .i64 p.f3, .int .i64 q.f0, .int .i32 q.f1, .int .i64 q.f2, .int .i64 q.f3] 23)) (some ⟨w.heap.size, 0, none⟩) 2 [p, q] := by
  refine ⟨rfl, by decide, fun _ => ⟨_, rfl, fun j r hr => ?_⟩⟩
  have hc : ∀ k, (w.alloc (.cells #[.int .i64 p.f0, .int .i32 p.f1, .int .i64 p.f2, .int .i64 p.f3, .int .i64 q.f0, .int .i32 q.f1, .int .i64 q.f2, .int .i64 q.f3] 23)).cell? ((⟨w.heap.size, 0, none⟩ : Addr).add k) = [.int .i64 p.f0, .int .i32 p.f1, .int .i64 p.f2, .int .i64 p.f3, .int .i64 q.f0, .int .i32 q.f1, .int .i64 q.f2, .int .i64 q.f3][k]? := fun k => by
    rw [add_plain, cell_of_row _ _ k _ _ _ (heap_alloc_new w _)]
    simp
  rcases j with _ | _ | j
  · injection hr with hr; subst hr
    refine ⟨_, rfl, k23_mk _ _, fun i u hi => ?_⟩
    rw [hc]
    rcases i with _ | _ | _ | _ | i <;> first | exact hi | (simp at hi)
  · injection hr with hr; subst hr
    refine ⟨_, rfl, k23_mk _ _, fun i u hi => ?_⟩
    rw [hc]
    rcases i with _ | _ | _ | _ | i <;> first | exact hi | (simp at hi)
  · simp at hr
theorem eqA : api_Key.f 10 [⟨6, 0, 0, 4⟩, ⟨1, 113, 0, 0⟩] [⟨6, 0, 0, 4⟩, ⟨1, 113, 0, 0⟩] = some true := by kernel_rfl
set_option maxRecDepth 100000 in
set_option maxHeartbeats 8000000 in
theorem struck_calls (w : World) (hg : Gl w) : Calls Tryd.prog 9 #[] w fun e w' => e = .returned (.bool true) ∧ Below w.heap.size w w' := by
  have HG := Lib.hid hg
  clear hg
  go_enter Tryd.func9, Tryd.ntmps9
  go_wp2_with (first
    | (go_at_call 7; refine (WriteA _).mono ?_; rintro e w1 ⟨rfl, hb⟩; have hB1 : Below w.heap.size w w1 := bt (by go_grown) hb; clear hb)
    | (go_at_call 12; refine (readA _ (HG.out.below (by first | exact hB1 | go_grown))).mono ?_; rintro e w2 ⟨v, rfl, hb, hR⟩; have hR2 := Lib.hid hR; have hB2 : Below w.heap.size w w2 := bt hB1 hb; clear hb hR)
    | (go_at_call 14; (obtain ⟨A, c, rfl, hlc, hC⟩ := Kd.R_reads hR2.out); refine (api_Key.calls 10 A c [⟨6, 0, 0, 4⟩, ⟨1, 113, 0, 0⟩] (some ⟨w2.heap.size, 0, none⟩) 2 [⟨6, 0, 0, 4⟩, ⟨1, 113, 0, 0⟩] true _ (Kd.C_alloc hC _) hlc (C_two w2 ⟨6, 0, 0, 4⟩ ⟨1, 113, 0, 0⟩) (Nat.le_refl _) eqA).mono ?_; rintro e w3 ⟨rfl, hd⟩; have hD := Lib.hid hd; clear hd hC hR2))
  go_ret
  exact ⟨rfl, bt (below_alloc hB2 _) hD.out.below⟩
end Go.Proofs.YtampklajoikbiaaDoor
