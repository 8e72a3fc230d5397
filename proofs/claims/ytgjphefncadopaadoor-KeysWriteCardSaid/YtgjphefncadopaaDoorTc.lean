/- keys.told: where no tilde ends it, something held. -/
import Derived.Test.YtgjphefncadopaaDoorTa
set_option linter.unusedVariables false
set_option linter.unusedSimpArgs false
namespace Go.Proofs.YtgjphefncadopaaDoor
open Go.RowKit Go.Proofs.YtgjphefncadopaaDoorW.PrintWords PKeysRead

set_option maxRecDepth 100000 in
set_option maxHeartbeats 8000000 in
theorem told_2c1 (s p0 p1 : ByteArray) (last : Int) (w : World) (hg : Gl w) (hs : s.size ≤ 1000000) (hp : partsOf s = [p0, p1]) (hsz : p0.size ≤ 1000000) (hsz1' : p1.size ≤ 1000000) (v : Int) (hv1 : Lib.atoiAll p1.data.toList = .ok v) (hv0 : 1 ≤ v) (hv8 : v ≤ 8) (hE : s.toList.isEmpty = false) (ho : one48 p0 = true) (h90 : ¬ last = 90) (h126 : ¬ last = 126) :
    Calls Tryd.prog 73 #[.string s, .int .u8 last] w (TPost (told2 s p0 2 last (v - 1)) w) := by
  have HG := Lib.hid hg
  have HP := Lib.hid hp
  clear hg hp
  have HV1 := Lib.hid hv1
  clear hv1
  have h90' : ¬ (last = 90 ∧ s.toList.isEmpty = true) := fun h => h90 h.1
  have HN := Lib.hid h90'
  clear h90'
  have ho' : (Lib.trimLeftB p0.data.toList 48 == [49]) = true := ho
  have hC : condC s p0 2 = true := (condC_2 hE).trans ho
  have HC := Lib.hid hC
  clear hC ho
  go_enter Tryd.func73, Tryd.ntmps73
  go_wp2_with (first | (go_at_call 45; refine (split_calls s hs _ (HG.out.below (by go_grown))).mono ?_; rintro e w1 ⟨rfl, hcell, hsz1, hb⟩; rw [HP.out] at hcell; rw [HP.out]; have h0 := hcell 0 _ rfl; rw [World.size_alloc] at h0; have h1 := hcell 1 _ rfl; rw [World.size_alloc] at h1; obtain ⟨hcc, hff⟩ := bcell hb; have hB1 : Below w.heap.size w w1 := bt (by go_grown) hb; have hG1 : Hid (Gl w1) := Lib.hid ((HG.out.below (by go_grown)).below hb); have hz1 : w.heap.size < w1.heap.size := (by have := hsz1; simp at this; omega); have hZ1 : Hid (Zero4 w.heap.size w1) := Lib.hid ((Zero4.new w).below hb); clear hcell hsz1 hb) | (go_at_call 48; refine (atoi_ok p1 hsz1' v HV1.out _).mono ?_; rintro e w2 ⟨rfl, hb2⟩; have h0' := pw_cell_below hb2 h0; have hB2 : Below w.heap.size w w2 := bt (by go_grown) hb2; have hG2 : Hid (Gl w2) := Lib.hid (hG1.out.below hb2); have hZ2 : Hid (Zero4 w.heap.size w2) := Lib.hid (hZ1.out.below hb2); clear hb2 hcc hff h0 h1; have c0_2 := hZ2.out.c0; have c1_2 := hZ2.out.c1; have c2_2 := hZ2.out.c2; have c3_2 := hZ2.out.c3; have z0_2 := hZ2.out.fz 0; have z1_2 := hZ2.out.fz 1; have z2_2 := hZ2.out.fz 2; have z3_2 := hZ2.out.fz 3))
  go_loop [10] (rel1T (condC s p0 2) last) (fun i => 12 - (intOf i).toNat)
  case atStart => exact rel1T_0 _ _
  case round =>
    obtain ⟨k, hk0, hk1, rfl, hrel⟩ := hrel
    have HR := Lib.hid hrel
    clear hrel
    go_wp2_with (first | (go_at_call 29; refine (letter_calls k _).mono ?_; rintro e w3 ⟨rfl, rfl⟩) | (go_at_call 91; refine (trim_calls p0 _).mono ?_; rintro e w4 ⟨rfl, rfl⟩))
    all_goals first
      | (obtain ⟨f0, f1, f2, f3⟩ := set4 (W := w2) (g := w.heap.size) hZ2.out.c0 hZ2.out.c1 hZ2.out.c2 hZ2.out.c3; exact bodyPost_ret (res_key rfl _ _ w.heap.size ⟨k, 0, 0, (v - 1)⟩ _ rfl rfl f0 f1 f2 f3) rfl (tpost_some (told2_hit HN.out (srch_hit hk0 ‹k ≤ 11› HR.out ‹letterF k = last› HC.out)) (by go_grown)))
      | exact ⟨rel1T_next hk0 ‹k ≤ 11› HR.out (fun h => ‹¬ letterF k = last› h.1), by simp [intOf]; omega⟩
      | (obtain rfl : k = 12 := by omega
         (obtain ⟨f0, f1, f2, f3⟩ := set4 (W := w2) (g := w.heap.size) hZ2.out.c0 hZ2.out.c1 hZ2.out.c2 hZ2.out.c3; exact bodyPost_ret (res_key rfl _ _ w.heap.size ⟨0, 0, 0, 0⟩ _ rfl rfl f0 f1 f2 f3) rfl (tpost_none (told2_no HN.out (srch_end HR.out) h126) (by go_grown))))

set_option maxRecDepth 100000 in
set_option maxHeartbeats 8000000 in
theorem told_2c0 (s p0 p1 : ByteArray) (last : Int) (w : World) (hg : Gl w) (hs : s.size ≤ 1000000) (hp : partsOf s = [p0, p1]) (hsz : p0.size ≤ 1000000) (hsz1' : p1.size ≤ 1000000) (v : Int) (hv1 : Lib.atoiAll p1.data.toList = .ok v) (hv0 : 1 ≤ v) (hv8 : v ≤ 8) (hE : s.toList.isEmpty = false) (ho : one48 p0 = false) (h90 : ¬ last = 90) (h126 : ¬ last = 126) :
    Calls Tryd.prog 73 #[.string s, .int .u8 last] w (TPost (told2 s p0 2 last (v - 1)) w) := by
  have HG := Lib.hid hg
  have HP := Lib.hid hp
  clear hg hp
  have HV1 := Lib.hid hv1
  clear hv1
  have h90' : ¬ (last = 90 ∧ s.toList.isEmpty = true) := fun h => h90 h.1
  have HN := Lib.hid h90'
  clear h90'
  have ho' : (Lib.trimLeftB p0.data.toList 48 == [49]) = false := ho
  have hC : condC s p0 2 = false := (condC_2 hE).trans ho
  have HC := Lib.hid hC
  clear hC ho
  go_enter Tryd.func73, Tryd.ntmps73
  go_wp2_with (first | (go_at_call 45; refine (split_calls s hs _ (HG.out.below (by go_grown))).mono ?_; rintro e w1 ⟨rfl, hcell, hsz1, hb⟩; rw [HP.out] at hcell; rw [HP.out]; have h0 := hcell 0 _ rfl; rw [World.size_alloc] at h0; have h1 := hcell 1 _ rfl; rw [World.size_alloc] at h1; obtain ⟨hcc, hff⟩ := bcell hb; have hB1 : Below w.heap.size w w1 := bt (by go_grown) hb; have hG1 : Hid (Gl w1) := Lib.hid ((HG.out.below (by go_grown)).below hb); have hz1 : w.heap.size < w1.heap.size := (by have := hsz1; simp at this; omega); have hZ1 : Hid (Zero4 w.heap.size w1) := Lib.hid ((Zero4.new w).below hb); clear hcell hsz1 hb) | (go_at_call 48; refine (atoi_ok p1 hsz1' v HV1.out _).mono ?_; rintro e w2 ⟨rfl, hb2⟩; have h0' := pw_cell_below hb2 h0; have hB2 : Below w.heap.size w w2 := bt (by go_grown) hb2; have hG2 : Hid (Gl w2) := Lib.hid (hG1.out.below hb2); have hZ2 : Hid (Zero4 w.heap.size w2) := Lib.hid (hZ1.out.below hb2); clear hb2 hcc hff h0 h1; have c0_2 := hZ2.out.c0; have c1_2 := hZ2.out.c1; have c2_2 := hZ2.out.c2; have c3_2 := hZ2.out.c3; have z0_2 := hZ2.out.fz 0; have z1_2 := hZ2.out.fz 1; have z2_2 := hZ2.out.fz 2; have z3_2 := hZ2.out.fz 3))
  go_loop [10] (rel1T (condC s p0 2) last) (fun i => 12 - (intOf i).toNat)
  case atStart => exact rel1T_0 _ _
  case round =>
    obtain ⟨k, hk0, hk1, rfl, hrel⟩ := hrel
    have HR := Lib.hid hrel
    clear hrel
    go_wp2_with (first | (go_at_call 29; refine (letter_calls k _).mono ?_; rintro e w3 ⟨rfl, rfl⟩) | (go_at_call 91; refine (trim_calls p0 _).mono ?_; rintro e w4 ⟨rfl, rfl⟩))
    all_goals first
      | exact ⟨rel1T_next hk0 ‹k ≤ 11› HR.out (fun h => ‹¬ letterF k = last› h.1), by simp [intOf]; omega⟩
      | exact ⟨rel1T_next hk0 ‹k ≤ 11› HR.out (fun h => absurd (HC.out.symm.trans h.2) (by decide)), by simp [intOf]; omega⟩
      | (obtain rfl : k = 12 := by omega
         (obtain ⟨f0, f1, f2, f3⟩ := set4 (W := w2) (g := w.heap.size) hZ2.out.c0 hZ2.out.c1 hZ2.out.c2 hZ2.out.c3; exact bodyPost_ret (res_key rfl _ _ w.heap.size ⟨0, 0, 0, 0⟩ _ rfl rfl f0 f1 f2 f3) rfl (tpost_none (told2_no HN.out (srch_end HR.out) h126) (by go_grown))))
end Go.Proofs.YtgjphefncadopaaDoor
