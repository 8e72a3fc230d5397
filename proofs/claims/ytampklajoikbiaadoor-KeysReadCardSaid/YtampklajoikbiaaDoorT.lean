import Derived.Test.YtampklajoikbiaaDoorTa
import Derived.Test.YtampklajoikbiaaDoorGb
/- keys.told: where no tilde ends it, nothing held. -/
set_option linter.unusedVariables false
set_option linter.unusedSimpArgs false
namespace Go.Proofs.YtampklajoikbiaaDoor
open Go.RowKit Go.Proofs.YtampklajoikbiaaDoorW.PrintWords PKeysRead

set_option maxRecDepth 100000 in
set_option maxHeartbeats 8000000 in
theorem told_1ce (s p0 : ByteArray) (last : Int) (w : World) (hg : Gl w) (hs : s.size ≤ 1000000) (hp : partsOf s = [p0]) (hsz : p0.size ≤ 1000000) (hE : s.toList.isEmpty = true) (h90 : ¬ last = 90) (h126 : ¬ last = 126) :
    Calls Tryd.prog 73 #[.string s, .int .u8 last] w (TPost (told2 s p0 1 last 0) w) := by
  have HG := Lib.hid hg
  have HP := Lib.hid hp
  clear hg hp
  have h90' : ¬ (last = 90 ∧ s.toList.isEmpty = true) := fun h => h90 h.1
  have HN := Lib.hid h90'
  clear h90'
  have hC : condC s p0 1 = true := condC_nil hE
  have HC := Lib.hid hC
  clear hC
  go_enter Tryd.func73, Tryd.ntmps73
  go_wp2_with (go_at_call 45; refine (split_calls s hs _ (HG.out.below (by go_grown))).mono ?_; rintro e w1 ⟨rfl, hcell, hsz1, hb⟩; rw [HP.out] at hcell; rw [HP.out]; have h0 := hcell 0 _ rfl; rw [World.size_alloc] at h0; obtain ⟨hcc, hff⟩ := bcell hb; have hB1 : Below w.heap.size w w1 := bt (by go_grown) hb; have hG1 : Hid (Gl w1) := Lib.hid ((HG.out.below (by go_grown)).below hb); have hz1 : w.heap.size < w1.heap.size := (by have := hsz1; simp at this; omega); have hZ1 : Hid (Zero4 w.heap.size w1) := Lib.hid ((Zero4.new w).below hb); clear hcell hsz1 hb)
  go_loop [10] (rel1T (condC s p0 1) last) (fun i => 12 - (intOf i).toNat)
  case atStart => exact rel1T_0 _ _
  case round =>
    obtain ⟨k, hk0, hk1, rfl, hrel⟩ := hrel
    have HR := Lib.hid hrel
    clear hrel
    go_wp2_with (first | (go_at_call 29; refine (letter_calls k _).mono ?_; rintro e w3 ⟨rfl, rfl⟩) | (go_at_call 91; refine (trim_calls p0 _).mono ?_; rintro e w4 ⟨rfl, rfl⟩))
    all_goals first
      | (obtain ⟨f0, f1, f2, f3⟩ := set4 (W := w1) (g := w.heap.size) hZ1.out.c0 hZ1.out.c1 hZ1.out.c2 hZ1.out.c3; exact bodyPost_ret (res_key rfl _ _ w.heap.size ⟨k, 0, 0, 0⟩ _ rfl rfl f0 f1 f2 f3) rfl (tpost_some (told2_hit HN.out (srch_hit hk0 ‹k ≤ 11› HR.out ‹letterF k = last› HC.out)) (by go_grown)))
      | exact ⟨rel1T_next hk0 ‹k ≤ 11› HR.out (fun h => ‹¬ letterF k = last› h.1), by simp [intOf]; omega⟩
      | (obtain rfl : k = 12 := by omega
         (obtain ⟨f0, f1, f2, f3⟩ := set4 (W := w1) (g := w.heap.size) hZ1.out.c0 hZ1.out.c1 hZ1.out.c2 hZ1.out.c3; exact bodyPost_ret (res_key rfl _ _ w.heap.size ⟨0, 0, 0, 0⟩ _ rfl rfl f0 f1 f2 f3) rfl (tpost_none (told2_no HN.out (srch_end HR.out) h126) (by go_grown))))

set_option maxRecDepth 100000 in
set_option maxHeartbeats 8000000 in
theorem told_1cn (s p0 : ByteArray) (last : Int) (w : World) (hg : Gl w) (hs : s.size ≤ 1000000) (hp : partsOf s = [p0]) (hsz : p0.size ≤ 1000000) (hE : s.toList.isEmpty = false) (h90 : ¬ last = 90) (h126 : ¬ last = 126) :
    Calls Tryd.prog 73 #[.string s, .int .u8 last] w (TPost (told2 s p0 1 last 0) w) := by
  have HG := Lib.hid hg
  have HP := Lib.hid hp
  clear hg hp
  have h90' : ¬ (last = 90 ∧ s.toList.isEmpty = true) := fun h => h90 h.1
  have HN := Lib.hid h90'
  clear h90'
  have hC : condC s p0 1 = false := condC_1 hE
  have HC := Lib.hid hC
  clear hC
  go_enter Tryd.func73, Tryd.ntmps73
  go_wp2_with (go_at_call 45; refine (split_calls s hs _ (HG.out.below (by go_grown))).mono ?_; rintro e w1 ⟨rfl, hcell, hsz1, hb⟩; rw [HP.out] at hcell; rw [HP.out]; have h0 := hcell 0 _ rfl; rw [World.size_alloc] at h0; obtain ⟨hcc, hff⟩ := bcell hb; have hB1 : Below w.heap.size w w1 := bt (by go_grown) hb; have hG1 : Hid (Gl w1) := Lib.hid ((HG.out.below (by go_grown)).below hb); have hz1 : w.heap.size < w1.heap.size := (by have := hsz1; simp at this; omega); have hZ1 : Hid (Zero4 w.heap.size w1) := Lib.hid ((Zero4.new w).below hb); clear hcell hsz1 hb)
  go_loop [10] (rel1T (condC s p0 1) last) (fun i => 12 - (intOf i).toNat)
  case atStart => exact rel1T_0 _ _
  case round =>
    obtain ⟨k, hk0, hk1, rfl, hrel⟩ := hrel
    have HR := Lib.hid hrel
    clear hrel
    go_wp2_with (first | (go_at_call 29; refine (letter_calls k _).mono ?_; rintro e w3 ⟨rfl, rfl⟩) | (go_at_call 91; refine (trim_calls p0 _).mono ?_; rintro e w4 ⟨rfl, rfl⟩))
    all_goals first
      | exact ⟨rel1T_next hk0 ‹k ≤ 11› HR.out (fun h => ‹¬ letterF k = last› h.1), by simp [intOf]; omega⟩
      | exact ⟨rel1T_next hk0 ‹k ≤ 11› HR.out (fun h => absurd (HC.out.symm.trans h.2) (by decide)), by simp [intOf]; omega⟩
      | (obtain rfl : k = 12 := by omega
         (obtain ⟨f0, f1, f2, f3⟩ := set4 (W := w1) (g := w.heap.size) hZ1.out.c0 hZ1.out.c1 hZ1.out.c2 hZ1.out.c3; exact bodyPost_ret (res_key rfl _ _ w.heap.size ⟨0, 0, 0, 0⟩ _ rfl rfl f0 f1 f2 f3) rfl (tpost_none (told2_no HN.out (srch_end HR.out) h126) (by go_grown))))
end Go.Proofs.YtampklajoikbiaaDoor

/- keys.told: where no tilde ends it, something held. -/
set_option linter.unusedVariables false
set_option linter.unusedSimpArgs false
namespace Go.Proofs.YtampklajoikbiaaDoor
open Go.RowKit Go.Proofs.YtampklajoikbiaaDoorW.PrintWords PKeysRead

set_option maxRecDepth 100000 in
set_option maxHeartbeats 8000000 in
theorem told_2c1 (s p0 p1 : ByteArray) (last : Int) (w : World) (hg : Gl w) (hs : s.size ≤ 1000000) (hp : partsOf s = [p0, p1]) (hsz : p0.size ≤ 1000000) (hsz1' : p1.size ≤ 1000000) (v : Int) (hv1 : Lib.atoiAll p1.data.toList = .ok v) (hv0 : 1 ≤ v) (hv8 : v ≤ 8) (hE : s.toList.isEmpty = false) (ho : one48 p0 = true) (h90 : ¬ last = 90) (h126 : ¬ last = 126) :
    Calls Tryd.prog 73 #[.string s, .int .u8 last] w (TPost (told2 s p0 2 last (v - 1)) w) := by
  have HG := Lib.hid hg
  have HP := Lib.hid hp
  clear hg hp
  have HV1 := Lib.hid hv1
  clear hv1
  have h90' : ¬ (last = 90 ∧ s.toList.isEmpty = true) := fun h => h90 h.1
  have HN := Lib.hid h90'
  clear h90'
  have ho' : (Lib.trimLeftB p0.data.toList 48 == [49]) = true := ho
  have hC : condC s p0 2 = true := (condC_2 hE).trans ho
  have HC := Lib.hid hC
  clear hC ho
  go_enter Tryd.func73, Tryd.ntmps73
  go_wp2_with (first | (go_at_call 45; refine (split_calls s hs _ (HG.out.below (by go_grown))).mono ?_; rintro e w1 ⟨rfl, hcell, hsz1, hb⟩; rw [HP.out] at hcell; rw [HP.out]; have h0 := hcell 0 _ rfl; rw [World.size_alloc] at h0; have h1 := hcell 1 _ rfl; rw [World.size_alloc] at h1; obtain ⟨hcc, hff⟩ := bcell hb; have hB1 : Below w.heap.size w w1 := bt (by go_grown) hb; have hG1 : Hid (Gl w1) := Lib.hid ((HG.out.below (by go_grown)).below hb); have hz1 : w.heap.size < w1.heap.size := (by have := hsz1; simp at this; omega); have hZ1 : Hid (Zero4 w.heap.size w1) := Lib.hid ((Zero4.new w).below hb); clear hcell hsz1 hb) | (go_at_call 48; refine (atoi_ok p1 hsz1' v HV1.out _).mono ?_; rintro e w2 ⟨rfl, hb2⟩; have h0' := pw_cell_below hb2 h0; have hB2 : Below w.heap.size w w2 := bt (by go_grown) hb2; have hG2 : Hid (Gl w2) := Lib.hid (hG1.out.below hb2); have hZ2 : Hid (Zero4 w.heap.size w2) := Lib.hid (hZ1.out.below hb2); clear hb2 hcc hff h0 h1; have c0_2 := hZ2.out.c0; have c1_2 := hZ2.out.c1; have c2_2 := hZ2.out.c2; have c3_2 := hZ2.out.c3; have z0_2 := hZ2.out.fz 0; have z1_2 := hZ2.out.fz 1; have z2_2 := hZ2.out.fz 2; have z3_2 := hZ2.out.fz 3))
  go_loop [10] (rel1T (condC s p0 2) last) (fun i => 12 - (intOf i).toNat)
  case atStart => exact rel1T_0 _ _
  case round =>
    obtain ⟨k, hk0, hk1, rfl, hrel⟩ := hrel
    have HR := Lib.hid hrel
    clear hrel
    go_wp2_with (first | (go_at_call 29; refine (letter_calls k _).mono ?_; rintro e w3 ⟨rfl, rfl⟩) | (go_at_call 91; refine (trim_calls p0 _).mono ?_; rintro e w4 ⟨rfl, rfl⟩))
    all_goals first
      | (obtain ⟨f0, f1, f2, f3⟩ := set4 (W := w2) (g := w.heap.size) hZ2.out.c0 hZ2.out.c1 hZ2.out.c2 hZ2.out.c3; exact bodyPost_ret (res_key rfl _ _ w.heap.size ⟨k, 0, 0, (v - 1)⟩ _ rfl rfl f0 f1 f2 f3) rfl (tpost_some (told2_hit HN.out (srch_hit hk0 ‹k ≤ 11› HR.out ‹letterF k = last› HC.out)) (by go_grown)))
      | exact ⟨rel1T_next hk0 ‹k ≤ 11› HR.out (fun h => ‹¬ letterF k = last› h.1), by simp [intOf]; omega⟩
      | (obtain rfl : k = 12 := by omega
         (obtain ⟨f0, f1, f2, f3⟩ := set4 (W := w2) (g := w.heap.size) hZ2.out.c0 hZ2.out.c1 hZ2.out.c2 hZ2.out.c3; exact bodyPost_ret (res_key rfl _ _ w.heap.size ⟨0, 0, 0, 0⟩ _ rfl rfl f0 f1 f2 f3) rfl (tpost_none (told2_no HN.out (srch_end HR.out) h126) (by go_grown))))

set_option maxRecDepth 100000 in
set_option maxHeartbeats 8000000 in
theorem told_2c0 (s p0 p1 : ByteArray) (last : Int) (w : World) (hg : Gl w) (hs : s.size ≤ 1000000) (hp : partsOf s = [p0, p1]) (hsz : p0.size ≤ 1000000) (hsz1' : p1.size ≤ 1000000) (v : Int) (hv1 : Lib.atoiAll p1.data.toList = .ok v) (hv0 : 1 ≤ v) (hv8 : v ≤ 8) (hE : s.toList.isEmpty = false) (ho : one48 p0 = false) (h90 : ¬ last = 90) (h126 : ¬ last = 126) :
    Calls Tryd.prog 73 #[.string s, .int .u8 last] w (TPost (told2 s p0 2 last (v - 1)) w) := by
  have HG := Lib.hid hg
  have HP := Lib.hid hp
  clear hg hp
  have HV1 := Lib.hid hv1
  clear hv1
  have h90' : ¬ (last = 90 ∧ s.toList.isEmpty = true) := fun h => h90 h.1
  have HN := Lib.hid h90'
  clear h90'
  have ho' : (Lib.trimLeftB p0.data.toList 48 == [49]) = false := ho
  have hC : condC s p0 2 = false := (condC_2 hE).trans ho
  have HC := Lib.hid hC
  clear hC ho
  go_enter Tryd.func73, Tryd.ntmps73
  go_wp2_with (first | (go_at_call 45; refine (split_calls s hs _ (HG.out.below (by go_grown))).mono ?_; rintro e w1 ⟨rfl, hcell, hsz1, hb⟩; rw [HP.out] at hcell; rw [HP.out]; have h0 := hcell 0 _ rfl; rw [World.size_alloc] at h0; have h1 := hcell 1 _ rfl; rw [World.size_alloc] at h1; obtain ⟨hcc, hff⟩ := bcell hb; have hB1 : Below w.heap.size w w1 := bt (by go_grown) hb; have hG1 : Hid (Gl w1) := Lib.hid ((HG.out.below (by go_grown)).below hb); have hz1 : w.heap.size < w1.heap.size := (by have := hsz1; simp at this; omega); have hZ1 : Hid (Zero4 w.heap.size w1) := Lib.hid ((Zero4.new w).below hb); clear hcell hsz1 hb) | (go_at_call 48; refine (atoi_ok p1 hsz1' v HV1.out _).mono ?_; rintro e w2 ⟨rfl, hb2⟩; have h0' := pw_cell_below hb2 h0; have hB2 : Below w.heap.size w w2 := bt (by go_grown) hb2; have hG2 : Hid (Gl w2) := Lib.hid (hG1.out.below hb2); have hZ2 : Hid (Zero4 w.heap.size w2) := Lib.hid (hZ1.out.below hb2); clear hb2 hcc hff h0 h1; have c0_2 := hZ2.out.c0; have c1_2 := hZ2.out.c1; have c2_2 := hZ2.out.c2; have c3_2 := hZ2.out.c3; have z0_2 := hZ2.out.fz 0; have z1_2 := hZ2.out.fz 1; have z2_2 := hZ2.out.fz 2; have z3_2 := hZ2.out.fz 3))
  go_loop [10] (rel1T (condC s p0 2) last) (fun i => 12 - (intOf i).toNat)
  case atStart => exact rel1T_0 _ _
  case round =>
    obtain ⟨k, hk0, hk1, rfl, hrel⟩ := hrel
    have HR := Lib.hid hrel
    clear hrel
    go_wp2_with (first | (go_at_call 29; refine (letter_calls k _).mono ?_; rintro e w3 ⟨rfl, rfl⟩) | (go_at_call 91; refine (trim_calls p0 _).mono ?_; rintro e w4 ⟨rfl, rfl⟩))
    all_goals first
      | exact ⟨rel1T_next hk0 ‹k ≤ 11› HR.out (fun h => ‹¬ letterF k = last› h.1), by simp [intOf]; omega⟩
      | exact ⟨rel1T_next hk0 ‹k ≤ 11› HR.out (fun h => absurd (HC.out.symm.trans h.2) (by decide)), by simp [intOf]; omega⟩
      | (obtain rfl : k = 12 := by omega
         (obtain ⟨f0, f1, f2, f3⟩ := set4 (W := w2) (g := w.heap.size) hZ2.out.c0 hZ2.out.c1 hZ2.out.c2 hZ2.out.c3; exact bodyPost_ret (res_key rfl _ _ w.heap.size ⟨0, 0, 0, 0⟩ _ rfl rfl f0 f1 f2 f3) rfl (tpost_none (told2_no HN.out (srch_end HR.out) h126) (by go_grown))))
end Go.Proofs.YtampklajoikbiaaDoor

/- keys.told: two parts whose second is no modifier. -/
set_option linter.unusedVariables false
set_option linter.unusedSimpArgs false
namespace Go.Proofs.YtampklajoikbiaaDoor
open Go.RowKit Go.Proofs.YtampklajoikbiaaDoorW.PrintWords PKeysRead

set_option maxRecDepth 100000 in
set_option maxHeartbeats 8000000 in
theorem told_2r (s p0 p1 : ByteArray) (last : Int) (w : World) (hg : Gl w) (hs : s.size ≤ 1000000) (hp : partsOf s = [p0, p1]) (hsz : p0.size ≤ 1000000) (hsz1' : p1.size ≤ 1000000) (v : Int) (hv1 : Lib.atoiAll p1.data.toList = .ok v) (hr : v < 1 ∨ 8 < v) :
    Calls Tryd.prog 73 #[.string s, .int .u8 last] w (TPost none w) := by
  have HG := Lib.hid hg
  have HP := Lib.hid hp
  clear hg hp
  have HV1 := Lib.hid hv1
  clear hv1
  have HRR := Lib.hid hr
  clear hr
  go_enter Tryd.func73, Tryd.ntmps73
  go_wp2_with (first | (go_at_call 45; refine (split_calls s hs _ (HG.out.below (by go_grown))).mono ?_; rintro e w1 ⟨rfl, hcell, hsz1, hb⟩; rw [HP.out] at hcell; rw [HP.out]; have h0 := hcell 0 _ rfl; rw [World.size_alloc] at h0; have h1 := hcell 1 _ rfl; rw [World.size_alloc] at h1; obtain ⟨hcc, hff⟩ := bcell hb; have hB1 : Below w.heap.size w w1 := bt (by go_grown) hb; have hG1 : Hid (Gl w1) := Lib.hid ((HG.out.below (by go_grown)).below hb); have hz1 : w.heap.size < w1.heap.size := (by have := hsz1; simp at this; omega); have hZ1 : Hid (Zero4 w.heap.size w1) := Lib.hid ((Zero4.new w).below hb); clear hcell hsz1 hb) | (go_at_call 48; refine (atoi_ok p1 hsz1' v HV1.out _).mono ?_; rintro e w2 ⟨rfl, hb2⟩; have h0' := pw_cell_below hb2 h0; have hB2 : Below w.heap.size w w2 := bt (by go_grown) hb2; have hG2 : Hid (Gl w2) := Lib.hid (hG1.out.below hb2); have hZ2 : Hid (Zero4 w.heap.size w2) := Lib.hid (hZ1.out.below hb2); clear hb2 hcc hff h0 h1; have c0_2 := hZ2.out.c0; have c1_2 := hZ2.out.c1; have c2_2 := hZ2.out.c2; have c3_2 := hZ2.out.c3; have z0_2 := hZ2.out.fz 0; have z1_2 := hZ2.out.fz 1; have z2_2 := hZ2.out.fz 2; have z3_2 := hZ2.out.fz 3))
  all_goals first
    | (exfalso; have := HRR.out; omega)
    | exact bodyPost_ret (res_set rfl _ _ w.heap.size ⟨0, 0, 0, 0⟩ _ rfl rfl hZ2.out) rfl (tpost_none rfl (by go_grown))
end Go.Proofs.YtampklajoikbiaaDoor

/- keys.told: two parts whose second is no number; three parts. -/
set_option linter.unusedVariables false
set_option linter.unusedSimpArgs false
namespace Go.Proofs.YtampklajoikbiaaDoor
open Go.RowKit Go.Proofs.YtampklajoikbiaaDoorW.PrintWords PKeysRead

set_option maxRecDepth 100000 in
set_option maxHeartbeats 8000000 in
theorem told_2b (s p0 p1 : ByteArray) (last : Int) (w : World) (hg : Gl w) (hs : s.size ≤ 1000000) (hp : partsOf s = [p0, p1]) (hsz : p0.size ≤ 1000000) (hsz1' : p1.size ≤ 1000000) (hv1 : isOk p1 = false) :
    Calls Tryd.prog 73 #[.string s, .int .u8 last] w (TPost none w) := by
  have HG := Lib.hid hg
  have HP := Lib.hid hp
  clear hg hp
  have HV1 := Lib.hid hv1
  clear hv1
  go_enter Tryd.func73, Tryd.ntmps73
  go_wp2_with (first | (go_at_call 45; refine (split_calls s hs _ (HG.out.below (by go_grown))).mono ?_; rintro e w1 ⟨rfl, hcell, hsz1, hb⟩; rw [HP.out] at hcell; rw [HP.out]; have h0 := hcell 0 _ rfl; rw [World.size_alloc] at h0; have h1 := hcell 1 _ rfl; rw [World.size_alloc] at h1; obtain ⟨hcc, hff⟩ := bcell hb; have hB1 : Below w.heap.size w w1 := bt (by go_grown) hb; have hG1 : Hid (Gl w1) := Lib.hid ((HG.out.below (by go_grown)).below hb); have hz1 : w.heap.size < w1.heap.size := (by have := hsz1; simp at this; omega); have hZ1 : Hid (Zero4 w.heap.size w1) := Lib.hid ((Zero4.new w).below hb); clear hcell hsz1 hb) | (go_at_call 48; refine (atoi_bad p1 hsz1' HV1.out _ hG1.out).mono ?_; rintro e w2 ⟨v, N, rfl, hb2⟩; have hB2 : Below w.heap.size w w2 := bt (by go_grown) hb2; have hZ2 : Hid (Zero4 w.heap.size w2) := Lib.hid (hZ1.out.below hb2); clear hb2 hcc hff h0 h1; have c0_2 := hZ2.out.c0; have c1_2 := hZ2.out.c1; have c2_2 := hZ2.out.c2; have c3_2 := hZ2.out.c3; have z0_2 := hZ2.out.fz 0; have z1_2 := hZ2.out.fz 1; have z2_2 := hZ2.out.fz 2; have z3_2 := hZ2.out.fz 3))
  all_goals exact bodyPost_ret (res_set rfl _ _ w.heap.size ⟨0, 0, 0, 0⟩ _ rfl rfl hZ2.out) rfl (tpost_none rfl (by go_grown))

set_option maxRecDepth 100000 in
set_option maxHeartbeats 8000000 in
theorem told_3 (s : ByteArray) (last : Int) (w : World) (hg : Gl w) (hs : s.size ≤ 1000000) (hp : 2 < (partsOf s).length) :
    Calls Tryd.prog 73 #[.string s, .int .u8 last] w (TPost none w) := by
  have HG := Lib.hid hg
  clear hg
  generalize hl : partsOf s = l at hp
  have HP := Lib.hid hl
  clear hl
  generalize hn : l.length = n at hp
  have HN := Lib.hid hn
  clear hn
  go_enter Tryd.func73, Tryd.ntmps73
  go_wp2_with (go_at_call 45; refine (split_calls s hs _ (HG.out.below (by go_grown))).mono ?_; rintro e w1 ⟨rfl, hcell, hsz1, hb⟩; rw [HP.out, HN.out]; have hB1 : Below w.heap.size w w1 := bt (by go_grown) hb; have hz1 : w.heap.size < w1.heap.size := (by have := hsz1; simp at this; omega); have hZ1 : Hid (Zero4 w.heap.size w1) := Lib.hid ((Zero4.new w).below hb); clear hcell hsz1 hb; have c0_1 := hZ1.out.c0; have c1_1 := hZ1.out.c1; have c2_1 := hZ1.out.c2; have c3_1 := hZ1.out.c3; have z0_1 := hZ1.out.fz 0; have z1_1 := hZ1.out.fz 1; have z2_1 := hZ1.out.fz 2; have z3_1 := hZ1.out.fz 3)
  all_goals first
    | (exfalso; omega)
    | exact bodyPost_ret (res_set rfl _ _ w.heap.size ⟨0, 0, 0, 0⟩ _ rfl rfl hZ1.out) rfl (tpost_none rfl (by go_grown))
end Go.Proofs.YtampklajoikbiaaDoor

/- keys.told: two parts, Z or the tilde. -/
set_option linter.unusedVariables false
set_option linter.unusedSimpArgs false
namespace Go.Proofs.YtampklajoikbiaaDoor
open Go.RowKit Go.Proofs.YtampklajoikbiaaDoorW.PrintWords PKeysRead

set_option maxRecDepth 100000 in
set_option maxHeartbeats 8000000 in
theorem told_2y (s p0 p1 : ByteArray) (w : World) (hg : Gl w) (hs : s.size ≤ 1000000) (hp : partsOf s = [p0, p1]) (hsz : p0.size ≤ 1000000) (hsz1' : p1.size ≤ 1000000) (v : Int) (hv1 : Lib.atoiAll p1.data.toList = .ok v) (hv0 : 1 ≤ v) (hv8 : v ≤ 8) (hE : s.toList.isEmpty = false) :
    Calls Tryd.prog 73 #[.string s, .int .u8 90] w (TPost (told2 s p0 2 90 (v - 1)) w) := by
  have HG := Lib.hid hg
  have HP := Lib.hid hp
  clear hg hp
  have HV1 := Lib.hid hv1
  clear hv1
  have hr : told2 s p0 2 90 (v - 1) = none := by
    unfold told2; rw [if_neg (by rw [hE]; simp), srch_no _ _ (fun k h => letter_no90 k h.1)]; rfl
  have HR := Lib.hid hr
  clear hr
  go_enter Tryd.func73, Tryd.ntmps73
  go_wp2_with (first | (go_at_call 45; refine (split_calls s hs _ (HG.out.below (by go_grown))).mono ?_; rintro e w1 ⟨rfl, hcell, hsz1, hb⟩; rw [HP.out] at hcell; rw [HP.out]; have h0 := hcell 0 _ rfl; rw [World.size_alloc] at h0; have h1 := hcell 1 _ rfl; rw [World.size_alloc] at h1; obtain ⟨hcc, hff⟩ := bcell hb; have hB1 : Below w.heap.size w w1 := bt (by go_grown) hb; have hG1 : Hid (Gl w1) := Lib.hid ((HG.out.below (by go_grown)).below hb); have hz1 : w.heap.size < w1.heap.size := (by have := hsz1; simp at this; omega); have hZ1 : Hid (Zero4 w.heap.size w1) := Lib.hid ((Zero4.new w).below hb); clear hcell hsz1 hb) | (go_at_call 48; refine (atoi_ok p1 hsz1' v HV1.out _).mono ?_; rintro e w2 ⟨rfl, hb2⟩; have h0' := pw_cell_below hb2 h0; have hB2 : Below w.heap.size w w2 := bt (by go_grown) hb2; have hG2 : Hid (Gl w2) := Lib.hid (hG1.out.below hb2); have hZ2 : Hid (Zero4 w.heap.size w2) := Lib.hid (hZ1.out.below hb2); clear hb2 hcc hff h0 h1; have c0_2 := hZ2.out.c0; have c1_2 := hZ2.out.c1; have c2_2 := hZ2.out.c2; have c3_2 := hZ2.out.c3; have z0_2 := hZ2.out.fz 0; have z1_2 := hZ2.out.fz 1; have z2_2 := hZ2.out.fz 2; have z3_2 := hZ2.out.fz 3))
  go_loop [10] (fun i => ∃ k : Int, 6 ≤ k ∧ k ≤ 12 ∧ i = .int .i64 k) (fun i => 12 - (intOf i).toNat)
  case atStart => exact ⟨6, by omega, by omega, rfl⟩
  case round =>
    obtain ⟨k, hk0, hk1, rfl⟩ := hrel
    have hne := letter_no90 k
    go_wp2_with (first | (go_at_call 29; refine (letter_calls k _).mono ?_; rintro e w3 ⟨rfl, rfl⟩) | fail)
    · go_round
      case rel => exact ⟨k + 1, by omega, by omega, rfl⟩
      case measure => simp [intOf]; omega
    · (obtain ⟨f0, f1, f2, f3⟩ := set4 (W := w2) (g := w.heap.size) hZ2.out.c0 hZ2.out.c1 hZ2.out.c2 hZ2.out.c3; exact bodyPost_ret (res_key rfl _ _ w.heap.size ⟨0, 0, 0, 0⟩ _ rfl rfl f0 f1 f2 f3) rfl (tpost_none HR.out (by go_grown)))

set_option maxRecDepth 100000 in
set_option maxHeartbeats 8000000 in
theorem told_2b6 (s p0 p1 : ByteArray) (w : World) (hg : Gl w) (hs : s.size ≤ 1000000) (hp : partsOf s = [p0, p1]) (hsz : p0.size ≤ 1000000) (hsz1' : p1.size ≤ 1000000) (v : Int) (hv1 : Lib.atoiAll p1.data.toList = .ok v) (hv0 : 1 ≤ v) (hv8 : v ≤ 8) (hok : isOk p0 = false) :
    Calls Tryd.prog 73 #[.string s, .int .u8 126] w (TPost (told2 s p0 2 126 (v - 1)) w) := by
  have HG := Lib.hid hg
  have HP := Lib.hid hp
  clear hg hp
  have HV1 := Lib.hid hv1
  clear hv1
  have hr : told2 s p0 2 126 (v - 1) = none := by
    rw [told2_tail (srch_no _ _ (fun k h => letter_no126 k h.1) _ _), tail_bad hok]
  have HR := Lib.hid hr
  have HO := Lib.hid hok
  clear hr hok
  go_enter Tryd.func73, Tryd.ntmps73
  go_wp2_with (first | (go_at_call 45; refine (split_calls s hs _ (HG.out.below (by go_grown))).mono ?_; rintro e w1 ⟨rfl, hcell, hsz1, hb⟩; rw [HP.out] at hcell; rw [HP.out]; have h0 := hcell 0 _ rfl; rw [World.size_alloc] at h0; have h1 := hcell 1 _ rfl; rw [World.size_alloc] at h1; obtain ⟨hcc, hff⟩ := bcell hb; have hB1 : Below w.heap.size w w1 := bt (by go_grown) hb; have hG1 : Hid (Gl w1) := Lib.hid ((HG.out.below (by go_grown)).below hb); have hz1 : w.heap.size < w1.heap.size := (by have := hsz1; simp at this; omega); have hZ1 : Hid (Zero4 w.heap.size w1) := Lib.hid ((Zero4.new w).below hb); clear hcell hsz1 hb) | (go_at_call 48; refine (atoi_ok p1 hsz1' v HV1.out _).mono ?_; rintro e w2 ⟨rfl, hb2⟩; have h0' := pw_cell_below hb2 h0; have hB2 : Below w.heap.size w w2 := bt (by go_grown) hb2; have hG2 : Hid (Gl w2) := Lib.hid (hG1.out.below hb2); have hZ2 : Hid (Zero4 w.heap.size w2) := Lib.hid (hZ1.out.below hb2); clear hb2 hcc hff h0 h1; have c0_2 := hZ2.out.c0; have c1_2 := hZ2.out.c1; have c2_2 := hZ2.out.c2; have c3_2 := hZ2.out.c3; have z0_2 := hZ2.out.fz 0; have z1_2 := hZ2.out.fz 1; have z2_2 := hZ2.out.fz 2; have z3_2 := hZ2.out.fz 3))
  go_loop [10] (fun i => ∃ k : Int, 6 ≤ k ∧ k ≤ 12 ∧ i = .int .i64 k) (fun i => 12 - (intOf i).toNat)
  case atStart => exact ⟨6, by omega, by omega, rfl⟩
  case round =>
    obtain ⟨k, hk0, hk1, rfl⟩ := hrel
    have hne := letter_no126 k
    go_wp2_with (first | (go_at_call 29; refine (letter_calls k _).mono ?_; rintro e w3 ⟨rfl, rfl⟩) | (go_at_call 48; refine (atoi_bad p0 hsz HO.out _ hG2.out).mono ?_; rintro e w4 ⟨v4, N4, rfl, hb4⟩; have hB4 : Below w.heap.size w w4 := bt (by go_grown) hb4; have hZ4 : Hid (Zero4 w.heap.size w4) := Lib.hid (hZ2.out.below hb4); clear hb4; have c0_4 := hZ4.out.c0; have c1_4 := hZ4.out.c1; have c2_4 := hZ4.out.c2; have c3_4 := hZ4.out.c3; have z0_4 := hZ4.out.fz 0; have z1_4 := hZ4.out.fz 1; have z2_4 := hZ4.out.fz 2; have z3_4 := hZ4.out.fz 3))
    · go_round
      case rel => exact ⟨k + 1, by omega, by omega, rfl⟩
      case measure => simp [intOf]; omega
    · (obtain ⟨f0, f1, f2, f3⟩ := set4 (W := w4) (g := w.heap.size) hZ4.out.c0 hZ4.out.c1 hZ4.out.c2 hZ4.out.c3; exact bodyPost_ret (res_key rfl _ _ w.heap.size ⟨0, 0, 0, 0⟩ _ rfl rfl f0 f1 f2 f3) rfl (tpost_none HR.out (by go_grown)))
end Go.Proofs.YtampklajoikbiaaDoor

/- keys.told: two parts and the tilde. -/
set_option linter.unusedVariables false
set_option linter.unusedSimpArgs false
namespace Go.Proofs.YtampklajoikbiaaDoor
open Go.RowKit Go.Proofs.YtampklajoikbiaaDoorW.PrintWords PKeysRead

set_option maxRecDepth 100000 in
set_option maxHeartbeats 8000000 in
theorem told_2a6 (s p0 p1 : ByteArray) (w : World) (hg : Gl w) (hs : s.size ≤ 1000000) (hp : partsOf s = [p0, p1]) (hsz : p0.size ≤ 1000000) (hsz1' : p1.size ≤ 1000000) (v : Int) (hv1 : Lib.atoiAll p1.data.toList = .ok v) (hv0 : 1 ≤ v) (hv8 : v ≤ 8) (hok : isOk p0 = true) :
    Calls Tryd.prog 73 #[.string s, .int .u8 126] w (TPost (told2 s p0 2 126 (v - 1)) w) := by
  have HG := Lib.hid hg
  have HP := Lib.hid hp
  clear hg hp
  have HV1 := Lib.hid hv1
  clear hv1
  have hr := told2_tail (s := s) (p0 := p0) (np := 2) (h := v - 1) (srch_no _ _ (fun k h => letter_no126 k h.1) _ _)
  have HR := Lib.hid hr
  have HO := Lib.hid hok
  have HV := Lib.hid (isOk_val hok)
  clear hr hok
  obtain ⟨n, hn⟩ : ∃ n, n = atoiV p0 := ⟨_, rfl⟩
  rw [← hn] at HV
  have HN := Lib.hid hn
  clear hn
  go_enter Tryd.func73, Tryd.ntmps73
  go_wp2_with (first | (go_at_call 45; refine (split_calls s hs _ (HG.out.below (by go_grown))).mono ?_; rintro e w1 ⟨rfl, hcell, hsz1, hb⟩; rw [HP.out] at hcell; rw [HP.out]; have h0 := hcell 0 _ rfl; rw [World.size_alloc] at h0; have h1 := hcell 1 _ rfl; rw [World.size_alloc] at h1; obtain ⟨hcc, hff⟩ := bcell hb; have hB1 : Below w.heap.size w w1 := bt (by go_grown) hb; have hG1 : Hid (Gl w1) := Lib.hid ((HG.out.below (by go_grown)).below hb); have hz1 : w.heap.size < w1.heap.size := (by have := hsz1; simp at this; omega); have hZ1 : Hid (Zero4 w.heap.size w1) := Lib.hid ((Zero4.new w).below hb); clear hcell hsz1 hb) | (go_at_call 48; refine (atoi_ok p1 hsz1' v HV1.out _).mono ?_; rintro e w2 ⟨rfl, hb2⟩; have h0' := pw_cell_below hb2 h0; have hB2 : Below w.heap.size w w2 := bt (by go_grown) hb2; have hG2 : Hid (Gl w2) := Lib.hid (hG1.out.below hb2); have hZ2 : Hid (Zero4 w.heap.size w2) := Lib.hid (hZ1.out.below hb2); clear hb2 hcc hff h0 h1; have c0_2 := hZ2.out.c0; have c1_2 := hZ2.out.c1; have c2_2 := hZ2.out.c2; have c3_2 := hZ2.out.c3; have z0_2 := hZ2.out.fz 0; have z1_2 := hZ2.out.fz 1; have z2_2 := hZ2.out.fz 2; have z3_2 := hZ2.out.fz 3))
  go_loop [10] (fun i => ∃ k : Int, 6 ≤ k ∧ k ≤ 12 ∧ i = .int .i64 k) (fun i => 12 - (intOf i).toNat)
  case atStart => exact ⟨6, by omega, by omega, rfl⟩
  case round =>
    obtain ⟨k, hk0, hk1, rfl⟩ := hrel
    have hne := letter_no126 k
    go_wp2_with (first | (go_at_call 29; refine (letter_calls k _).mono ?_; rintro e w3 ⟨rfl, rfl⟩) | (go_at_call 48; refine (atoi_ok p0 hsz n HV.out _).mono ?_; rintro e w4 ⟨rfl, hb4⟩; have hB4 : Below w.heap.size w w4 := bt (by go_grown) hb4; have hZ4 : Hid (Zero4 w.heap.size w4) := Lib.hid (hZ2.out.below hb4); clear hb4))
    · go_round
      case rel => exact ⟨k + 1, by omega, by omega, rfl⟩
      case measure => simp [intOf]; omega
    · go_loopw [13] (rel2T n w) (fun i _ => 15 - (intOf i).toNat)
      case atStart => exact ⟨12, by omega, by omega, rfl, rfl, hB4, hZ4.out⟩
      case round =>
        obtain ⟨k2, hk20, hk21, rfl, hr2, hb2, hz2⟩ := hrel
        have HR2 := Lib.hid hr2
        have HZ2 := Lib.hid hz2
        clear hr2 hz2
        go_wp2_with (go_at_call 31; refine (number_calls k2 0 0 0 _ (by omega)).mono ?_; rintro e w5 ⟨rfl, hb5⟩; have hB5 : Below w.heap.size w w5 := bt (by go_grown) hb5; have hZ5 : Hid (Zero4 w.heap.size w5) := Lib.hid (HZ2.out.below hb5); clear hb5; have c0_5 := hZ5.out.c0; have c1_5 := hZ5.out.c1; have c2_5 := hZ5.out.c2; have c3_5 := hZ5.out.c3; have z0_5 := hZ5.out.fz 0; have z1_5 := hZ5.out.fz 1; have z2_5 := hZ5.out.fz 2; have z3_5 := hZ5.out.fz 3)
        · (obtain ⟨f0, f1, f2, f3⟩ := set4 (W := w5) (g := w.heap.size) hZ5.out.c0 hZ5.out.c1 hZ5.out.c2 hZ5.out.c3; exact bodyPost_ret (res_key rfl _ _ w.heap.size ⟨k2, 0, 0, v - 1⟩ _ rfl rfl f0 f1 f2 f3) rfl (tpost_some (HR.out.trans (tail_k HN.out HO.out (kfnd_hit hk20 ‹k2 ≤ 14› HR2 ⟨‹numberF k2 0 = n›, by simpa using ‹(n != 0) = true›⟩))) (by go_grown)))
        · exact ⟨rel2T_next hk20 ‹k2 ≤ 14› HR2 (fun h => by have := ‹(n != 0) = false›; simp at this; exact h.2 this) hB5 hZ5.out, by simp [intOf]; omega⟩
        · exact ⟨rel2T_next hk20 ‹k2 ≤ 14› HR2 (fun h => ‹¬ numberF k2 0 = n› h.1) hB5 hZ5.out, by simp [intOf]; omega⟩
        · have HE := Lib.hid (kfnd_end ‹14 < k2› hk21 HR2)
          obtain ⟨wq, rfl⟩ : ∃ wq : World, wq = wr := ⟨_, rfl⟩
          go_loopw [14] (rel3T n w) (fun i _ => 13 - (intOf i).toNat)
          case atStart => exact ⟨1, by omega, by omega, rfl, rfl, hb2, HZ2.out⟩
          case round =>
            clear HR2 HZ2
            obtain ⟨k3, hk30, hk31, rfl, hr3, hb3, hz3⟩ := hrel
            have HR3 := Lib.hid hr3
            have HZ3 := Lib.hid hz3
            clear hr3 hz3
            have c0_3 := HZ3.out.c0
            have c1_3 := HZ3.out.c1
            have c2_3 := HZ3.out.c2
            have c3_3 := HZ3.out.c3
            have z0_3 := HZ3.out.fz 0
            have z1_3 := HZ3.out.fz 1
            have z2_3 := HZ3.out.fz 2
            have z3_3 := HZ3.out.fz 3
            go_wp2_with (go_at_call 31; refine (number_calls 15 0 k3 0 _ (by omega)).mono ?_; rintro e w6 ⟨rfl, hb6⟩; have hB6 : Below w.heap.size w w6 := bt (by go_grown) hb6; have hZ6 : Hid (Zero4 w.heap.size w6) := Lib.hid (HZ3.out.below hb6); clear hb6; have c0_6 := hZ6.out.c0; have c1_6 := hZ6.out.c1; have c2_6 := hZ6.out.c2; have c3_6 := hZ6.out.c3; have z0_6 := hZ6.out.fz 0; have z1_6 := hZ6.out.fz 1; have z2_6 := hZ6.out.fz 2; have z3_6 := hZ6.out.fz 3)
            · (obtain ⟨f0, f1, f2, f3⟩ := set4 (W := w6) (g := w.heap.size) hZ6.out.c0 hZ6.out.c1 hZ6.out.c2 hZ6.out.c3; exact bodyPost_ret (res_key rfl _ _ w.heap.size ⟨15, 0, k3, v - 1⟩ _ rfl rfl f0 f1 f2 f3) rfl (tpost_some (HR.out.trans (tail_f HN.out HO.out HE.out (fnd_hit hk30 ‹k3 ≤ 12› HR3 (by simpa using ‹(numberF 15 k3 == n) = true›)))) (by go_grown)))
            · exact ⟨rel3T_next hk30 ‹k3 ≤ 12› HR3 (fun h => by have := ‹(numberF 15 k3 == n) = false›; simp at this; exact this h) hB6 hZ6.out, by simp [intOf]; omega⟩
            · (obtain ⟨f0, f1, f2, f3⟩ := set4 (W := wr) (g := w.heap.size) HZ3.out.c0 HZ3.out.c1 HZ3.out.c2 HZ3.out.c3; exact bodyPost_ret (res_key rfl _ _ w.heap.size ⟨0, 0, 0, 0⟩ _ rfl rfl f0 f1 f2 f3) rfl (tpost_none (HR.out.trans (tail_n HN.out HO.out HE.out (fnd_end ‹12 < k3› hk31 HR3))) (by go_grown)))
end Go.Proofs.YtampklajoikbiaaDoor

/- keys.told at every string: one contract. -/
set_option linter.unusedVariables false
set_option linter.unusedSimpArgs false
namespace Go.Proofs.YtampklajoikbiaaDoor
open Go.RowKit Go.Proofs.YtampklajoikbiaaDoorW.PrintWords PKeysRead

/-- What told answers, by the parts between the semicolons. -/
def toldP (s : ByteArray) (last : Int) : List ByteArray → Option Key
  | [p0] => told2 s p0 1 last 0
  | [p0, p1] => if isOk p1 = true ∧ 1 ≤ atoiV p1 ∧ atoiV p1 ≤ 8 then told2 s p0 2 last (atoiV p1 - 1) else none
  | _ => none
def toldF (s : ByteArray) (last : Int) : Option Key := toldP s last (partsOf s)

theorem splitB_sizes : ∀ (k : Nat) (s : ByteArray) (p : ByteArray), p ∈ Lib.splitB ⟨#[59]⟩ 0 k s → p.size ≤ s.size
  | 0, s, p, h => by
    simp [Lib.splitB] at h; subst h; exact Nat.le_refl _
  | k + 1, s, p, h => by
    unfold Lib.splitB at h
    split at h
    · simp at h; subst h; exact Nat.le_refl _
    · rcases List.mem_cons.1 h with h | h
      · subst h; rw [ByteArray.size_extract]; omega
      · have := splitB_sizes k _ p h
        rw [ByteArray.size_extract] at this
        omega
theorem parts_size {s p : ByteArray} (h : p ∈ partsOf s) : p.size ≤ s.size := splitB_sizes _ _ _ h
theorem parts_len (s : ByteArray) : (partsOf s).length = Lib.countB s ⟨#[59]⟩ + 1 := Lib.splitB_all _ (by decide) 0 _ s rfl
theorem parts_empty {s : ByteArray} (h : s.toList.isEmpty = true) : partsOf s = [s] := by
  rw [ByteArray.toList_eq] at h
  have e : s.data.toList = [] := by simpa using h
  have hc : Lib.countB s ⟨#[59]⟩ = 0 := by
    show Lib.count s.data.toList _ = 0
    rw [e]; rfl
  unfold partsOf
  rw [hc]; rfl

theorem told_calls (s : ByteArray) (last : Int) (w : World) (hg : Gl w) (hs : s.size ≤ 1000000) :
    Calls Tryd.prog 73 #[.string s, .int .u8 last] w (TPost (toldF s last) w) := by
  unfold toldF
  have hl := parts_len s
  have hz : ∀ p, p ∈ partsOf s → p.size ≤ 1000000 := fun p hp => Nat.le_trans (parts_size hp) hs
  have hE1 := @parts_empty s
  cases hp : partsOf s with
  | nil => rw [hp] at hl; simp at hl
  | cons p0 r =>
    rw [hp] at hz hE1
    have z0 := hz p0 (by simp)
    cases r with
    | nil =>
      show Calls Tryd.prog 73 _ w (TPost (told2 s p0 1 last 0) w)
      by_cases h90 : last = 90
      · subst h90
        cases hE : s.toList.isEmpty with
        | true => exact told_1z s p0 w hg hs hp z0 hE
        | false => exact told_1y s p0 w hg hs hp z0 hE
      · by_cases h126 : last = 126
        · subst h126
          cases hk : isOk p0 with
          | true => exact told_1a s p0 w hg hs hp z0 hk
          | false => exact told_1b s p0 w hg hs hp z0 hk
        · cases hE : s.toList.isEmpty with
          | true => exact told_1ce s p0 last w hg hs hp z0 hE h90 h126
          | false => exact told_1cn s p0 last w hg hs hp z0 hE h90 h126
    | cons p1 r =>
      have z1 := hz p1 (by simp)
      cases r with
      | nil =>
        have hE : s.toList.isEmpty = false := by
          cases hE : s.toList.isEmpty with
          | false => rfl
          | true => exact absurd (hE1 hE) (by simp)
        show Calls Tryd.prog 73 _ w (TPost (if isOk p1 = true ∧ 1 ≤ atoiV p1 ∧ atoiV p1 ≤ 8 then told2 s p0 2 last (atoiV p1 - 1) else none) w)
        by_cases hc : isOk p1 = true ∧ 1 ≤ atoiV p1 ∧ atoiV p1 ≤ 8
        · rw [if_pos hc]
          obtain ⟨hk, h1, h8⟩ := hc
          have hv := isOk_val hk
          by_cases h90 : last = 90
          · subst h90
            exact told_2y s p0 p1 w hg hs hp z0 z1 _ hv h1 h8 hE
          · by_cases h126 : last = 126
            · subst h126
              cases hk0 : isOk p0 with
              | true => exact told_2a6 s p0 p1 w hg hs hp z0 z1 _ hv h1 h8 hk0
              | false => exact told_2b6 s p0 p1 w hg hs hp z0 z1 _ hv h1 h8 hk0
            · cases ho : one48 p0 with
              | true => exact told_2c1 s p0 p1 last w hg hs hp z0 z1 _ hv h1 h8 hE ho h90 h126
              | false => exact told_2c0 s p0 p1 last w hg hs hp z0 z1 _ hv h1 h8 hE ho h90 h126
        · rw [if_neg hc]
          cases hk : isOk p1 with
          | false => exact told_2b s p0 p1 last w hg hs hp z0 z1 hk
          | true =>
            have hv := isOk_val hk
            exact told_2r s p0 p1 last w hg hs hp z0 z1 _ hv (by
              rcases Int.lt_or_le (atoiV p1) 1 with h | h
              · exact .inl h
              · exact .inr (by
                  rcases Int.lt_or_le 8 (atoiV p1) with h' | h'
                  · exact h'
                  · exact absurd ⟨hk, h, h'⟩ hc))
      | cons p2 r => exact told_3 s last w hg hs (by simp [hp])
end Go.Proofs.YtampklajoikbiaaDoor
