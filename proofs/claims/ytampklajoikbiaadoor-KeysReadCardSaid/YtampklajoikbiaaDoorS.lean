/- trellisref.sequences: the map that it makes, entry by entry; old memory unchanged. -/
import Derived.Test.YtampklajoikbiaaDoorM
import Derived.Test.YtampklajoikbiaaDoorShelf
set_option linter.unusedVariables false
set_option linter.unusedSimpArgs false
namespace Go.Proofs.YtampklajoikbiaaDoor
open Go.RowKit Go.Proofs.YtampklajoikbiaaDoorW.PrintWords

theorem itoa_small (n : Int) (h0 : 0 ≤ n) (h1 : n < 100) (w : World) : Calls Tryd.prog 30 #[.int .i64 n] w fun e w' => e = .returned (.string ⟨(Lib.decDigits n.toNat).toArray⟩) ∧ w = w' := by
  obtain ⟨i, rfl⟩ := Int.eq_ofNat_of_zero_le h0
  exact (Tryd.strconv_Itoa_small i (by omega) w).mono fun _ _ ⟨he, hw⟩ => ⟨he, hw.symm⟩

theorem itoa_lit (n : Int) (l : List UInt8) (h0 : 0 ≤ n) (h1 : n < 100) (hd : Lib.decDigits n.toNat = l) (w : World) : Calls Tryd.prog 30 #[.int .i64 n] w fun e w' => e = .returned (.string ⟨l.toArray⟩) ∧ w = w' := by
  subst hd
  exact itoa_small n h0 h1 w

def seqArrows : List (Key × ByteArray) := [(⟨6, 0, 0, 0⟩, ⟨#[65]⟩), (⟨7, 0, 0, 0⟩, ⟨#[66]⟩), (⟨8, 0, 0, 0⟩, ⟨#[67]⟩), (⟨9, 0, 0, 0⟩, ⟨#[68]⟩), (⟨11, 0, 0, 0⟩, ⟨#[70]⟩), (⟨10, 0, 0, 0⟩, ⟨#[72]⟩)]
def seqMore : List (Key × ByteArray) := [(⟨14, 0, 0, 0⟩, ⟨#[51, 126]⟩), (⟨12, 0, 0, 0⟩, ⟨#[53, 126]⟩), (⟨13, 0, 0, 0⟩, ⟨#[54, 126]⟩)]
def seqFuncs : List (Key × ByteArray) := [(⟨15, 0, 1, 0⟩, ⟨#[49, 49, 126]⟩), (⟨15, 0, 2, 0⟩, ⟨#[49, 50, 126]⟩), (⟨15, 0, 3, 0⟩, ⟨#[49, 51, 126]⟩), (⟨15, 0, 4, 0⟩, ⟨#[49, 52, 126]⟩), (⟨15, 0, 5, 0⟩, ⟨#[49, 53, 126]⟩), (⟨15, 0, 6, 0⟩, ⟨#[49, 55, 126]⟩), (⟨15, 0, 7, 0⟩, ⟨#[49, 56, 126]⟩), (⟨15, 0, 8, 0⟩, ⟨#[49, 57, 126]⟩), (⟨15, 0, 9, 0⟩, ⟨#[50, 48, 126]⟩), (⟨15, 0, 10, 0⟩, ⟨#[50, 49, 126]⟩), (⟨15, 0, 11, 0⟩, ⟨#[50, 51, 126]⟩), (⟨15, 0, 12, 0⟩, ⟨#[50, 52, 126]⟩)]
def seqAll : List (Key × ByteArray) := seqArrows ++ seqMore ++ seqFuncs
def rel1 (B : Nat) (w : World) (i : Value) (wr : World) : Prop := ∃ k : Nat, k ≤ 6 ∧ i = .int .i64 k ∧ KM wr B (seqArrows.take k) ∧ (∀ j v, ([6, 7, 8, 9, 11, 10] : List Int)[j]? = some v → wr.cell? ⟨B + 1, j, none⟩ = some (.int .i64 v)) ∧ wr.heap.size = B + 2 ∧ Below B w wr
theorem rel1_next {B : Nat} {w wr w' : World} (k : Nat) (hk : k + 1 ≤ 6) (hkm : KM w' B (seqArrows.take (k + 1))) (hc : ∀ j v, ([6, 7, 8, 9, 11, 10] : List Int)[j]? = some v → wr.cell? ⟨B + 1, j, none⟩ = some (.int .i64 v))
    (hs : wr.heap.size = B + 2) (hb : Below B w wr) (hg : wr.grownBy w' (some B)) (hs' : w'.heap.size = wr.heap.size) : rel1 B w (.int .i64 ((k + 1 : Nat) : Int)) w' :=
  ⟨k + 1, hk, rfl, hkm, fun j v hv => (World.cell?_of_block (hg.block (B + 1) (by omega) (by simp))).trans (hc j v hv), by omega, hb.grown hg (by omega) (by intro g h; injection h; omega)⟩
def rel2 (B C : Nat) (w : World) (i : Value) (wr : World) : Prop := ∃ k : Nat, k ≤ 12 ∧ i = .int .i64 k ∧ KM wr B (seqArrows ++ seqMore ++ seqFuncs.take k) ∧ (∀ j v, ([11, 12, 13, 14, 15, 17, 18, 19, 20, 21, 23, 24] : List Int)[j]? = some v → wr.cell? ⟨C, j, none⟩ = some (.int .i64 v)) ∧ wr.heap.size = C + 1 ∧ Below B w wr
theorem rel2_next {B C : Nat} {w wr w' : World} (k : Nat) (hk : k + 1 ≤ 12) (hBC : B < C) (hkm : KM w' B (seqArrows ++ seqMore ++ seqFuncs.take (k + 1))) (hc : ∀ j v, ([11, 12, 13, 14, 15, 17, 18, 19, 20, 21, 23, 24] : List Int)[j]? = some v → wr.cell? ⟨C, j, none⟩ = some (.int .i64 v))
    (hs : wr.heap.size = C + 1) (hb : Below B w wr) (hg : wr.grownBy w' (some B)) (hs' : w'.heap.size = wr.heap.size) : rel2 B C w (.int .i64 ((k + 1 : Nat) : Int)) w' :=
  ⟨k + 1, hk, rfl, hkm, fun j v hv => (World.cell?_of_block (hg.block C (by omega) (by simp; omega))).trans (hc j v hv), by omega, hb.grown hg (by omega) (by intro g h; injection h; omega)⟩
def SeqPost (w : World) (e : Ending) (w' : World) : Prop := ∃ b, e = .returned (.map (some b)) ∧ w.heap.size ≤ b ∧ KM w' b seqAll ∧ Below w.heap.size w w'

set_option maxHeartbeats 4000000 in
theorem sequences_calls (w : World) : Calls Tryd.prog 32 #[] w (SeqPost w) := by
  have hmm := @run_makeMap Tryd.prog
  go_enter Tryd.func32, Tryd.ntmps32
  go_wp2_with fail
  go_loopw [9] (rel1 w.heap.size w) (fun i _ => 6 - (intOf i).toNat)
  case atStart =>
    refine ⟨0, by omega, rfl, ?_, ?_, by simp, by go_grown⟩
    · show _ = _
      rw [Below.heap_alloc _ _ _ (by simp)]
      exact heap_alloc_new w _
    · intro j v hv
      match j, hv with
      | 0, hv | 1, hv | 2, hv | 3, hv | 4, hv | 5, hv => simp at hv; subst hv; go_cell
      | j + 6, hv => simp at hv
  case round =>
    obtain ⟨k, hk, rfl, hkm, hc, hs, hb⟩ := hrel
    have hks : k = 0 ∨ k = 1 ∨ k = 2 ∨ k = 3 ∨ k = 4 ∨ k = 5 ∨ k = 6 := by omega
    rcases hks with rfl | rfl | rfl | rfl | rfl | rfl | rfl
    · have h0 := hc 0 _ rfl
      have HC := Lib.hid hc
      clear hc
      have HS := Lib.hid hs
      clear hs
      go_wp2_with (refine wpList_mapUpdate_key rfl _ _ _ rfl rfl w.heap.size ⟨6, 0, 0, 0⟩ ⟨#[65]⟩ (seqArrows.take 0) rfl rfl rfl hkm rfl ?_; intro w1 hkm1 hg1 hs1)
      exact ⟨rel1_next 0 (by omega) hkm1 HC.out HS.out hb hg1 hs1, by simp [intOf]⟩
    · have h0 := hc 1 _ rfl
      have HC := Lib.hid hc
      clear hc
      have HS := Lib.hid hs
      clear hs
      go_wp2_with (refine wpList_mapUpdate_key rfl _ _ _ rfl rfl w.heap.size ⟨7, 0, 0, 0⟩ ⟨#[66]⟩ (seqArrows.take 1) rfl rfl rfl hkm rfl ?_; intro w1 hkm1 hg1 hs1)
      exact ⟨rel1_next 1 (by omega) hkm1 HC.out HS.out hb hg1 hs1, by simp [intOf]⟩
    · have h0 := hc 2 _ rfl
      have HC := Lib.hid hc
      clear hc
      have HS := Lib.hid hs
      clear hs
      go_wp2_with (refine wpList_mapUpdate_key rfl _ _ _ rfl rfl w.heap.size ⟨8, 0, 0, 0⟩ ⟨#[67]⟩ (seqArrows.take 2) rfl rfl rfl hkm rfl ?_; intro w1 hkm1 hg1 hs1)
      exact ⟨rel1_next 2 (by omega) hkm1 HC.out HS.out hb hg1 hs1, by simp [intOf]⟩
    · have h0 := hc 3 _ rfl
      have HC := Lib.hid hc
      clear hc
      have HS := Lib.hid hs
      clear hs
      go_wp2_with (refine wpList_mapUpdate_key rfl _ _ _ rfl rfl w.heap.size ⟨9, 0, 0, 0⟩ ⟨#[68]⟩ (seqArrows.take 3) rfl rfl rfl hkm rfl ?_; intro w1 hkm1 hg1 hs1)
      exact ⟨rel1_next 3 (by omega) hkm1 HC.out HS.out hb hg1 hs1, by simp [intOf]⟩
    · have h0 := hc 4 _ rfl
      have HC := Lib.hid hc
      clear hc
      have HS := Lib.hid hs
      clear hs
      go_wp2_with (refine wpList_mapUpdate_key rfl _ _ _ rfl rfl w.heap.size ⟨11, 0, 0, 0⟩ ⟨#[70]⟩ (seqArrows.take 4) rfl rfl rfl hkm rfl ?_; intro w1 hkm1 hg1 hs1)
      exact ⟨rel1_next 4 (by omega) hkm1 HC.out HS.out hb hg1 hs1, by simp [intOf]⟩
    · have h0 := hc 5 _ rfl
      have HC := Lib.hid hc
      clear hc
      have HS := Lib.hid hs
      clear hs
      go_wp2_with (refine wpList_mapUpdate_key rfl _ _ _ rfl rfl w.heap.size ⟨10, 0, 0, 0⟩ ⟨#[72]⟩ (seqArrows.take 5) rfl rfl rfl hkm rfl ?_; intro w1 hkm1 hg1 hs1)
      exact ⟨rel1_next 5 (by omega) hkm1 HC.out HS.out hb hg1 hs1, by simp [intOf]⟩
    · clear hc
      rw [show ((6 : Nat) : Int) = 6 from rfl]
      obtain ⟨wo, rfl⟩ : ∃ wo : World, wo = wr := ⟨_, rfl⟩
      have HS := Lib.hid hs
      clear hs
      go_wp2_with (first
        | (refine wpList_mapUpdate_key rfl (.tmp 22) _ _ rfl rfl w.heap.size ⟨14, 0, 0, 0⟩ ⟨#[51, 126]⟩ (seqArrows.take 6) rfl rfl rfl hkm rfl ?_; intro w1 hkm1 hg1 hs1)
        | (refine wpList_mapUpdate_key rfl (.tmp 24) _ _ rfl rfl w.heap.size ⟨12, 0, 0, 0⟩ ⟨#[53, 126]⟩ (seqArrows ++ seqMore.take 1) rfl rfl rfl hkm1 rfl ?_; intro w2 hkm2 hg2 hs2)
        | (refine wpList_mapUpdate_key rfl (.tmp 26) _ _ rfl rfl w.heap.size ⟨13, 0, 0, 0⟩ ⟨#[54, 126]⟩ (seqArrows ++ seqMore.take 2) rfl rfl rfl hkm2 rfl ?_; intro w3 hkm3 hg3 hs3)
        | fail)
      have hbz : Below w.heap.size w w3 := (((hb.grown hg1 (by have := HS.out; omega) (by intro g h; injection h; omega)).grown hg2 (by have := HS.out; omega) (by intro g h; injection h; omega)).grown hg3 (by have := HS.out; omega) (by intro g h; injection h; omega))
      have hz : w3.heap.size = wo.heap.size := by omega
      clear hs1 hs2 hs3 hkm hkm1 hkm2 hg1 hg2 hg3 hb
      have HZ := Lib.hid hz
      clear hz
      have hlt : w.heap.size < wo.heap.size := by have := HS.out; omega
      go_loopw [30] (rel2 w.heap.size wo.heap.size w) (fun i _ => 12 - (intOf i).toNat)
      case atStart =>
        have hz := HZ.out
        refine ⟨0, by omega, rfl, ?_, ?_, by simp [hz], hbz.alloc (by omega) _⟩
        · show _ = _
          rw [Below.heap_alloc _ _ _ (by omega)]
          exact hkm3
        · intro j v hv
          rw [← hz]
          match j, hv with
          | 0, hv | 1, hv | 2, hv | 3, hv | 4, hv | 5, hv | 6, hv | 7, hv | 8, hv | 9, hv | 10, hv | 11, hv => simp at hv; subst hv; go_cell
          | j + 12, hv => simp at hv
      case round =>
        clear hkm3 hbz
        obtain ⟨k, hk, rfl, hkm, hc, hs, hb⟩ := hrel
        have hks : k = 0 ∨ k = 1 ∨ k = 2 ∨ k = 3 ∨ k = 4 ∨ k = 5 ∨ k = 6 ∨ k = 7 ∨ k = 8 ∨ k = 9 ∨ k = 10 ∨ k = 11 ∨ k = 12 := by omega
        rcases hks with rfl | rfl | rfl | rfl | rfl | rfl | rfl | rfl | rfl | rfl | rfl | rfl | rfl
        · have h0 := hc 0 _ rfl
          have HC := Lib.hid hc
          clear hc
          have HS := Lib.hid hs
          clear hs
          go_wp2_with (first | (go_at_call 30; refine (itoa_lit 11 [49, 49] (by omega) (by omega) (by simp [Lib.decDigits]) _).mono ?_; rintro e w0 ⟨rfl, rfl⟩) | (refine wpList_mapUpdate_key rfl _ _ _ rfl rfl w.heap.size ⟨15, 0, 1, 0⟩ ⟨#[49, 49, 126]⟩ (seqArrows ++ seqMore ++ seqFuncs.take 0) rfl rfl rfl hkm rfl ?_; intro w1 hkm1 hg1 hs1))
          exact ⟨rel2_next 0 (by omega) hlt hkm1 HC.out HS.out hb hg1 hs1, by simp [intOf]⟩
        · have h0 := hc 1 _ rfl
          have HC := Lib.hid hc
          clear hc
          have HS := Lib.hid hs
          clear hs
          go_wp2_with (first | (go_at_call 30; refine (itoa_lit 12 [49, 50] (by omega) (by omega) (by simp [Lib.decDigits]) _).mono ?_; rintro e w0 ⟨rfl, rfl⟩) | (refine wpList_mapUpdate_key rfl _ _ _ rfl rfl w.heap.size ⟨15, 0, 2, 0⟩ ⟨#[49, 50, 126]⟩ (seqArrows ++ seqMore ++ seqFuncs.take 1) rfl rfl rfl hkm rfl ?_; intro w1 hkm1 hg1 hs1))
          exact ⟨rel2_next 1 (by omega) hlt hkm1 HC.out HS.out hb hg1 hs1, by simp [intOf]⟩
        · have h0 := hc 2 _ rfl
          have HC := Lib.hid hc
          clear hc
          have HS := Lib.hid hs
          clear hs
          go_wp2_with (first | (go_at_call 30; refine (itoa_lit 13 [49, 51] (by omega) (by omega) (by simp [Lib.decDigits]) _).mono ?_; rintro e w0 ⟨rfl, rfl⟩) | (refine wpList_mapUpdate_key rfl _ _ _ rfl rfl w.heap.size ⟨15, 0, 3, 0⟩ ⟨#[49, 51, 126]⟩ (seqArrows ++ seqMore ++ seqFuncs.take 2) rfl rfl rfl hkm rfl ?_; intro w1 hkm1 hg1 hs1))
          exact ⟨rel2_next 2 (by omega) hlt hkm1 HC.out HS.out hb hg1 hs1, by simp [intOf]⟩
        · have h0 := hc 3 _ rfl
          have HC := Lib.hid hc
          clear hc
          have HS := Lib.hid hs
          clear hs
          go_wp2_with (first | (go_at_call 30; refine (itoa_lit 14 [49, 52] (by omega) (by omega) (by simp [Lib.decDigits]) _).mono ?_; rintro e w0 ⟨rfl, rfl⟩) | (refine wpList_mapUpdate_key rfl _ _ _ rfl rfl w.heap.size ⟨15, 0, 4, 0⟩ ⟨#[49, 52, 126]⟩ (seqArrows ++ seqMore ++ seqFuncs.take 3) rfl rfl rfl hkm rfl ?_; intro w1 hkm1 hg1 hs1))
          exact ⟨rel2_next 3 (by omega) hlt hkm1 HC.out HS.out hb hg1 hs1, by simp [intOf]⟩
        · have h0 := hc 4 _ rfl
          have HC := Lib.hid hc
          clear hc
          have HS := Lib.hid hs
          clear hs
          go_wp2_with (first | (go_at_call 30; refine (itoa_lit 15 [49, 53] (by omega) (by omega) (by simp [Lib.decDigits]) _).mono ?_; rintro e w0 ⟨rfl, rfl⟩) | (refine wpList_mapUpdate_key rfl _ _ _ rfl rfl w.heap.size ⟨15, 0, 5, 0⟩ ⟨#[49, 53, 126]⟩ (seqArrows ++ seqMore ++ seqFuncs.take 4) rfl rfl rfl hkm rfl ?_; intro w1 hkm1 hg1 hs1))
          exact ⟨rel2_next 4 (by omega) hlt hkm1 HC.out HS.out hb hg1 hs1, by simp [intOf]⟩
        · have h0 := hc 5 _ rfl
          have HC := Lib.hid hc
          clear hc
          have HS := Lib.hid hs
          clear hs
          go_wp2_with (first | (go_at_call 30; refine (itoa_lit 17 [49, 55] (by omega) (by omega) (by simp [Lib.decDigits]) _).mono ?_; rintro e w0 ⟨rfl, rfl⟩) | (refine wpList_mapUpdate_key rfl _ _ _ rfl rfl w.heap.size ⟨15, 0, 6, 0⟩ ⟨#[49, 55, 126]⟩ (seqArrows ++ seqMore ++ seqFuncs.take 5) rfl rfl rfl hkm rfl ?_; intro w1 hkm1 hg1 hs1))
          exact ⟨rel2_next 5 (by omega) hlt hkm1 HC.out HS.out hb hg1 hs1, by simp [intOf]⟩
        · have h0 := hc 6 _ rfl
          have HC := Lib.hid hc
          clear hc
          have HS := Lib.hid hs
          clear hs
          go_wp2_with (first | (go_at_call 30; refine (itoa_lit 18 [49, 56] (by omega) (by omega) (by simp [Lib.decDigits]) _).mono ?_; rintro e w0 ⟨rfl, rfl⟩) | (refine wpList_mapUpdate_key rfl _ _ _ rfl rfl w.heap.size ⟨15, 0, 7, 0⟩ ⟨#[49, 56, 126]⟩ (seqArrows ++ seqMore ++ seqFuncs.take 6) rfl rfl rfl hkm rfl ?_; intro w1 hkm1 hg1 hs1))
          exact ⟨rel2_next 6 (by omega) hlt hkm1 HC.out HS.out hb hg1 hs1, by simp [intOf]⟩
        · have h0 := hc 7 _ rfl
          have HC := Lib.hid hc
          clear hc
          have HS := Lib.hid hs
          clear hs
          go_wp2_with (first | (go_at_call 30; refine (itoa_lit 19 [49, 57] (by omega) (by omega) (by simp [Lib.decDigits]) _).mono ?_; rintro e w0 ⟨rfl, rfl⟩) | (refine wpList_mapUpdate_key rfl _ _ _ rfl rfl w.heap.size ⟨15, 0, 8, 0⟩ ⟨#[49, 57, 126]⟩ (seqArrows ++ seqMore ++ seqFuncs.take 7) rfl rfl rfl hkm rfl ?_; intro w1 hkm1 hg1 hs1))
          exact ⟨rel2_next 7 (by omega) hlt hkm1 HC.out HS.out hb hg1 hs1, by simp [intOf]⟩
        · have h0 := hc 8 _ rfl
          have HC := Lib.hid hc
          clear hc
          have HS := Lib.hid hs
          clear hs
          go_wp2_with (first | (go_at_call 30; refine (itoa_lit 20 [50, 48] (by omega) (by omega) (by simp [Lib.decDigits]) _).mono ?_; rintro e w0 ⟨rfl, rfl⟩) | (refine wpList_mapUpdate_key rfl _ _ _ rfl rfl w.heap.size ⟨15, 0, 9, 0⟩ ⟨#[50, 48, 126]⟩ (seqArrows ++ seqMore ++ seqFuncs.take 8) rfl rfl rfl hkm rfl ?_; intro w1 hkm1 hg1 hs1))
          exact ⟨rel2_next 8 (by omega) hlt hkm1 HC.out HS.out hb hg1 hs1, by simp [intOf]⟩
        · have h0 := hc 9 _ rfl
          have HC := Lib.hid hc
          clear hc
          have HS := Lib.hid hs
          clear hs
          go_wp2_with (first | (go_at_call 30; refine (itoa_lit 21 [50, 49] (by omega) (by omega) (by simp [Lib.decDigits]) _).mono ?_; rintro e w0 ⟨rfl, rfl⟩) | (refine wpList_mapUpdate_key rfl _ _ _ rfl rfl w.heap.size ⟨15, 0, 10, 0⟩ ⟨#[50, 49, 126]⟩ (seqArrows ++ seqMore ++ seqFuncs.take 9) rfl rfl rfl hkm rfl ?_; intro w1 hkm1 hg1 hs1))
          exact ⟨rel2_next 9 (by omega) hlt hkm1 HC.out HS.out hb hg1 hs1, by simp [intOf]⟩
        · have h0 := hc 10 _ rfl
          have HC := Lib.hid hc
          clear hc
          have HS := Lib.hid hs
          clear hs
          go_wp2_with (first | (go_at_call 30; refine (itoa_lit 23 [50, 51] (by omega) (by omega) (by simp [Lib.decDigits]) _).mono ?_; rintro e w0 ⟨rfl, rfl⟩) | (refine wpList_mapUpdate_key rfl _ _ _ rfl rfl w.heap.size ⟨15, 0, 11, 0⟩ ⟨#[50, 51, 126]⟩ (seqArrows ++ seqMore ++ seqFuncs.take 10) rfl rfl rfl hkm rfl ?_; intro w1 hkm1 hg1 hs1))
          exact ⟨rel2_next 10 (by omega) hlt hkm1 HC.out HS.out hb hg1 hs1, by simp [intOf]⟩
        · have h0 := hc 11 _ rfl
          have HC := Lib.hid hc
          clear hc
          have HS := Lib.hid hs
          clear hs
          go_wp2_with (first | (go_at_call 30; refine (itoa_lit 24 [50, 52] (by omega) (by omega) (by simp [Lib.decDigits]) _).mono ?_; rintro e w0 ⟨rfl, rfl⟩) | (refine wpList_mapUpdate_key rfl _ _ _ rfl rfl w.heap.size ⟨15, 0, 12, 0⟩ ⟨#[50, 52, 126]⟩ (seqArrows ++ seqMore ++ seqFuncs.take 11) rfl rfl rfl hkm rfl ?_; intro w1 hkm1 hg1 hs1))
          exact ⟨rel2_next 11 (by omega) hlt hkm1 HC.out HS.out hb hg1 hs1, by simp [intOf]⟩
        · clear hc
          go_wp2
          go_ret
          exact ⟨_, rfl, Nat.le_refl _, hkm, hb⟩
end Go.Proofs.YtampklajoikbiaaDoor
