/- What the calls read of the library's variables, and contracts of small library calls over it. -/
import Derived.Test.YtampklajoikbiaaDoorI
import Derived.WalkSmall
import Derived.Lib.AtoiErrMem
import Derived.Lib.SplitLaws
set_option linter.unusedVariables false
set_option linter.unusedSimpArgs false
namespace Go.Proofs.YtampklajoikbiaaDoor
open Go.RowKit Go.Proofs.YtampklajoikbiaaDoorW.PrintWords PKeysRead

structure Gl (w : World) : Prop where
  tabs : Lib.Utf8Tabs 1 2 w
  maxl : ∃ m, w.cell? ⟨4, 0, none⟩ = some (.int .i64 m)
  syn : ∃ tp p, w.var? Tryd.prog "strconv.ErrSyntax" = some #[.iface tp p]
  rng : ∃ tp p, w.var? Tryd.prog "strconv.ErrRange" = some #[.iface tp p]
theorem lt_of_cell {w : World} {a : Addr} {v : Value} (h : w.cell? a = some v) : a.block < w.heap.size := World.block_lt_of_cell? w a h
theorem syn_at : Tryd.prog.globalNamed "strconv.ErrSyntax" = some 5 := by kernel_rfl
theorem rng_at : Tryd.prog.globalNamed "strconv.ErrRange" = some 6 := by kernel_rfl
theorem lt_of_var {w : World} {n : String} {g : Nat} {cs : Array Value} (hg : Tryd.prog.globalNamed n = some g) (h : w.var? Tryd.prog n = some cs) : g < w.heap.size := by
  unfold World.var? at h
  simp only [hg, Option.bind_some] at h
  rcases Nat.lt_or_ge g w.heap.size with hl | hl
  · exact hl
  · rw [Array.getElem?_eq_none hl] at h
    cases h
theorem Gl.below {w w1 : World} (h : Gl w) (hb : Below w.heap.size w w1) : Gl w1 where
  tabs := ⟨fun c hc => pw_cell_below hb (h.tabs.1 c hc), fun i hi => ⟨pw_cell_below hb (h.tabs.2 i hi).1, pw_cell_below hb (h.tabs.2 i hi).2⟩⟩
  maxl := by obtain ⟨m, hm⟩ := h.maxl; exact ⟨m, pw_cell_below hb hm⟩
  syn := by obtain ⟨tp, p, hv⟩ := h.syn; exact ⟨tp, p, var?_below hb syn_at (lt_of_var syn_at hv) hv⟩
  rng := by obtain ⟨tp, p, hv⟩ := h.rng; exact ⟨tp, p, var?_below hb rng_at (lt_of_var rng_at hv) hv⟩

theorem atoi_ok (s : ByteArray) (hs : s.size ≤ 1000000) (v : Int) (h : Lib.atoiAll s.data.toList = .ok v) (w : World) :
    Calls Tryd.prog 48 #[.string s] w fun e w' => e = .returned (.tuple #[.int .i64 v, .nilIface]) ∧ Below w.heap.size w w' := by
  refine (Tryd.strconv_Atoi_ok s (by omega) v h w).mono fun e w' ⟨he, hw⟩ => ⟨he, ?_⟩
  rcases hw with rfl | ⟨t, rfl⟩
  · exact Below.refl _ _
  · exact Lib.bytesWorld_below _ _ _
def isOk (s : ByteArray) : Bool := match Lib.atoiAll s.data.toList with | .ok _ => true | _ => false
def AtoiBad (w : World) (e : Ending) (w' : World) : Prop := ∃ v N, e = .returned (.tuple #[.int .i64 v, .iface 133 (.pointer (some ⟨N, 0, none⟩))]) ∧ Below w.heap.size w w'
theorem atoi_bad (s : ByteArray) (hs : s.size ≤ 1000000) (h : isOk s = false) (w : World) (hg : Gl w) : Calls Tryd.prog 48 #[.string s] w (AtoiBad w) := by
  unfold isOk at h
  cases hr : Lib.atoiAll s.data.toList with
  | ok v => rw [hr] at h; cases h
  | range =>
    obtain ⟨tp, p, hv⟩ := hg.rng
    exact (Tryd.strconv_Atoi_range_var s (by omega) hr tp p w hv).mono fun e w' ⟨N, he, _, _, hb⟩ => ⟨_, N, he, hb⟩
  | _ =>
    obtain ⟨tp, p, hv⟩ := hg.syn
    exact (Tryd.strconv_Atoi_syntax_var s (by omega) hr tp p w hv).mono fun e w' ⟨N, he, _, _, hb⟩ =>⟨0, N, he, hb⟩

def partsOf (s : ByteArray) : List ByteArray := Lib.splitB ⟨#[59]⟩ 0 (Lib.countB s ⟨#[59]⟩) s
def SplitPost (s : ByteArray) (w : World) (e : Ending) (w' : World) : Prop :=
  e = .returned (.slice (some ⟨w.heap.size, 0, none⟩) (partsOf s).length (partsOf s).length) ∧ (∀ j x, (partsOf s)[j]? = some x → w'.cell? ⟨w.heap.size, j, none⟩ = some (.string x)) ∧ w'.heap.size = w.heap.size + 1 ∧ Below w.heap.size w w'
theorem split_calls (s : ByteArray) (hs : s.size ≤ 1000000) (w : World) (hg : Gl w) : Calls Tryd.prog 45 #[.string s, .string ⟨#[59]⟩] w (SplitPost s w) := by
  obtain ⟨m, hm⟩ := hg.maxl
  refine (Tryd.strings_Split s ⟨#[59]⟩ m w (by omega) hm (by decide)).mono fun e w' ⟨he, hw⟩ => ?_
  subst hw
  have hl : (partsOf s).length = Lib.countB s ⟨#[59]⟩ + 1 := Lib.splitB_all _ (by decide) 0 _ s rfl
  refine ⟨by rw [he, hl], fun j x hx => ?_, by simp, (Below.refl _ _).alloc (Nat.le_refl _) _⟩
  rw [cell_of_row _ _ j _ _ _ (heap_alloc_new w _)]
  simp [partsOf] at hx ⊢
  exact hx
theorem trim_calls (s : ByteArray) (w : World) : Calls Tryd.prog 91 #[.string s, .string ⟨#[48]⟩] w fun e w' => e = .returned (.string ⟨(Lib.trimLeftB s.data.toList 48).toArray⟩) ∧ w = w' :=
  (Tryd.strings_TrimLeft_one s 48 (by decide) w).mono fun _ _ ⟨he, hw⟩ => ⟨he, hw.symm⟩

def nextF (s : ByteArray) : Int × Int := if s.size = 0 then (0, 0) else (((Lib.decodeGo s).1 : Int), ((Lib.decodeGo s).2 : Int))
theorem Next_calls (s : ByteArray) (hn : s.size ≠ 0) (w : World) (hg : Gl w) : Calls Tryd.prog 49 #[.string s] w fun e w' => e = .returned (.tuple #[.int .i32 (Lib.decodeGo s).1, .int .i64 (Lib.decodeGo s).2]) ∧ Below w.heap.size w w' := by
  have ht := Lib.hid hg.tabs
  have he : s.toList.isEmpty = false := by
    rw [ByteArray.toList_eq]
    cases s with
    | mk d =>
      cases d with
      | mk l => cases l with
        | nil => exact absurd rfl hn
        | cons x r => rfl
  go_enter Tryd.func49, Tryd.ntmps49
  go_wp2_with (go_at_call 58; refine (Tryd.utf8_DecodeRuneInString s _ ht.out).mono ?_; rintro e w1 ⟨rfl, hb⟩)
  go_ret2
  exact ⟨rfl, hb⟩
theorem res_key {fn : Func} {t u : Tmp} (h : fn.results = #[.cell t 23, .tmp u]) (tmps : Array Value) (W : World) (g : Nat) (k : Key) (x : Value) (ht : tmps.getD t undef = .pointer (some ⟨g, 0, none⟩)) (hu : tmps.getD u undef = x)
    (h0 : W.cell? ⟨g, 0, none⟩ = some (.int .i64 k.f0)) (h1 : W.cell? ⟨g, 1, none⟩ = some (.int .i32 k.f1)) (h2 : W.cell? ⟨g, 2, none⟩ = some (.int .i64 k.f2)) (h3 : W.cell? ⟨g, 3, none⟩ = some (.int .i64 k.f3)) :
    (results fn tmps).run Tryd.prog W = .ok (.tuple #[kv k, x]) W := by
  have hu23 := Tryd.underlying23
  simp only [Array.getD_eq_getD_getElem?] at ht hu
  simp [results, h, ht, hu, go_sem, h0, h1, h2, h3, kv]
theorem set4 {W : World} {g : Nat} {y0 y1 y2 y3 a b c d : Value} (h0 : W.cell? ⟨g, 0, none⟩ = some y0) (h1 : W.cell? ⟨g, 1, none⟩ = some y1) (h2 : W.cell? ⟨g, 2, none⟩ = some y2) (h3 : W.cell? ⟨g, 3, none⟩ = some y3) :
    let V := (((W.setCell ⟨g, 0, none⟩ a).setCell ⟨g, 1, none⟩ b).setCell ⟨g, 2, none⟩ c).setCell ⟨g, 3, none⟩ d
    V.cell? ⟨g, 0, none⟩ = some a ∧ V.cell? ⟨g, 1, none⟩ = some b ∧ V.cell? ⟨g, 2, none⟩ = some c ∧ V.cell? ⟨g, 3, none⟩ = some d := by
  intro V
  have e : ∀ (w : World) (i j : Nat) (v : Value), i ≠ j → (w.setCell ⟨g, i, none⟩ v).cell? ⟨g, j, none⟩ = w.cell? ⟨g, j, none⟩ := fun w i j v hij => World.cell?_setCell_other w _ _ v (by intro h; injection h; omega)
  refine ⟨?_, ?_, ?_, ?_⟩
  · rw [e _ 3 0 _ (by decide), e _ 2 0 _ (by decide), e _ 1 0 _ (by decide)]; exact World.cell?_setCell_same _ _ _ h0
  · rw [e _ 3 1 _ (by decide), e _ 2 1 _ (by decide)]; exact World.cell?_setCell_same _ _ _ ((e _ 0 1 _ (by decide)).trans h1)
  · rw [e _ 3 2 _ (by decide)]; exact World.cell?_setCell_same _ _ _ ((e _ 1 2 _ (by decide)).trans ((e _ 0 2 _ (by decide)).trans h2))
  · exact World.cell?_setCell_same _ _ _ ((e _ 2 3 _ (by decide)).trans ((e _ 1 3 _ (by decide)).trans ((e _ 0 3 _ (by decide)).trans h3)))

/-- The block of a result that is a key, still as it was laid. -/
def Zero4 (g : Nat) (W : World) : Prop := W.heap[g]? = some (.cells #[.int .i64 0, .int .i32 0, .int .i64 0, .int .i64 0] 23 (0, 0))
theorem Zero4.new (w : World) : Zero4 w.heap.size (w.alloc (.cells #[.int .i64 0, .int .i32 0, .int .i64 0, .int .i64 0] 23)) := heap_alloc_new w _
theorem Zero4.below {g : Nat} {W W1 : World} (h : Zero4 g W) (hb : Below W.heap.size W W1) : Zero4 g W1 := (hb.block g (Array.getElem?_eq_some_iff.1 h).1).trans h
theorem Zero4.alloc {g : Nat} {W : World} (h : Zero4 g W) (o : Obj) : Zero4 g (W.alloc o) := (Below.heap_alloc W o g (Array.getElem?_eq_some_iff.1 h).1).trans h
theorem Zero4.c0 {g : Nat} {W : World} (h : Zero4 g W) : W.cell? ⟨g, 0, none⟩ = some (.int .i64 0) := cell_of_row W g 0 _ _ _ h
theorem Zero4.c1 {g : Nat} {W : World} (h : Zero4 g W) : W.cell? ⟨g, 1, none⟩ = some (.int .i32 0) := cell_of_row W g 1 _ _ _ h
theorem Zero4.c2 {g : Nat} {W : World} (h : Zero4 g W) : W.cell? ⟨g, 2, none⟩ = some (.int .i64 0) := cell_of_row W g 2 _ _ _ h
theorem Zero4.c3 {g : Nat} {W : World} (h : Zero4 g W) : W.cell? ⟨g, 3, none⟩ = some (.int .i64 0) := cell_of_row W g 3 _ _ _ h
theorem Zero4.fz {g : Nat} {W : World} (h : Zero4 g W) (i : Nat) : W.frozen? ⟨g, i, none⟩ = false := by
  unfold Zero4 at h
  simp [World.frozen?, h]
end Go.Proofs.YtampklajoikbiaaDoor
