/- Ranging over a map keyed by api.Key: the order is drawn; which entries have been met is known. -/
import Derived.Test.YtampklajoikbiaaDoorM
import Derived.Maps.Range
set_option linter.unusedVariables false
set_option linter.unusedSimpArgs false
namespace Go.Proofs.YtampklajoikbiaaDoor
open Go.RowKit Go.Proofs.YtampklajoikbiaaDoorW.PrintWords
open Go.ChangeMaps (setBlock)

theorem ents_mem : ∀ (l : List (Key × ByteArray)) (i : Nat) (e : MapEntry), e ∈ ents i l → ∃ j k s, l[j]? = some (k, s) ∧ e = { key := kv k, val := .string s, born := i + j }
  | [], i, e, h => by simp [ents] at h
  | (k, s) :: r, i, e, h => by
    simp only [ents, List.mem_cons] at h
    rcases h with rfl | h
    · exact ⟨0, k, s, rfl, rfl⟩
    · obtain ⟨j, k', s', h1, h2⟩ := ents_mem r (i + 1) e h
      exact ⟨j + 1, k', s', by simpa using h1, by rw [h2]; simp only [MapEntry.mk.injEq, true_and]; omega⟩
theorem ents_at : ∀ (l : List (Key × ByteArray)) (i j : Nat) (k : Key) (s : ByteArray), l[j]? = some (k, s) → { key := kv k, val := .string s, born := i + j } ∈ ents i l
  | [], i, j, k, s, h => by simp at h
  | (k', s') :: r, i, 0, k, s, h => by
    simp at h; obtain ⟨rfl, rfl⟩ := h
    simp [ents]
  | (k', s') :: r, i, j + 1, k, s, h => by
    have := ents_at r (i + 1) j k s (by simpa using h)
    rw [ents]
    exact List.mem_cons_of_mem _ (by rw [show i + (j + 1) = i + 1 + j by omega]; exact this)
theorem ents_born_ge : ∀ (l : List (Key × ByteArray)) (i : Nat), ∀ b ∈ (ents i l).map (·.born), i ≤ b
  | [], i, b, h => by simp [ents] at h
  | (k, s) :: r, i, b, h => by
    simp only [ents, List.map_cons, List.mem_cons] at h
    rcases h with rfl | h
    · exact Nat.le_refl _
    · exact Nat.le_of_succ_le (ents_born_ge r (i + 1) b h)
theorem ents_nodup : ∀ (l : List (Key × ByteArray)) (i : Nat), ((ents i l).map (·.born)).Nodup
  | [], i => by simp [ents]
  | (k, s) :: r, i => by
    simp only [ents, List.map_cons, List.nodup_cons]
    exact ⟨fun h => by have := ents_born_ge r (i + 1) i h; omega, ents_nodup r (i + 1)⟩

/-- Block b is the map l, block r an iterator over it that has met the entries 'seen'. -/
def KRange (w : World) (b r : Nat) (l : List (Key × ByteArray)) (seen : Array Nat) : Prop := KM w b l ∧ ∃ c0, l.length ≤ c0 ∧ w.heap[r]? = some (.mapIter (some b) l.length seen c0)
theorem KRange.kept {w w' : World} {b r : Nat} {l : List (Key × ByteArray)} {seen : Array Nat} {row : Option Nat} (h : KRange w b r l seen) (hg : w.grownBy w' row) (hb : some b ≠ row) (hr : some r ≠ row) : KRange w' b r l seen := by
  obtain ⟨h1, c0, h2, h3⟩ := h
  exact ⟨(hg.block b (Array.getElem?_eq_some_iff.1 h1).1 hb).trans h1, c0, h2, (hg.block r (Array.getElem?_eq_some_iff.1 h3).1 hr).trans h3⟩
theorem KRange.below {w w' : World} {b r : Nat} {l : List (Key × ByteArray)} {seen : Array Nat} (h : KRange w b r l seen) (hb : Below w.heap.size w w') : KRange w' b r l seen := by
  obtain ⟨h1, c0, h2, h3⟩ := h
  exact ⟨(hb.block b (Array.getElem?_eq_some_iff.1 h1).1).trans h1, c0, h2, (hb.block r (Array.getElem?_eq_some_iff.1 h3).1).trans h3⟩
theorem KRange.left_eq {w : World} {b r : Nat} {l : List (Key × ByteArray)} {seen : Array Nat} (h : KRange w b r l seen) : w.rangeLeft b r = (leftOf (ents 0 l).toArray seen).size := by
  obtain ⟨h1, c0, h2, h3⟩ := h
  unfold KM at h1
  simp only [World.rangeLeft, h1, h3]
theorem KRange.ne {w : World} {b r : Nat} {l : List (Key × ByteArray)} {seen : Array Nat} (h : KRange w b r l seen) : r ≠ b := by
  obtain ⟨h1, c0, h2, h3⟩ := h
  intro e
  unfold KM at h1
  rw [e, h1] at h3
  cases h3
theorem left_push {l : List (Key × ByteArray)} {seen : Array Nat} {j : Nat} {k : Key} {s : ByteArray} (hj : l[j]? = some (k, s)) (hs : seen.contains j = false) : (leftOf (ents 0 l).toArray (seen.push j)).size < (leftOf (ents 0 l).toArray seen).size := by
  have hm : ({ key := kv k, val := .string s, born := j } : MapEntry) ∈ (leftOf (ents 0 l).toArray seen).toList := by
    unfold leftOf
    rw [Array.toList_filter]
    refine List.mem_filter.2 ⟨?_, by simp only [hs]; rfl⟩
    have := ents_at l 0 j k s hj
    rw [Nat.zero_add] at this
    simpa using this
  exact left_shrinks (ents 0 l).toArray seen _ hm
theorem KRange.next_lt {w w' : World} {b r : Nat} {l : List (Key × ByteArray)} {seen : Array Nat} {j : Nat} {k : Key} {s : ByteArray} (h : KRange w b r l seen) (h' : KRange w' b r l (seen.push j)) (hj : l[j]? = some (k, s)) (hs : seen.contains j = false) : w'.rangeLeft b r < w.rangeLeft b r := by
  rw [h.left_eq, h'.left_eq]; exact left_push hj hs

section
variable {w : World} {ops : Array Oper} {rest : List Oper} {o : Oper} {a : Act} {Q : Exit → Act → World → Prop}
theorem wpList_range_key (hg : o.guard = none) (m : Operand) (hop : o.op = Op.range 65 m) (b : Nat) (l : List (Key × ByteArray)) (hm : a.eval m = .map (some b)) (h : KM w b l)
    (hK : ∀ w', KRange w' b w.heap.size l #[] → w.grownBy w' none → w'.heap.size = w.heap.size + 1 → wpList Tryd.prog ops Q rest (a.put o.dst (.pointer (some ⟨w.heap.size, 0, none⟩))) w') :
    wpList Tryd.prog ops Q (o :: rest) a w := by
  refine wpList_plain hg fun K' hK' => ?_
  have hrun := run_range_map (P := Tryd.prog) w 65 23 9 b (ents 0 l).toArray l.length Tryd.underlying65 h
  have hlt : b < w.heap.size := (Array.getElem?_eq_some_iff.1 h).1
  unfold Oper.wp
  simp [execOp, hop, hm, hrun, Result.andThen]
  exact hK' _ _ (hK _ ⟨((MapKept.heap_alloc w _).2 b hlt).trans h, _, Nat.le_refl _, (MapKept.heap_alloc w _).1⟩ (World.grownBy_alloc w _ none) (by simp))

theorem wpList_next_key (hg : o.guard = none) (it : Operand) (hop : o.op = Op.next it false) (b r : Nat) (l : List (Key × ByteArray)) (seen : Array Nat) (hit : a.eval it = .pointer (some ⟨r, 0, none⟩)) (h : KRange w b r l seen)
    (hDone : (∀ j, j < l.length → seen.contains j = true) → wpList Tryd.prog ops Q rest (a.put o.dst (.tuple #[.bool false])) w)
    (hMore : ∀ (j : Nat) (k : Key) (s : ByteArray) (w' : World), l[j]? = some (k, s) → seen.contains j = false → KRange w' b r l (seen.push j) → w.grownBy w' (some r) → w'.heap.size = w.heap.size →
      (Instr.entry (.pointer (some ⟨r, 0, none⟩))).run Tryd.prog w' = .ok (.tuple #[kv k, .string s]) w' → wpList Tryd.prog ops Q rest (a.put o.dst (.tuple #[.bool true, kv k, .string s])) w') :
    wpList Tryd.prog ops Q (o :: rest) a w := by
  refine wpList_plain hg fun K' hK' => ?_
  have hne := h.ne
  obtain ⟨hb, c0, hc, hr⟩ := h
  have hold : ∀ x ∈ (ents 0 l).toArray.toList, x.born < l.length := fun x hx => by
    obtain ⟨j, k, s, h1, rfl⟩ := ents_mem l 0 x (by simpa using hx)
    have := (List.getElem?_eq_some_iff.1 h1).1
    simpa using this
  unfold Oper.wp
  rcases run_next_at (P := Tryd.prog) w o.type r b l.length c0 seen (ents 0 l).toArray l.length hr hb hold hc with ⟨h0, hrun⟩ | ⟨e, he, w1, hal, hrun⟩
  · simp [execOp, hop, hit, hrun, Result.andThen]
    refine hK' _ _ (hDone fun j hj => ?_)
    have := all_seen _ seen h0 _ (by simpa using ents_at l 0 j (l[j]'hj).1 (l[j]'hj).2 (by simp [List.getElem?_eq_getElem hj]))
    simpa using this
  · obtain ⟨hem, hes⟩ := mem_left he
    obtain ⟨j, k, s, h1, rfl⟩ := ents_mem l 0 e (by simpa using hem)
    simp only [Nat.zero_add] at hes hrun hem
    have hr1 : w1.heap[r]? = some (.mapIter (some b) l.length seen c0) := by rcases hal with rfl | rfl <;> exact hr
    have hb1 : w1.heap[b]? = some (.map (ents 0 l).toArray l.length) := by rcases hal with rfl | rfl <;> exact hb
    have hset := Go.MapKept.heap_set (o' := .mapIter (some b) l.length (seen.push j) l.length) hr1
    have hb' := (hset.2 b (fun e1 => hne e1.symm)).trans hb1
    simp [execOp, hop, hit, hrun, Result.andThen]
    refine hK' _ _ (hMore j k s _ h1 hes ⟨hb', l.length, Nat.le_refl _, hset.1⟩ ?_ ?_ (run_entry_at _ r b l.length seen (ents 0 l).toArray l.length _ hset.1 hb' hem (by simpa using ents_nodup l 0)))
    · rcases hal with rfl | rfl <;> exact ⟨rfl, rfl, rfl, by simp [setBlock], fun i _ hi => hset.2 i (fun e1 => hi (by rw [e1]))⟩
    · rcases hal with rfl | rfl <;> simp [setBlock]
end
end Go.Proofs.YtampklajoikbiaaDoor
