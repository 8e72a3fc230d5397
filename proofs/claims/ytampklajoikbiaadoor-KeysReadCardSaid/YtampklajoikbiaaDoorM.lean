/- Go maps keyed by api.Key, as lists of pairs: what a lookup and an update do. -/
import Derived.Test.YtampklajoikbiaaDoorPKeysReadx1
import Derived.Handy
import Derived.MapKept
import Derived.Laws.StructEq
import Derived.ChangeMaps
set_option linter.unusedVariables false
set_option linter.unusedSimpArgs false
namespace Go.Proofs.YtampklajoikbiaaDoor
open Go.RowKit Go.Proofs.YtampklajoikbiaaDoorW.PrintWords
open PKeysRead (S23 eqA23)

abbrev Key := S23
def kv (k : Key) : Value := .agg #[.int .i64 k.f0, .int .i32 k.f1, .int .i64 k.f2, .int .i64 k.f3]
def keq (a b : Key) : Bool := a.f0 == b.f0 && (a.f1 == b.f1 && (a.f2 == b.f2 && (a.f3 == b.f3)))

def ents : Nat → List (Key × ByteArray) → List MapEntry
  | _, [] => []
  | i, (k, s) :: r => { key := kv k, val := .string s, born := i } :: ents (i + 1) r

def findK (k : Key) : List (Key × ByteArray) → Nat → Option (Nat × Value)
  | [], _ => none
  | (k', s) :: r, i => if keq k k' then some (i, .string s) else findK k r (i + 1)

theorem run_equal_key (a b : Key) (w : World) : (Op.equal 23 (kv a) (kv b)).run Tryd.prog w = .ok (keq a b) w := by
  unfold Op.equal kv keq
  exact eqA23 _ w _ _ _ _ _ _ _ _

theorem run_findAsking (k : Key) (w : World) : ∀ (l : List (Key × ByteArray)) (i j : Nat), (Instr.findAsking 23 (kv k) (ents i l) j).run Tryd.prog w = .ok (findK k l j) w
  | [], i, j => by simp [ents, Instr.findAsking, findK]
  | (k', s) :: r, i, j => by
    simp only [ents, Instr.findAsking, findK, Sem.run_bind, run_equal_key, Result.andThen_ok]
    split
    · rfl
    · exact run_findAsking k w r (i + 1) (j + 1)

theorem run_checkKey_key (em : Bool) (k : Key) (w : World) : (Instr.checkKey em 10000 23 (kv k)).run Tryd.prog w = .ok () w := by
  unfold kv
  kernel_rfl

theorem findNow_key (t : Array Field) (k : Key) (l : List (Key × ByteArray)) (i : Nat) : Instr.findNow (.struct t) (kv k) (ents i l) 0 = if l.isEmpty then some none else none := by
  cases l with
  | nil => rfl
  | cons x r => obtain ⟨k', s⟩ := x; simp [ents, Instr.findNow, Instr.sameNow, kv]

theorem run_findKey_key (k : Key) (l : List (Key × ByteArray)) (i : Nat) (w : World) : (Instr.findKey 23 (kv k) (ents i l)).run Tryd.prog w = .ok (findK k l 0) w := by
  unfold Instr.findKey
  simp only [Sem.run_bind, run_underlying Tryd.underlying23, Result.andThen_ok, findNow_key]
  cases l with
  | nil => simp [findK]
  | cons x r => simp [run_findAsking]

def KM (w : World) (b : Nat) (l : List (Key × ByteArray)) : Prop := w.heap[b]? = some (.map (ents 0 l).toArray l.length)

theorem ents_append (l : List (Key × ByteArray)) (k : Key) (s : ByteArray) : ∀ i, ents i (l ++ [(k, s)]) = ents i l ++ [{ key := kv k, val := .string s, born := i + l.length }] := by
  induction l with
  | nil => intro i; simp [ents]
  | cons x r ih => intro i; obtain ⟨k', s'⟩ := x; simp [ents, ih (i + 1)]; omega

theorem ents_isEmpty (l : List (Key × ByteArray)) : (ents 0 l).toArray.isEmpty = l.isEmpty := by
  cases l with
  | nil => rfl
  | cons x r => obtain ⟨k, s⟩ := x; rfl

theorem run_lookup_key (k : Key) (l : List (Key × ByteArray)) (b : Nat) (w : World) (h : KM w b l) :
    (Instr.lookup 65 (.map (some b)) (kv k) false).run Tryd.prog w = .ok (((findK k l 0).map (·.2)).getD (.string ⟨#[]⟩)) w := by
  have hz : (zeroValue 9).run Tryd.prog w = .ok (.string ⟨#[]⟩) w := by kernel_rfl
  unfold Instr.lookup
  simp only [Sem.run_bind, run_underlying Tryd.underlying65, Result.andThen_ok, MapKept.run_getObj_map h, run_checkKey_key, Sem.run_pure]
  rw [run_findKey_key]
  simp only [Result.andThen_ok]
  cases hf : findK k l 0 with
  | none => simp [hz]
  | some x => simp

theorem run_mapUpdate_key (k : Key) (s : ByteArray) (l : List (Key × ByteArray)) (b : Nat) (w : World) (h : KM w b l) (hf : findK k l 0 = none) :
    ∃ w', (Instr.mapUpdate 65 (.map (some b)) (kv k) (.string s)).run Tryd.prog w = .ok () w' ∧ KM w' b (l ++ [(k, s)]) ∧ w.grownBy w' (some b) ∧ w'.heap.size = w.heap.size := by
  refine ⟨{ w with heap := w.heap.setIfInBounds b (.map (((ents 0 l).toArray).push { key := kv k, val := .string s, born := l.length }) (l.length + 1)) }, ?_, ?_, ?_, ?_⟩
  · unfold Instr.mapUpdate
    simp only [Sem.run_bind, run_underlying Tryd.underlying65, Result.andThen_ok, MapKept.run_getObj_map h, run_checkKey_key]
    rw [run_findKey_key]
    simp only [Result.andThen_ok, hf]
    rw [MapKept.run_setObj_map _ h]
  · have hlt : b < w.heap.size := (Array.getElem?_eq_some_iff.1 h).1
    unfold KM
    rw [ents_append]
    simp [Array.getElem?_setIfInBounds, hlt]
  · refine ⟨rfl, rfl, rfl, by simp, fun i hi hne => ?_⟩
    simp only [Array.getElem?_setIfInBounds]
    rw [if_neg (by intro e; exact hne (by rw [e]))]
  · simp

theorem wpList_mapUpdate_key {ops : Array Oper} {rest : List Oper} {o : Oper} {a : Act} {Q : Exit → Act → World → Prop} {w : World} (hgd : o.guard = none) (m k v : Operand)
    (ho : o.op = .mapUpdate 65 m k v) (hdst : o.dst = none) (b : Nat) (key : Key) (s : ByteArray) (l : List (Key × ByteArray)) (hm : a.eval m = .map (some b)) (hk : a.eval k = kv key) (hv : a.eval v = .string s)
    (hkm : KM w b l) (hf : findK key l 0 = none)
    (h : ∀ w', KM w' b (l ++ [(key, s)]) → w.grownBy w' (some b) → w'.heap.size = w.heap.size → wpList Tryd.prog ops Q rest a w') : wpList Tryd.prog ops Q (o :: rest) a w := by
  obtain ⟨w', hrun, h1, h2, h3⟩ := run_mapUpdate_key key s l b w hkm hf
  refine wpList_plain hgd fun K hK => ?_
  unfold Oper.wp execOp
  simp only [ho, Sem.run_bind, hm, hk, hv, hrun, Result.andThen_ok, Sem.run_pure]
  simp only [Oper.upon, Act.put, hdst]
  exact hK _ _ (h w' h1 h2 h3)
end Go.Proofs.YtampklajoikbiaaDoor
