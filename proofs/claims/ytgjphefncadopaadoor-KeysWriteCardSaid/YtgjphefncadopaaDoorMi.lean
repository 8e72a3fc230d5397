/- Go maps from int to string, as lists of pairs: what a lookup and an update do. -/
import Derived.Test.YtgjphefncadopaaDoorM
set_option linter.unusedVariables false
set_option linter.unusedSimpArgs false
namespace Go.Proofs.YtgjphefncadopaaDoor
open Go.RowKit Go.Proofs.YtgjphefncadopaaDoorW.PrintWords

def entsI : Nat → List (Int × ByteArray) → List MapEntry
  | _, [] => []
  | i, (k, s) :: r => { key := .int .i64 k, val := .string s, born := i } :: entsI (i + 1) r
def findI (k : Int) : List (Int × ByteArray) → Nat → Option (Nat × Value)
  | [], _ => none
  | (k', s) :: r, i => if k == k' then some (i, .string s) else findI k r (i + 1)
def KI (w : World) (b : Nat) (l : List (Int × ByteArray)) : Prop := w.heap[b]? = some (.map (entsI 0 l).toArray l.length)

theorem entsI_append (l : List (Int × ByteArray)) (k : Int) (s : ByteArray) : ∀ i, entsI i (l ++ [(k, s)]) = entsI i l ++ [{ key := .int .i64 k, val := .string s, born := i + l.length }] := by
  induction l with
  | nil => intro i; simp [entsI]
  | cons x r ih => intro i; obtain ⟨k', s'⟩ := x; simp [entsI, ih (i + 1)]; omega

theorem findNow_int (k : Int) (d : IntKind) : ∀ (l : List (Int × ByteArray)) (i j : Nat), Instr.findNow (.int d) (.int .i64 k) (entsI i l) j = some (findI k l j)
  | [], i, j => rfl
  | (k', s) :: r, i, j => by
    simp only [entsI, Instr.findNow, Instr.sameNow, if_true, findI]
    cases h : k == k' with
    | true => simp
    | false => simpa using findNow_int k d r (i + 1) (j + 1)

section
variable {P : Program} {T : TypeId} (hT : P.underlying T = some (.map 3 9)) (h3 : P.underlying 3 = some (.int .i64))
include hT h3
omit hT in
theorem run_findKey_int (k : Int) (l : List (Int × ByteArray)) (i : Nat) (w : World) : (Instr.findKey 3 (.int .i64 k) (entsI i l)).run P w = .ok (findI k l 0) w := by
  unfold Instr.findKey
  simp only [Sem.run_bind, run_underlying h3, Result.andThen_ok, findNow_int]
  rfl
omit hT in
theorem run_checkKey_int (em : Bool) (k : Int) (w : World) : (Instr.checkKey em 10000 3 (.int .i64 k)).run P w = .ok () w := by
  unfold Instr.checkKey
  simp [run_underlying h3]
theorem run_lookup_int (hz : ∀ w, (zeroValue 9).run P w = .ok (.string ⟨#[]⟩) w) (k : Int) (l : List (Int × ByteArray)) (b : Nat) (w : World) (h : KI w b l) :
    (Instr.lookup T (.map (some b)) (.int .i64 k) false).run P w = .ok (((findI k l 0).map (·.2)).getD (.string ⟨#[]⟩)) w := by
  unfold Instr.lookup
  simp only [Sem.run_bind, run_underlying hT, Result.andThen_ok, MapKept.run_getObj_map h, run_checkKey_int h3, Sem.run_pure]
  rw [run_findKey_int h3]
  simp only [Result.andThen_ok]
  cases hf : findI k l 0 with
  | none => simp [hz]
  | some x => simp

theorem run_mapUpdate_int (k : Int) (s : ByteArray) (l : List (Int × ByteArray)) (b : Nat) (w : World) (h : KI w b l) (hf : findI k l 0 = none) :
    ∃ w', (Instr.mapUpdate T (.map (some b)) (.int .i64 k) (.string s)).run P w = .ok () w' ∧ KI w' b (l ++ [(k, s)]) ∧ w.grownBy w' (some b) ∧ w'.heap.size = w.heap.size := by
  refine ⟨{ w with heap := w.heap.setIfInBounds b (.map (((entsI 0 l).toArray).push { key := .int .i64 k, val := .string s, born := l.length }) (l.length + 1)) }, ?_, ?_, ?_, ?_⟩
  · unfold Instr.mapUpdate
    simp only [Sem.run_bind, run_underlying hT, Result.andThen_ok, MapKept.run_getObj_map h, run_checkKey_int h3]
    rw [run_findKey_int h3]
    simp only [Result.andThen_ok, hf]
    rw [MapKept.run_setObj_map _ h]
  · have hlt : b < w.heap.size := (Array.getElem?_eq_some_iff.1 h).1
    unfold KI
    rw [entsI_append]
    simp [Array.getElem?_setIfInBounds, hlt]
  · refine ⟨rfl, rfl, rfl, by simp, fun i hi hne => ?_⟩
    simp only [Array.getElem?_setIfInBounds]
    rw [if_neg (by intro e; exact hne (by rw [e]))]
  · simp

theorem wpList_insert_int {ops : Array Oper} {rest : List Oper} {o : Oper} {a : Act} {Q : Exit → Act → World → Prop} {w : World} (hgd : o.guard = none) (m k v : Operand)
    (ho : o.op = .insert T m k v) (hdst : o.dst = none) (b : Nat) (key : Int) (s : ByteArray) (l : List (Int × ByteArray)) (hm : a.eval m = .map (some b)) (hk : a.eval k = .int .i64 key) (hv : a.eval v = .string s)
    (hkm : KI w b l) (hf : findI key l 0 = none)
    (h : ∀ w', KI w' b (l ++ [(key, s)]) → w.grownBy w' (some b) → w'.heap.size = w.heap.size → wpList P ops Q rest a w') : wpList P ops Q (o :: rest) a w := by
  obtain ⟨w', hrun, h1, h2, h4⟩ := run_mapUpdate_int hT h3 key s l b w hkm hf
  refine wpList_plain hgd fun K hK => ?_
  unfold Oper.wp execOp
  simp only [ho, Sem.run_bind, hm, hk, hv, hrun, Result.andThen_ok, Sem.run_pure]
  simp only [Oper.upon, Act.put, hdst]
  exact hK _ _ (h w' h1 h2 h4)
end
end Go.Proofs.YtgjphefncadopaaDoor
