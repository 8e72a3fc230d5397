import Derived.Test.YtampklajoikbiaaDoorT
import Derived.Test.YtampklajoikbiaaDoorS
import Derived.Test.YtampklajoikbiaaDoorRa
/- What keyOf answers is what told answers, of digits and semicolons: in plain words. -/
set_option linter.unusedVariables false
set_option linter.unusedSimpArgs false
namespace Go.Proofs.YtampklajoikbiaaDoor
open Go.RowKit Go.Proofs.YtampklajoikbiaaDoorW.PrintWords PKeysRead

def dsB (c : UInt8) : Bool := (decide (48 ≤ c.toNat) && decide (c.toNat ≤ 57)) || c.toNat == 59
def valD (acc : Nat) : List UInt8 → Nat
  | [] => acc
  | c :: r => valD (acc * 10 + (c.toNat - 48)) r
theorem valD_app (l : List UInt8) (c : UInt8) : ∀ acc, valD acc (l ++ [c]) = valD acc l * 10 + (c.toNat - 48) := by
  induction l with
  | nil => intro acc; rfl
  | cons x r ih => intro acc; exact ih _
theorem valD_ge : ∀ (l : List UInt8) (acc : Nat), acc ≤ valD acc l
  | [], acc => Nat.le_refl _
  | c :: r, acc => by
    have h := valD_ge r (acc * 10 + (c.toNat - 48))
    have h2 : acc ≤ acc * 10 + (c.toNat - 48) := by omega
    exact Nat.le_trans h2 h
theorem valD_lt (l : List UInt8) : ∀ acc : Nat, (∀ c ∈ l, c.toNat ≤ 57) → valD acc l < (acc + 1) * 10 ^ l.length := by
  induction l with
  | nil => intro acc _; show acc < (acc + 1) * 1; omega
  | cons c r ih =>
    intro acc h
    have hc := h c (by simp)
    have hi := ih (acc * 10 + (c.toNat - 48)) (fun x hx => h x (by simp [hx]))
    have e : valD acc (c :: r) = valD (acc * 10 + (c.toNat - 48)) r := rfl
    rw [e]
    refine Nat.lt_of_lt_of_le hi ?_
    rw [List.length_cons, Nat.pow_succ, Nat.mul_comm (10 ^ r.length) 10, ← Nat.mul_assoc]
    exact Nat.mul_le_mul_right _ (by omega)
theorem parse_ok : ∀ (l : List UInt8) (acc u : Nat), Lib.parseUint10 acc l = .ok u → (∀ c ∈ l, 48 ≤ c.toNat ∧ c.toNat ≤ 57) ∧ u = valD acc l
  | [], acc, u, h => by
    simp only [Lib.parseUint10] at h
    injection h with h
    exact ⟨by simp, h.symm⟩
  | c :: r, acc, u, h => by
    simp only [Lib.parseUint10] at h
    split at h
    · rename_i hc
      split at h
      · cases h
      · split at h
        · cases h
        · obtain ⟨h1, h2⟩ := parse_ok r _ u h
          exact ⟨fun x hx => by rcases List.mem_cons.1 hx with rfl | hx; exact hc; exact h1 x hx, h2⟩
    · cases h
theorem ds_sign {c : UInt8} (h : dsB c = true) : ¬ c.toNat = 43 ∧ ¬ c.toNat = 45 := by
  simp [dsB] at h; omega
/-- Of digits and semicolons: what Atoi gives is the digits' value. -/
theorem atoi_val {l : List UInt8} (hd : ∀ c ∈ l, dsB c = true) {v : Int} (h : Lib.atoiAll l = .ok v) : (∀ c ∈ l, 48 ≤ c.toNat ∧ c.toNat ≤ 57) ∧ v = (valD 0 l : Int) := by
  cases l with
  | nil => simp [Lib.atoiAll] at h
  | cons c r =>
    obtain ⟨h43, h45⟩ := ds_sign (hd c (by simp))
    unfold Lib.atoiAll at h
    simp only [h43, h45, or_self, if_false] at h
    unfold Lib.parseMag at h
    rw [if_neg (by simp)] at h
    cases hp : Lib.parseUint10 0 (c :: r) with
    | ok u =>
      rw [hp] at h
      obtain ⟨h1, h2⟩ := parse_ok _ _ _ hp
      simp only [not_false_eq_true, true_and, false_and, if_false] at h
      split at h
      · cases h
      · injection h with h
        exact ⟨h1, by rw [← h, h2]⟩
    | _ => rw [hp] at h; cases h
theorem atoi_bd {s : ByteArray} (hd : ∀ c ∈ s.data.toList, dsB c = true) (hs : s.size ≤ 10) (h : isOk s = true) : 0 ≤ atoiV s ∧ atoiV s ≤ 9999999999 := by
  obtain ⟨h1, h2⟩ := atoi_val hd (isOk_val h)
  have h3 := valD_lt s.data.toList 0 (fun c hc => (h1 c hc).2)
  have h4 : s.data.toList.length = s.size := data_length s
  have h5 : 10 ^ s.data.toList.length ≤ 10000000000 := Nat.le_trans (Nat.pow_le_pow_right (by decide) (by omega : s.data.toList.length ≤ 10)) (by decide)
  generalize 10 ^ s.data.toList.length = X at h3 h5
  rw [h2]
  omega
/-- A zero ahead counts for nothing. -/
theorem drop_val : ∀ (l : List UInt8), valD 0 l = valD 0 (l.dropWhile (· == 48))
  | [] => rfl
  | c :: r => by
    by_cases h : c = 48
    · subst h
      show valD (0 * 10 + (48 - 48)) r = _
      rw [List.dropWhile_cons_of_pos (by simp)]
      exact drop_val r
    · rw [List.dropWhile_cons_of_neg (by simpa using h)]
theorem drop_parse : ∀ (l : List UInt8), Lib.parseUint10 0 l = Lib.parseUint10 0 (l.dropWhile (· == 48))
  | [] => rfl
  | c :: r => by
    by_cases h : c = 48
    · subst h
      rw [List.dropWhile_cons_of_pos (by simp)]
      rw [← drop_parse r]
      simp [Lib.parseUint10]
    · rw [List.dropWhile_cons_of_neg (by simpa using h)]
theorem one_ok {s : ByteArray} (h : one48 s = true) : isOk s = true ∧ atoiV s = 1 := by
  have h' : s.data.toList.dropWhile (· == 48) = [49] := by simpa [one48, Lib.trimLeftB] using h
  have hp : Lib.parseUint10 0 s.data.toList = .ok 1 := by rw [drop_parse, h']; rfl
  have ha : Lib.atoiAll s.data.toList = .ok 1 := by
    generalize s.data.toList = l at h' hp
    cases l with
    | nil => simp at h'
    | cons c r =>
      have hc : c = 48 ∨ c = 49 := by
        by_cases h : c = 48
        · exact .inl h
        · rw [List.dropWhile_cons_of_neg (by simpa using h)] at h'
          injection h' with h1 h2
          exact .inr h1
      unfold Lib.atoiAll Lib.parseMag
      rcases hc with rfl | rfl <;> simp [hp]
  constructor
  · unfold isOk; rw [ha]
  · unfold atoiV; rw [ha]
theorem one_of {s : ByteArray} (hd : ∀ c ∈ s.data.toList, dsB c = true) (h : isOk s = true) (h1 : atoiV s = 1) : one48 s = true := by
  obtain ⟨hg, hv⟩ := atoi_val hd (isOk_val h)
  rw [h1, drop_val] at hv
  have hg2 : ∀ c ∈ s.data.toList.dropWhile (· == 48), 48 ≤ c.toNat ∧ c.toNat ≤ 57 := fun c hc => hg c ((List.dropWhile_sublist _).subset hc)
  have hh : ∀ c r, s.data.toList.dropWhile (· == 48) = c :: r → c ≠ 48 := fun c r e => by
    have := List.head_dropWhile_not (p := (· == 48)) (l := s.data.toList) (by rw [e]; simp)
    simp only [e, List.head_cons] at this
    simpa using this
  unfold one48 Lib.trimLeftB
  generalize s.data.toList.dropWhile (· == 48) = l at hv hg2 hh
  cases l with
  | nil => exact absurd hv (by decide)
  | cons c r =>
    have h48 := hh c r rfl
    have hc := hg2 c (by simp)
    have hne : c.toNat ≠ 48 := fun e => h48 (by rw [← UInt8.toNat_inj]; exact e)
    have hge := valD_ge r (0 * 10 + (c.toNat - 48))
    have hv' : valD (0 * 10 + (c.toNat - 48)) r = 1 := by
      have : ((valD 0 (c :: r) : Nat) : Int) = 1 := hv.symm
      have h2 : valD 0 (c :: r) = 1 := by omega
      exact h2
    have hc1 : c.toNat = 49 := by omega
    have hc2 : c = 49 := by rw [← UInt8.toNat_inj]; exact hc1
    subst hc2
    cases r with
    | nil => rfl
    | cons d q =>
      exfalso
      have := valD_ge q ((0 * 10 + ((49 : UInt8).toNat - 48)) * 10 + (d.toNat - 48))
      have e : valD (0 * 10 + ((49 : UInt8).toNat - 48)) (d :: q) = valD ((0 * 10 + ((49 : UInt8).toNat - 48)) * 10 + (d.toNat - 48)) q := rfl
      rw [e] at hv'
      simp at this hv'
      omega
theorem one_iff {s : ByteArray} (hd : ∀ c ∈ s.data.toList, dsB c = true) (h : isOk s = true) : one48 s = (atoiV s == 1) := by
  cases h1 : one48 s with
  | true => rw [(one_ok h1).2]; rfl
  | false =>
    cases h2 : (atoiV s == 1) with
    | false => rfl
    | true => rw [one_of hd h (by simpa using h2)] at h1; cases h1
/-- A numeral's value. -/
theorem val_dec (u : Nat) : valD 0 (Lib.decDigits u) = u := by
  induction u using Nat.strongRecOn with
  | _ u ih =>
    unfold Lib.decDigits
    split
    · rename_i h
      show 0 * 10 + ((UInt8.ofNat (48 + u)).toNat - 48) = u
      have : (UInt8.ofNat (48 + u)).toNat = 48 + u := by rw [UInt8.toNat_ofNat']; omega
      rw [this]; omega
    · rename_i h
      rw [valD_app, ih (u / 10) (by omega)]
      have : (UInt8.ofNat (48 + u % 10)).toNat = 48 + u % 10 := by rw [UInt8.toNat_ofNat']; omega
      rw [this]; omega
theorem itoa_val {v : Int} (h0 : 0 ≤ v) : (valD 0 (Lib.itoa v) : Int) = v := by
  unfold Lib.itoa
  rw [if_neg (by omega), val_dec]
  omega
end Go.Proofs.YtampklajoikbiaaDoor

/- keyOf and told: the same key, of digits and semicolons. -/
set_option linter.unusedVariables false
set_option linter.unusedSimpArgs false
namespace Go.Proofs.YtampklajoikbiaaDoor
open Go.RowKit Go.Proofs.YtampklajoikbiaaDoorW.PrintWords PKeysRead

/-! The letters. -/
theorem letters_all : (seqAll.all fun e => lastB e.2 == 126 || (srch (lastB e.2) true 7 6 == some e.1.f0 && (e.1.f1 == 0 && e.1.f2 == 0))) = true := by decide
theorem letter_hit {j : Nat} {k : Key} {t : ByteArray} {last : Int} (hj : seqAll[j]? = some (k, t)) (hl : lastB t = last) (h6 : ¬ last = 126) : srch last true 7 6 = some k.f0 ∧ k.f1 = 0 ∧ k.f2 = 0 := by
  have := List.all_eq_true.1 letters_all _ (List.mem_of_getElem? hj)
  simp only [hl] at this
  simpa [h6] using this
theorem letter_none {last : Int} (h : ∀ (j : Nat) (k : Key) (t : ByteArray), seqAll[j]? = some (k, t) → ¬ lastB t = last) : srch last true 7 6 = none := by
  have h0 : ¬ (65 : Int) = last := h 0 _ _ rfl
  have h1 : ¬ (66 : Int) = last := h 1 _ _ rfl
  have h2 : ¬ (67 : Int) = last := h 2 _ _ rfl
  have h3 : ¬ (68 : Int) = last := h 3 _ _ rfl
  have h4 : ¬ (70 : Int) = last := h 4 _ _ rfl
  have h5 : ¬ (72 : Int) = last := h 5 _ _ rfl
  simp [srch, letterF, h0, h1, h2, h3, h4, h5]
/-! The numbers. -/
def tailK (v h : Int) : Option Key :=
  match kfnd v 4 12 with
  | some k => some ⟨k, 0, 0, h⟩
  | none => match fnd v 13 1 with
    | some f => some ⟨15, 0, f, h⟩
    | none => none
theorem tail126_eq (p0 : ByteArray) (h : Int) : tail126 p0 h = if isOk p0 = true then tailK (atoiV p0) h else none := rfl
theorem tailK_h {v h : Int} {k : Key} (hk : tailK v 0 = some k) : tailK v h = some ⟨k.f0, k.f1, k.f2, h⟩ := by
  unfold tailK at hk ⊢
  split at hk
  · injection hk with hk; rw [← hk]
  · split at hk
    · injection hk with hk; rw [← hk]
    · cases hk
def numOf (t : ByteArray) : Nat := valD 0 (t.data.toList.dropLast)
def isKo (o : Option Key) (a b c : Int) : Bool := match o with
  | some k => k.f0 == a && (k.f1 == b && (k.f2 == c && k.f3 == 0))
  | none => false
theorem isKo_iff {o : Option Key} {a b c : Int} (h : isKo o a b c = true) : o = some ⟨a, b, c, 0⟩ := by
  cases o with
  | none => cases h
  | some k =>
    obtain ⟨x, y, z, u⟩ := k
    simp [isKo] at h
    obtain ⟨rfl, rfl, rfl, rfl⟩ := h
    rfl
theorem numbers_all : (seqAll.all fun e => !(lastB e.2 == 126) || (e.2.data.toList == e.2.data.toList.dropLast ++ [126] && isKo (tailK (numOf e.2) 0) e.1.f0 e.1.f1 e.1.f2)) = true := by decide
theorem app_data (l m : List UInt8) : ((⟨l.toArray⟩ ++ ⟨m.toArray⟩ : ByteArray)).toList = l ++ m := by
  rw [ByteArray.toList_eq]
  simp
theorem number_hit {j : Nat} {k : Key} {t : ByteArray} {v h : Int} (hj : seqAll[j]? = some (k, t)) (hl : lastB t = 126) (hv : 0 ≤ v) (hf : ((⟨(Lib.itoa v).toArray⟩ ++ ⟨#[126]⟩ : ByteArray).toList == t.toList) = true) : tailK v h = some ⟨k.f0, k.f1, k.f2, h⟩ := by
  have h1 := List.all_eq_true.1 numbers_all _ (List.mem_of_getElem? hj)
  simp only [hl, beq_self_eq_true, Bool.not_true, Bool.false_or, Bool.and_eq_true, beq_iff_eq] at h1
  obtain ⟨h2, h3⟩ := h1
  have h4 : Lib.itoa v ++ [126] = t.data.toList := by
    have := beq_iff_eq.1 hf
    rw [app_data (Lib.itoa v) [126], ByteArray.toList_eq] at this
    exact this
  rw [h2] at h4
  have h5 := (List.append_inj' h4 rfl).1
  have h6 : ((numOf t : Nat) : Int) = v := by
    unfold numOf
    rw [← h5]
    exact itoa_val hv
  rw [h6] at h3
  exact tailK_h (k := ⟨k.f0, k.f1, k.f2, 0⟩) (isKo_iff h3)
theorem dec1 (u : Nat) (h : u < 10) : Lib.decDigits u = [UInt8.ofNat (48 + u)] := by unfold Lib.decDigits; rw [dif_pos h]
theorem dec2 (u : Nat) (h : 10 ≤ u) (h' : u < 100) : Lib.decDigits u = [UInt8.ofNat (48 + u / 10), UInt8.ofNat (48 + u % 10)] := by
  unfold Lib.decDigits; rw [dif_neg (by omega), dec1 _ (by omega)]; rfl
theorem num_ne {j m : Nat} {k : Key} {t : ByteArray} {v : Int} (hj : seqAll[j]? = some (k, t)) (hl : lastB t = 126) (hm : Lib.itoa (m : Int) ++ [126] = t.data.toList)
    (hno : ∀ (j : Nat) (k : Key) (t : ByteArray), seqAll[j]? = some (k, t) → lastB t = 126 → ((⟨(Lib.itoa v).toArray⟩ ++ ⟨#[126]⟩ : ByteArray).toList == t.toList) = false) : ¬ v = (m : Int) := by
  intro e
  have := hno j k t hj hl
  rw [app_data (Lib.itoa v) [126], ByteArray.toList_eq, e, hm] at this
  simp at this
theorem number_none {v h : Int} (hno : ∀ (j : Nat) (k : Key) (t : ByteArray), seqAll[j]? = some (k, t) → lastB t = 126 → ((⟨(Lib.itoa v).toArray⟩ ++ ⟨#[126]⟩ : ByteArray).toList == t.toList) = false) : tailK v h = none := by
  have a3 := num_ne (j := 6) (m := 3) rfl rfl (by show Lib.decDigits 3 ++ _ = _; rw [dec1 3 (by omega)]; rfl) hno
  have a5 := num_ne (j := 7) (m := 5) rfl rfl (by show Lib.decDigits 5 ++ _ = _; rw [dec1 5 (by omega)]; rfl) hno
  have a6 := num_ne (j := 8) (m := 6) rfl rfl (by show Lib.decDigits 6 ++ _ = _; rw [dec1 6 (by omega)]; rfl) hno
  have b1 := num_ne (j := 9) (m := 11) rfl rfl (by show Lib.decDigits 11 ++ _ = _; rw [dec2 11 (by omega) (by omega)]; rfl) hno
  have b2 := num_ne (j := 10) (m := 12) rfl rfl (by show Lib.decDigits 12 ++ _ = _; rw [dec2 12 (by omega) (by omega)]; rfl) hno
  have b3 := num_ne (j := 11) (m := 13) rfl rfl (by show Lib.decDigits 13 ++ _ = _; rw [dec2 13 (by omega) (by omega)]; rfl) hno
  have b4 := num_ne (j := 12) (m := 14) rfl rfl (by show Lib.decDigits 14 ++ _ = _; rw [dec2 14 (by omega) (by omega)]; rfl) hno
  have b5 := num_ne (j := 13) (m := 15) rfl rfl (by show Lib.decDigits 15 ++ _ = _; rw [dec2 15 (by omega) (by omega)]; rfl) hno
  have b6 := num_ne (j := 14) (m := 17) rfl rfl (by show Lib.decDigits 17 ++ _ = _; rw [dec2 17 (by omega) (by omega)]; rfl) hno
  have b7 := num_ne (j := 15) (m := 18) rfl rfl (by show Lib.decDigits 18 ++ _ = _; rw [dec2 18 (by omega) (by omega)]; rfl) hno
  have b8 := num_ne (j := 16) (m := 19) rfl rfl (by show Lib.decDigits 19 ++ _ = _; rw [dec2 19 (by omega) (by omega)]; rfl) hno
  have b9 := num_ne (j := 17) (m := 20) rfl rfl (by show Lib.decDigits 20 ++ _ = _; rw [dec2 20 (by omega) (by omega)]; rfl) hno
  have c1 := num_ne (j := 18) (m := 21) rfl rfl (by show Lib.decDigits 21 ++ _ = _; rw [dec2 21 (by omega) (by omega)]; rfl) hno
  have c2 := num_ne (j := 19) (m := 23) rfl rfl (by show Lib.decDigits 23 ++ _ = _; rw [dec2 23 (by omega) (by omega)]; rfl) hno
  have c3 := num_ne (j := 20) (m := 24) rfl rfl (by show Lib.decDigits 24 ++ _ = _; rw [dec2 24 (by omega) (by omega)]; rfl) hno
  have e : ∀ k : Int, numberF k 0 = v → v ≠ 0 → False := by
    intro k hk h0
    unfold numberF at hk
    repeat' split at hk
    all_goals first
      | omega
      | (simp [funcNo] at hk; omega)
  have hkf : kfnd v 4 12 = none := by
    simp only [kfnd]
    repeat' split
    all_goals first
      | rfl
      | (rename_i hh; exact (e _ hh.1 hh.2).elim)
  have hf : fnd v 13 1 = none := by
    have n1 : ¬ numberF 15 1 = v := fun h => b1 (by rw [← h]; rfl)
    have n2 : ¬ numberF 15 2 = v := fun h => b2 (by rw [← h]; rfl)
    have n3 : ¬ numberF 15 3 = v := fun h => b3 (by rw [← h]; rfl)
    have n4 : ¬ numberF 15 4 = v := fun h => b4 (by rw [← h]; rfl)
    have n5 : ¬ numberF 15 5 = v := fun h => b5 (by rw [← h]; rfl)
    have n6 : ¬ numberF 15 6 = v := fun h => b6 (by rw [← h]; rfl)
    have n7 : ¬ numberF 15 7 = v := fun h => b7 (by rw [← h]; rfl)
    have n8 : ¬ numberF 15 8 = v := fun h => b8 (by rw [← h]; rfl)
    have n9 : ¬ numberF 15 9 = v := fun h => b9 (by rw [← h]; rfl)
    have n10 : ¬ numberF 15 10 = v := fun h => c1 (by rw [← h]; rfl)
    have n11 : ¬ numberF 15 11 = v := fun h => c2 (by rw [← h]; rfl)
    have n12 : ¬ numberF 15 12 = v := fun h => c3 (by rw [← h]; rfl)
    simp [fnd, n1, n2, n3, n4, n5, n6, n7, n8, n9, n10, n11, n12]
  unfold tailK
  rw [hkf, hf]
/-! The parts' bytes are the string's. -/
theorem splitB_mem : ∀ (k : Nat) (s p : ByteArray), p ∈ Lib.splitB ⟨#[59]⟩ 0 k s → ∀ c ∈ p.data.toList, c ∈ s.data.toList
  | 0, s, p, h, c, hc => by
    simp [Lib.splitB] at h; subst h; exact hc
  | k + 1, s, p, h, c, hc => by
    unfold Lib.splitB at h
    split at h
    · simp at h; subst h; exact hc
    · rcases List.mem_cons.1 h with h | h
      · subst h
        rw [Lib.extract_from_zero] at hc
        exact List.mem_of_mem_take hc
      · have := splitB_mem k _ p h c hc
        rw [Lib.extract_to_end] at this
        exact List.mem_of_mem_drop this
theorem parts_ds {s : ByteArray} (hd : ∀ c ∈ s.data.toList, dsB c = true) {p : ByteArray} (hp : p ∈ partsOf s) : ∀ c ∈ p.data.toList, dsB c = true := fun c hc => hd c (splitB_mem _ _ _ hp c hc)
theorem told2_ne {s p0 : ByteArray} {np : Nat} {last h : Int} (hE : s.toList.isEmpty = false) : told2 s p0 np last h = match srch last (condC s p0 np) 7 6 with | some k => some ⟨k, 0, 0, h⟩ | none => if last ≠ 126 then none else tail126 p0 h := by
  unfold told2; rw [if_neg (by rw [hE]; simp)]; rfl
theorem srch_false (last : Int) : srch last false 7 6 = none := srch_no _ _ (fun k h => by simp at h) _ _
theorem srch_90 (C : Bool) : srch 90 C 7 6 = none := srch_no _ _ (fun k h => letter_no90 k h.1) _ _
theorem srch_126 (C : Bool) : srch 126 C 7 6 = none := srch_no _ _ (fun k h => letter_no126 k h.1) _ _
theorem cond_one {s p0 : ByteArray} (hE : s.toList.isEmpty = false) : condC s p0 1 = false := condC_1 hE
theorem ko_bad {s : ByteArray} {last : Int} {k : Key} {ok : Bool} (h : numsOk s = false) (hK : KOIs s last k ok) : ok = false := by unfold KOIs at hK; rw [if_pos h] at hK; exact hK
theorem ko_90 {s : ByteArray} {k : Key} {ok : Bool} (h : numsOk s = true) (hK : KOIs s 90 k ok) : k = ⟨3, 0, 0, 1⟩ ∧ ok = decide ((numsOf s).length = 0) := by unfold KOIs at hK; rw [if_neg (by rw [h]; decide), if_pos rfl] at hK; exact hK
theorem ko_hd {s : ByteArray} {last : Int} {k : Key} {ok : Bool} (h : numsOk s = true) (h90 : ¬ last = 90) (hh : heldOf (numsOf s) < 0 ∨ 7 < heldOf (numsOf s)) (hK : KOIs s last k ok) : ok = false := by unfold KOIs at hK; rw [if_neg (by rw [h]; decide), if_neg h90, if_pos hh] at hK; exact hK
theorem ko_or {s : ByteArray} {last : Int} {k : Key} {ok : Bool} (h : numsOk s = true) (h90 : ¬ last = 90) (hh : ¬ (heldOf (numsOf s) < 0 ∨ 7 < heldOf (numsOf s))) (hK : KOIs s last k ok) :
    (ok = true ∧ ∃ (j : Nat) (k0 : Key) (t : ByteArray), seqAll[j]? = some (k0, t) ∧ fits (numsOf s) last t = true ∧ k = ⟨k0.f0, k0.f1, k0.f2, heldOf (numsOf s)⟩) ∨ (ok = false ∧ ∀ (j : Nat) (k0 : Key) (t : ByteArray), seqAll[j]? = some (k0, t) → fits (numsOf s) last t = false) := by
  unfold KOIs at hK; rw [if_neg (by rw [h]; decide), if_neg h90, if_neg hh] at hK; exact hK
def Agree (o : Option Key) (k : Key) (ok : Bool) : Prop := (ok = true ∧ o = some k) ∨ (ok = false ∧ o = none)
/-- Letters: 'yes' says whether the numbers are right ones. -/
theorem agree_letter {last h : Int} {n : List Int} {k : Key} {ok yes : Bool} {o : Option Key} (h6 : ¬ last = 126) (hn : (decide (n.length = 0) || (decide (n.length = 2) && n.getD 0 0 == 1)) = yes)
    (ho : o = match srch last yes 7 6 with | some k => some ⟨k, 0, 0, h⟩ | none => none)
    (hK : (ok = true ∧ ∃ (j : Nat) (k0 : Key) (t : ByteArray), seqAll[j]? = some (k0, t) ∧ fits n last t = true ∧ k = ⟨k0.f0, k0.f1, k0.f2, h⟩) ∨ (ok = false ∧ ∀ (j : Nat) (k0 : Key) (t : ByteArray), seqAll[j]? = some (k0, t) → fits n last t = false)) : Agree o k ok := by
  rcases hK with ⟨hok, j, k0, t, hj, hf, rfl⟩ | ⟨hok, hno⟩
  · by_cases hl : lastB t = last
    · rw [fits_ne hl h6, hn] at hf
      subst hf
      obtain ⟨h1, h2, h3⟩ := letter_hit hj hl h6
      rw [h1] at ho
      exact .inl ⟨hok, by rw [ho, h2, h3]⟩
    · rw [fits_last hl] at hf; cases hf
  · cases yes with
    | false => rw [srch_false] at ho; exact .inr ⟨hok, ho⟩
    | true =>
      rw [letter_none (fun j k0 t hj hl => by have := hno j k0 t hj; rw [fits_ne hl h6, hn] at this; cases this)] at ho
      exact .inr ⟨hok, ho⟩
/-- The tilde. -/
theorem agree_tilde {h v : Int} {n : List Int} {k : Key} {ok : Bool} {o : Option Key} (hv : 0 ≤ v) (hn : (1 ≤ n.length ∧ n.length ≤ 2) ∧ n.getD 0 0 = v) (ho : o = tailK v h)
    (hK : (ok = true ∧ ∃ (j : Nat) (k0 : Key) (t : ByteArray), seqAll[j]? = some (k0, t) ∧ fits n 126 t = true ∧ k = ⟨k0.f0, k0.f1, k0.f2, h⟩) ∨ (ok = false ∧ ∀ (j : Nat) (k0 : Key) (t : ByteArray), seqAll[j]? = some (k0, t) → fits n 126 t = false)) : Agree o k ok := by
  obtain ⟨⟨hn1, hn2⟩, hn0⟩ := hn
  have hfe : ∀ t : ByteArray, lastB t = 126 → fits n 126 t = ((⟨(Lib.itoa v).toArray⟩ ++ ⟨#[126]⟩ : ByteArray).toList == t.toList) := fun t hl => by
    rw [fits_eq hl, hn0, decide_eq_true hn1, decide_eq_true hn2]; rfl
  rcases hK with ⟨hok, j, k0, t, hj, hf, rfl⟩ | ⟨hok, hno⟩
  · by_cases hl : lastB t = 126
    · rw [hfe t hl] at hf
      exact .inl ⟨hok, by rw [ho, number_hit hj hl hv hf]⟩
    · rw [fits_last hl] at hf; cases hf
  · exact .inr ⟨hok, by rw [ho]; exact number_none (fun j k0 t hj hl => by rw [← hfe t hl]; exact hno j k0 t hj)⟩
/-- Nothing fits. -/
theorem agree_none {last h : Int} {n : List Int} {k : Key} {ok : Bool} {o : Option Key} (ho : o = none) (hn : ∀ t, fits n last t = false)
    (hK : (ok = true ∧ ∃ (j : Nat) (k0 : Key) (t : ByteArray), seqAll[j]? = some (k0, t) ∧ fits n last t = true ∧ k = ⟨k0.f0, k0.f1, k0.f2, h⟩) ∨ (ok = false ∧ ∀ (j : Nat) (k0 : Key) (t : ByteArray), seqAll[j]? = some (k0, t) → fits n last t = false)) : Agree o k ok := by
  rcases hK with ⟨_, _, _, t, _, hf, _⟩ | ⟨hok, _⟩
  · rw [hn t] at hf; cases hf
  · exact .inr ⟨hok, ho⟩
end Go.Proofs.YtampklajoikbiaaDoor

/- keyOf and told agree. -/
set_option linter.unusedVariables false
set_option linter.unusedSimpArgs false
namespace Go.Proofs.YtampklajoikbiaaDoor
open Go.RowKit Go.Proofs.YtampklajoikbiaaDoorW.PrintWords PKeysRead

theorem numsOk_e {s : ByteArray} (h : s.toList.isEmpty = true) : numsOk s = true ∧ numsOf s = [] := by
  unfold numsOk numsOf; rw [h]; exact ⟨rfl, rfl⟩
theorem numsOk_n {s : ByteArray} (h : s.toList.isEmpty = false) : numsOk s = allOk (partsOf s) ∧ numsOf s = (partsOf s).map atoiV := by
  unfold numsOk numsOf; rw [h]; exact ⟨rfl, rfl⟩
theorem isOk_empty {s : ByteArray} (h : s.toList.isEmpty = true) : isOk s = false := by
  rw [ByteArray.toList_eq] at h
  have e : s.data.toList = [] := by simpa using h
  unfold isOk; rw [e]; rfl
theorem one_not {s : ByteArray} (h : isOk s = false) : one48 s = false := by
  cases h1 : one48 s with
  | false => rfl
  | true => rw [(one_ok h1).1] at h; cases h
theorem fits_three {n : List Int} {last : Int} {t : ByteArray} (h : 2 < n.length) : fits n last t = false := by
  by_cases hl : lastB t = last
  · by_cases h6 : last = 126
    · subst h6; rw [fits_eq hl, decide_eq_false (show ¬ n.length ≤ 2 by omega)]; simp
    · rw [fits_ne hl h6, decide_eq_false (show ¬ n.length = 0 by omega), decide_eq_false (show ¬ n.length = 2 by omega)]; rfl
  · exact fits_last hl
theorem told2_let {s p0 : ByteArray} {np : Nat} {last h : Int} {yes : Bool} (h90 : ¬ (last = 90 ∧ s.toList.isEmpty = true)) (h6 : ¬ last = 126) (hc : condC s p0 np = yes) :
    told2 s p0 np last h = match srch last yes 7 6 with | some k => some ⟨k, 0, 0, h⟩ | none => none := by
  unfold told2; rw [if_neg h90, hc]
  cases srch last yes 7 6 with
  | some k => rfl
  | none => simp [h6]
theorem told2_til {s p0 : ByteArray} {np : Nat} {h : Int} : told2 s p0 np 126 h = tail126 p0 h := told2_tail (srch_126 _)
theorem told2_Z {s p0 : ByteArray} {np : Nat} {h : Int} (hE : s.toList.isEmpty = false) : told2 s p0 np 90 h = none := by
  rw [told2_let (by rw [hE]; simp) (by decide) rfl, srch_90]

theorem ko_told {s : ByteArray} {last : Int} {k : Key} {ok : Bool} (hd : ∀ c ∈ s.data.toList, dsB c = true) (hs : s.size ≤ 10) (hK : KOIs s last k ok) : Agree (toldF s last) k ok := by
  have hpd : ∀ p, p ∈ partsOf s → ∀ c ∈ p.data.toList, dsB c = true := fun p hp => parts_ds hd hp
  have hbd : ∀ p, p ∈ partsOf s → isOk p = true → 0 ≤ atoiV p ∧ atoiV p ≤ 9999999999 := fun p hp ho => atoi_bd (hpd p hp) (Nat.le_trans (parts_size hp) hs) ho
  unfold toldF
  cases hE : s.toList.isEmpty with
  | true =>
    obtain ⟨h1, h2⟩ := numsOk_e hE
    rw [parts_empty hE]
    show Agree (told2 s s 1 last 0) k ok
    by_cases h90 : last = 90
    · subst h90
      obtain ⟨rfl, h4⟩ := ko_90 h1 hK
      rw [h2] at h4
      exact .inl ⟨h4, by unfold told2; rw [if_pos ⟨rfl, hE⟩]⟩
    · have hor := ko_or h1 h90 (by rw [h2]; decide) hK
      rw [h2] at hor
      have hh : heldOf [] = 0 := rfl
      rw [hh] at hor
      by_cases h6 : last = 126
      · subst h6
        refine agree_none (by rw [told2_til, tail_bad (isOk_empty hE)]) (fun t => ?_) hor
        by_cases hl : lastB t = 126
        · rw [fits_eq hl]; rfl
        · exact fits_last hl
      · exact agree_letter (yes := true) h6 rfl (told2_let (fun h => h90 h.1) h6 (condC_nil hE)) hor
  | false =>
    obtain ⟨h1, h2⟩ := numsOk_n hE
    have hl := parts_len s
    cases hp : partsOf s with
    | nil => rw [hp] at hl; simp at hl
    | cons p0 r =>
      rw [hp] at h1 h2 hpd hbd
      have d0 := hpd p0 (by simp)
      have b0 := hbd p0 (by simp)
      cases r with
      | nil =>
        show Agree (told2 s p0 1 last 0) k ok
        cases hk : isOk p0 with
        | false =>
          have hno := ko_bad (by rw [h1]; simp [allOk, hk]) hK
          refine .inr ⟨hno, ?_⟩
          by_cases h6 : last = 126
          · subst h6; rw [told2_til, tail_bad hk]
          · rw [told2_let (by rw [hE]; simp) h6 (condC_1 hE), srch_false]
        | true =>
          have h3 : numsOk s = true := by rw [h1]; simp [allOk, hk]
          by_cases h90 : last = 90
          · subst h90
            obtain ⟨_, h4⟩ := ko_90 h3 hK
            rw [h2] at h4
            exact .inr ⟨h4, told2_Z hE⟩
          · have hor := ko_or h3 h90 (by rw [h2]; show ¬ ((0 : Int) < 0 ∨ 7 < (0 : Int)); decide) hK
            rw [h2] at hor
            have hh : heldOf (List.map atoiV [p0]) = 0 := rfl
            rw [hh] at hor
            by_cases h6 : last = 126
            · subst h6
              exact agree_tilde (b0 hk).1 ⟨by simp, rfl⟩ (by rw [told2_til, tail126_eq, if_pos hk]) hor
            · exact agree_letter (yes := false) h6 rfl (told2_let (fun h => h90 h.1) h6 (condC_1 hE)) hor
      | cons p1 r =>
        have d1 := hpd p1 (by simp)
        cases r with
        | nil =>
          show Agree (if isOk p1 = true ∧ 1 ≤ atoiV p1 ∧ atoiV p1 ≤ 8 then told2 s p0 2 last (atoiV p1 - 1) else none) k ok
          by_cases hc : isOk p1 = true ∧ 1 ≤ atoiV p1 ∧ atoiV p1 ≤ 8
          · rw [if_pos hc]
            obtain ⟨hk1, hv1, hv8⟩ := hc
            cases hk : isOk p0 with
            | false =>
              have hno := ko_bad (by rw [h1]; simp [allOk, hk]) hK
              refine .inr ⟨hno, ?_⟩
              by_cases h6 : last = 126
              · subst h6; rw [told2_til, tail_bad hk]
              · rw [told2_let (by rw [hE]; simp) h6 ((condC_2 hE).trans (one_not hk)), srch_false]
            | true =>
              have h3 : numsOk s = true := by rw [h1]; simp [allOk, hk, hk1]
              by_cases h90 : last = 90
              · subst h90
                obtain ⟨_, h4⟩ := ko_90 h3 hK
                rw [h2] at h4
                exact .inr ⟨h4, told2_Z hE⟩
              · have hh : heldOf (List.map atoiV [p0, p1]) = atoiV p1 - 1 := rfl
                have hor := ko_or h3 h90 (by rw [h2, hh]; omega) hK
                rw [h2, hh] at hor
                by_cases h6 : last = 126
                · subst h6
                  exact agree_tilde (b0 hk).1 ⟨by simp, rfl⟩ (by rw [told2_til, tail126_eq, if_pos hk]) hor
                · exact agree_letter (yes := one48 p0) h6 (by rw [one_iff d0 hk]; rfl) (told2_let (fun h => h90 h.1) h6 (condC_2 hE)) hor
          · rw [if_neg hc]
            refine .inr ⟨?_, rfl⟩
            cases hk1 : isOk p1 with
            | false => exact ko_bad (by rw [h1]; simp [allOk, hk1]) hK
            | true =>
              cases hk : isOk p0 with
              | false => exact ko_bad (by rw [h1]; simp [allOk, hk]) hK
              | true =>
                have h3 : numsOk s = true := by rw [h1]; simp [allOk, hk, hk1]
                by_cases h90 : last = 90
                · subst h90
                  obtain ⟨_, h4⟩ := ko_90 h3 hK
                  rw [h2] at h4
                  exact h4
                · have hh : heldOf (List.map atoiV [p0, p1]) = atoiV p1 - 1 := rfl
                  have h5 : ¬ (1 ≤ atoiV p1 ∧ atoiV p1 ≤ 8) := fun h => hc ⟨hk1, h⟩
                  exact ko_hd h3 h90 (by rw [h2, hh]; omega) hK
        | cons p2 r =>
          show Agree none k ok
          cases hk : numsOk s with
          | false => exact .inr ⟨ko_bad hk hK, rfl⟩
          | true =>
            have h3 : 2 < (numsOf s).length := by rw [h2]; simp
            by_cases h90 : last = 90
            · subst h90
              obtain ⟨_, h4⟩ := ko_90 hk hK
              rw [decide_eq_false (by omega)] at h4
              exact .inr ⟨h4, rfl⟩
            · have hh : heldOf (numsOf s) = 0 := by unfold heldOf; rw [if_neg (by omega)]
              exact agree_none rfl (fun t => fits_three h3) (ko_or hk h90 (by rw [hh]; decide) hK)
end Go.Proofs.YtampklajoikbiaaDoor
