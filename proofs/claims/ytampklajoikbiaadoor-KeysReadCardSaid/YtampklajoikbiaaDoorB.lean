/- How wide a rune is: text.Width and trellisref.WidthOf answer, and answer alike. -/
import Derived.Test.YtampklajoikbiaaDoorPKeysReadx7
import Derived.Test.YtampklajoikbiaaDoorPKeysReadx3
set_option linter.unusedVariables false
set_option linter.unusedSimpArgs false
namespace Go.Proofs.YtampklajoikbiaaDoor
open Go.RowKit Go.Proofs.YtampklajoikbiaaDoorW.PrintWords PKeysRead

theorem w64_in (i : Int) (h0 : 0 ≤ i) (h1 : i < 1000000) : wrap64 (i + 1) = i + 1 := by unfold wrap64; omega

def inSp (a : Int) : List S116 → Bool
  | [] => false
  | s :: r => (decide (s.f0 ≤ a) && decide (a ≤ s.f1)) || inSp a r

theorem within_some (a : Int) (l : List S116) (hl : l.length < 1000) (d : Nat) : ∀ (k : Nat) (i : Nat), i ≤ l.length → l.length - i = d → d < k → text_within.l0 k a l (l.length : Int) (i : Int) = some (inSp a (l.drop i)) := by
  induction d with
  | zero =>
    intro k i hi hd hk
    obtain ⟨k, rfl⟩ : ∃ m, k = m + 1 := ⟨k - 1, by omega⟩
    have hi' : i = l.length := by omega
    subst hi'
    simp only [text_within.l0]
    rw [if_neg (by omega)]
    simp [inSp]
  | succ d ih =>
    intro k i hi hd hk
    obtain ⟨k, rfl⟩ : ∃ m, k = m + 1 := ⟨k - 1, by omega⟩
    have hlt : i < l.length := by omega
    have hr : rd_T116 l (i : Int) = l[i] := by unfold rd_T116; simp [List.getD_eq_getElem?_getD, hlt]
    have hdr : l.drop i = l[i] :: l.drop (i + 1) := List.drop_eq_getElem_cons hlt
    simp only [text_within.l0]
    rw [if_pos (by omega), if_pos (by omega), if_pos (by omega), hr, w64_in _ (by omega) (by omega), hdr]
    have h := ih k (i + 1) (by omega) (by omega) (by omega)
    rw [show ((i : Int) + 1) = ((i + 1 : Nat) : Int) by omega, h]
    simp only [inSp]
    by_cases h1 : l[i].f0 ≤ a
    · by_cases h2 : a ≤ l[i].f1
      · simp [h1, h2]
      · simp [h1, h2]
    · simp [h1]

def noneL : List S116 := [(⟨0, 31⟩ : S116), (⟨127, 159⟩ : S116), (⟨768, 879⟩ : S116), (⟨8203, 8207⟩ : S116), (⟨8232, 8238⟩ : S116), (⟨8400, 8447⟩ : S116), (⟨55296, 57343⟩ : S116), (⟨65024, 65039⟩ : S116), (⟨65279, 65279⟩ : S116)]
def wideL : List S116 := [(⟨4352, 4447⟩ : S116), (⟨11904, 12350⟩ : S116), (⟨12353, 13311⟩ : S116), (⟨13312, 19903⟩ : S116), (⟨19968, 40959⟩ : S116), (⟨40960, 42191⟩ : S116), (⟨44032, 55203⟩ : S116), (⟨63744, 64255⟩ : S116), (⟨65072, 65135⟩ : S116), (⟨65280, 65376⟩ : S116), (⟨65504, 65510⟩ : S116), (⟨127744, 128591⟩ : S116), (⟨129280, 129535⟩ : S116), (⟨131072, 262141⟩ : S116)]
def wid (a : Int) : Int := if a < 0 ∨ 1114111 < a then 0 else if inSp a noneL then 0 else if inSp a wideL then 2 else 1

theorem none_some (a : Int) : text_none.f 50 a = some (inSp a noneL) := by
  unfold text_none.f text_within.f
  rw [show (0 : Int) = ((0 : Nat) : Int) from rfl, within_some a _ (by decide) _ 50 0 (by omega) rfl (by decide)]
  rfl
theorem wide_some (a : Int) : text_wide.f 50 a = some (inSp a wideL) := by
  unfold text_wide.f text_within.f
  rw [show (0 : Int) = ((0 : Nat) : Int) from rfl, within_some a _ (by decide) _ 50 0 (by omega) rfl (by decide)]
  rfl
theorem leO_some {α : Type} {x y : Option α} {r : α} (h : LeO x y) (hx : x = some r) : y = some r := h r hx
theorem none_some' (a : Int) : text_none.f 51 a = some (inSp a noneL) := leO_some (text_none.mono a 50) (none_some a)
theorem width_some (a : Int) : text_Width.f 51 a = some (wid a) := by
  unfold text_Width.f wid
  by_cases h1 : a < 0
  · rw [if_pos h1, if_pos (Or.inl h1)]; simp [text_Width.j0]
  · by_cases h2 : a > 1114111
    · rw [if_neg h1, if_pos h2, if_pos (Or.inr h2)]; simp [text_Width.j0]
    · rw [if_neg h1, if_neg h2, if_neg (by omega), none_some']
      simp only [Option.bind_some, text_Width.j0, wide_some]
      cases hn : inSp a noneL <;> cases hw : inSp a wideL <;> simp

theorem Width_calls (a : Int) (w : World) : Calls Tryd.prog 36 #[.int .i32 a] w fun e w' => e = .returned (.int .i64 (wid a)) ∧ Below w.heap.size w w' := text_Width.calls 51 a _ w (width_some a)

def edgeL : List S93 := [(⟨0, 0⟩ : S93), (⟨32, 1⟩ : S93), (⟨127, 0⟩ : S93), (⟨160, 1⟩ : S93), (⟨768, 0⟩ : S93), (⟨880, 1⟩ : S93), (⟨4352, 2⟩ : S93), (⟨4448, 1⟩ : S93), (⟨8203, 0⟩ : S93), (⟨8208, 1⟩ : S93), (⟨8232, 0⟩ : S93), (⟨8239, 1⟩ : S93), (⟨8400, 0⟩ : S93), (⟨8448, 1⟩ : S93), (⟨11904, 2⟩ : S93), (⟨12351, 1⟩ : S93), (⟨12353, 2⟩ : S93), (⟨19904, 1⟩ : S93), (⟨19968, 2⟩ : S93), (⟨42192, 1⟩ : S93), (⟨44032, 2⟩ : S93), (⟨55204, 1⟩ : S93), (⟨55296, 0⟩ : S93), (⟨57344, 1⟩ : S93), (⟨63744, 2⟩ : S93), (⟨64256, 1⟩ : S93), (⟨65024, 0⟩ : S93), (⟨65040, 1⟩ : S93), (⟨65072, 2⟩ : S93), (⟨65136, 1⟩ : S93), (⟨65279, 0⟩ : S93), (⟨65280, 2⟩ : S93), (⟨65377, 1⟩ : S93), (⟨65504, 2⟩ : S93), (⟨65511, 1⟩ : S93), (⟨127744, 2⟩ : S93), (⟨128592, 1⟩ : S93), (⟨129280, 2⟩ : S93), (⟨129536, 1⟩ : S93), (⟨131072, 2⟩ : S93), (⟨262142, 1⟩ : S93)]
def edgeV (a : Int) : Int → List S93 → Int
  | v, [] => v
  | v, s :: r => edgeV a (if s.f0 ≤ a then s.f1 else v) r

theorem edge_some (a : Int) (l : List S93) (hl : l.length < 1000) (d : Nat) : ∀ (k : Nat) (i : Nat) (v : Int), i ≤ l.length → l.length - i = d → d < k → trellisref_WidthOf.l0 k a v l (l.length : Int) (i : Int) = some (edgeV a v (l.drop i)) := by
  induction d with
  | zero =>
    intro k i v hi hd hk
    obtain ⟨k, rfl⟩ : ∃ m, k = m + 1 := ⟨k - 1, by omega⟩
    have hi' : i = l.length := by omega
    subst hi'
    simp only [trellisref_WidthOf.l0]
    rw [if_neg (by omega)]
    simp [edgeV]
  | succ d ih =>
    intro k i v hi hd hk
    obtain ⟨k, rfl⟩ : ∃ m, k = m + 1 := ⟨k - 1, by omega⟩
    have hlt : i < l.length := by omega
    have hr : rd_T93 l (i : Int) = l[i] := by unfold rd_T93; simp [List.getD_eq_getElem?_getD, hlt]
    have hdr : l.drop i = l[i] :: l.drop (i + 1) := List.drop_eq_getElem_cons hlt
    simp only [trellisref_WidthOf.l0]
    rw [if_pos (by omega), if_pos (by omega), if_pos (by omega), hr, w64_in _ (by omega) (by omega), hdr]
    rw [show ((i : Int) + 1) = ((i + 1 : Nat) : Int) by omega, ih k (i + 1) _ (by omega) (by omega) (by omega), ih k (i + 1) _ (by omega) (by omega) (by omega)]
    simp only [edgeV]
    by_cases h1 : l[i].f0 ≤ a
    · simp [h1]
    · simp [h1]

def widE (a : Int) : Int := if a < 0 ∨ 1114111 < a then 0 else edgeV a 0 edgeL
theorem widthOf_some (a : Int) : trellisref_WidthOf.f 60 a = some (widE a) := by
  unfold trellisref_WidthOf.f widE
  by_cases h1 : a < 0
  · rw [if_pos h1, if_pos (Or.inl h1)]; simp [trellisref_WidthOf.j0]
  · rw [if_neg h1]
    by_cases h2 : a > 1114111
    · rw [if_pos (Or.inr h2)]; simp [trellisref_WidthOf.j0, h2]
    · rw [if_neg (by omega)]
      simp only [trellisref_WidthOf.j0, h2, decide_false, Option.bind_some]
      rw [if_neg (by simp)]
      exact edge_some a edgeL (by decide) _ 59 0 0 (by omega) rfl (by decide)

/-- The last edge at or below 'a' decides. -/
def lastE (a : Int) (v : Int) : List S93 → Int
  | [] => v
  | s :: r => if s.f0 ≤ a then s.f1 else lastE a v r
theorem lastE_snoc (a v : Int) (s : S93) : ∀ l : List S93, lastE a v (l ++ [s]) = lastE a (if s.f0 ≤ a then s.f1 else v) l
  | [] => by simp [lastE]
  | x :: r => by simp only [List.cons_append, lastE, lastE_snoc a v s r]
theorem edge_last (a : Int) : ∀ (l : List S93) (v : Int), edgeV a v l = lastE a v l.reverse
  | [], v => rfl
  | s :: r, v => by simp only [edgeV, List.reverse_cons, lastE_snoc, edge_last a r]

theorem wid_ne (a : Int) (h : wid a ≠ 0) : 0 ≤ a ∧ a ≤ 1114111 := by
  unfold wid at h
  split at h
  · exact absurd rfl h
  · omega
set_option maxHeartbeats 4000000 in
theorem wid_eq (a : Int) : wid a = widE a := by
  unfold wid widE
  by_cases h0 : a < 0 ∨ 1114111 < a
  · rw [if_pos h0, if_pos h0]
  · rw [if_neg h0, if_neg h0, edge_last]
    show _ = lastE a 0 [(⟨262142, 1⟩ : S93), (⟨131072, 2⟩ : S93), (⟨129536, 1⟩ : S93), (⟨129280, 2⟩ : S93), (⟨128592, 1⟩ : S93), (⟨127744, 2⟩ : S93), (⟨65511, 1⟩ : S93), (⟨65504, 2⟩ : S93), (⟨65377, 1⟩ : S93), (⟨65280, 2⟩ : S93), (⟨65279, 0⟩ : S93), (⟨65136, 1⟩ : S93), (⟨65072, 2⟩ : S93), (⟨65040, 1⟩ : S93), (⟨65024, 0⟩ : S93), (⟨64256, 1⟩ : S93), (⟨63744, 2⟩ : S93), (⟨57344, 1⟩ : S93), (⟨55296, 0⟩ : S93), (⟨55204, 1⟩ : S93), (⟨44032, 2⟩ : S93), (⟨42192, 1⟩ : S93), (⟨19968, 2⟩ : S93), (⟨19904, 1⟩ : S93), (⟨12353, 2⟩ : S93), (⟨12351, 1⟩ : S93), (⟨11904, 2⟩ : S93), (⟨8448, 1⟩ : S93), (⟨8400, 0⟩ : S93), (⟨8239, 1⟩ : S93), (⟨8232, 0⟩ : S93), (⟨8208, 1⟩ : S93), (⟨8203, 0⟩ : S93), (⟨4448, 1⟩ : S93), (⟨4352, 2⟩ : S93), (⟨880, 1⟩ : S93), (⟨768, 0⟩ : S93), (⟨160, 1⟩ : S93), (⟨127, 0⟩ : S93), (⟨32, 1⟩ : S93), (⟨0, 0⟩ : S93)]
    simp only [lastE, inSp, noneL, wideL, Bool.or_false, Bool.or_eq_true, Bool.and_eq_true, decide_eq_true_eq]
    by_cases h262142 : (262142 : Int) ≤ a
    · rw [if_pos h262142]
      rw [if_neg (by omega), if_neg (by omega)]
    rw [if_neg h262142]
    by_cases h131072 : (131072 : Int) ≤ a
    · rw [if_pos h131072]
      rw [if_neg (by omega), if_pos (by omega)]
    rw [if_neg h131072]
    by_cases h129536 : (129536 : Int) ≤ a
    · rw [if_pos h129536]
      rw [if_neg (by omega), if_neg (by omega)]
    rw [if_neg h129536]
    by_cases h129280 : (129280 : Int) ≤ a
    · rw [if_pos h129280]
      rw [if_neg (by omega), if_pos (by omega)]
    rw [if_neg h129280]
    by_cases h128592 : (128592 : Int) ≤ a
    · rw [if_pos h128592]
      rw [if_neg (by omega), if_neg (by omega)]
    rw [if_neg h128592]
    by_cases h127744 : (127744 : Int) ≤ a
    · rw [if_pos h127744]
      rw [if_neg (by omega), if_pos (by omega)]
    rw [if_neg h127744]
    by_cases h65511 : (65511 : Int) ≤ a
    · rw [if_pos h65511]
      rw [if_neg (by omega), if_neg (by omega)]
    rw [if_neg h65511]
    by_cases h65504 : (65504 : Int) ≤ a
    · rw [if_pos h65504]
      rw [if_neg (by omega), if_pos (by omega)]
    rw [if_neg h65504]
    by_cases h65377 : (65377 : Int) ≤ a
    · rw [if_pos h65377]
      rw [if_neg (by omega), if_neg (by omega)]
    rw [if_neg h65377]
    by_cases h65280 : (65280 : Int) ≤ a
    · rw [if_pos h65280]
      rw [if_neg (by omega), if_pos (by omega)]
    rw [if_neg h65280]
    by_cases h65279 : (65279 : Int) ≤ a
    · rw [if_pos h65279]
      rw [if_pos (by omega)]
    rw [if_neg h65279]
    by_cases h65136 : (65136 : Int) ≤ a
    · rw [if_pos h65136]
      rw [if_neg (by omega), if_neg (by omega)]
    rw [if_neg h65136]
    by_cases h65072 : (65072 : Int) ≤ a
    · rw [if_pos h65072]
      rw [if_neg (by omega), if_pos (by omega)]
    rw [if_neg h65072]
    by_cases h65040 : (65040 : Int) ≤ a
    · rw [if_pos h65040]
      rw [if_neg (by omega), if_neg (by omega)]
    rw [if_neg h65040]
    by_cases h65024 : (65024 : Int) ≤ a
    · rw [if_pos h65024]
      rw [if_pos (by omega)]
    rw [if_neg h65024]
    by_cases h64256 : (64256 : Int) ≤ a
    · rw [if_pos h64256]
      rw [if_neg (by omega), if_neg (by omega)]
    rw [if_neg h64256]
    by_cases h63744 : (63744 : Int) ≤ a
    · rw [if_pos h63744]
      rw [if_neg (by omega), if_pos (by omega)]
    rw [if_neg h63744]
    by_cases h57344 : (57344 : Int) ≤ a
    · rw [if_pos h57344]
      rw [if_neg (by omega), if_neg (by omega)]
    rw [if_neg h57344]
    by_cases h55296 : (55296 : Int) ≤ a
    · rw [if_pos h55296]
      rw [if_pos (by omega)]
    rw [if_neg h55296]
    by_cases h55204 : (55204 : Int) ≤ a
    · rw [if_pos h55204]
      rw [if_neg (by omega), if_neg (by omega)]
    rw [if_neg h55204]
    by_cases h44032 : (44032 : Int) ≤ a
    · rw [if_pos h44032]
      rw [if_neg (by omega), if_pos (by omega)]
    rw [if_neg h44032]
    by_cases h42192 : (42192 : Int) ≤ a
    · rw [if_pos h42192]
      rw [if_neg (by omega), if_neg (by omega)]
    rw [if_neg h42192]
    by_cases h19968 : (19968 : Int) ≤ a
    · rw [if_pos h19968]
      rw [if_neg (by omega), if_pos (by omega)]
    rw [if_neg h19968]
    by_cases h19904 : (19904 : Int) ≤ a
    · rw [if_pos h19904]
      rw [if_neg (by omega), if_neg (by omega)]
    rw [if_neg h19904]
    by_cases h12353 : (12353 : Int) ≤ a
    · rw [if_pos h12353]
      rw [if_neg (by omega), if_pos (by omega)]
    rw [if_neg h12353]
    by_cases h12351 : (12351 : Int) ≤ a
    · rw [if_pos h12351]
      rw [if_neg (by omega), if_neg (by omega)]
    rw [if_neg h12351]
    by_cases h11904 : (11904 : Int) ≤ a
    · rw [if_pos h11904]
      rw [if_neg (by omega), if_pos (by omega)]
    rw [if_neg h11904]
    by_cases h8448 : (8448 : Int) ≤ a
    · rw [if_pos h8448]
      rw [if_neg (by omega), if_neg (by omega)]
    rw [if_neg h8448]
    by_cases h8400 : (8400 : Int) ≤ a
    · rw [if_pos h8400]
      rw [if_pos (by omega)]
    rw [if_neg h8400]
    by_cases h8239 : (8239 : Int) ≤ a
    · rw [if_pos h8239]
      rw [if_neg (by omega), if_neg (by omega)]
    rw [if_neg h8239]
    by_cases h8232 : (8232 : Int) ≤ a
    · rw [if_pos h8232]
      rw [if_pos (by omega)]
    rw [if_neg h8232]
    by_cases h8208 : (8208 : Int) ≤ a
    · rw [if_pos h8208]
      rw [if_neg (by omega), if_neg (by omega)]
    rw [if_neg h8208]
    by_cases h8203 : (8203 : Int) ≤ a
    · rw [if_pos h8203]
      rw [if_pos (by omega)]
    rw [if_neg h8203]
    by_cases h4448 : (4448 : Int) ≤ a
    · rw [if_pos h4448]
      rw [if_neg (by omega), if_neg (by omega)]
    rw [if_neg h4448]
    by_cases h4352 : (4352 : Int) ≤ a
    · rw [if_pos h4352]
      rw [if_neg (by omega), if_pos (by omega)]
    rw [if_neg h4352]
    by_cases h880 : (880 : Int) ≤ a
    · rw [if_pos h880]
      rw [if_neg (by omega), if_neg (by omega)]
    rw [if_neg h880]
    by_cases h768 : (768 : Int) ≤ a
    · rw [if_pos h768]
      rw [if_pos (by omega)]
    rw [if_neg h768]
    by_cases h160 : (160 : Int) ≤ a
    · rw [if_pos h160]
      rw [if_neg (by omega), if_neg (by omega)]
    rw [if_neg h160]
    by_cases h127 : (127 : Int) ≤ a
    · rw [if_pos h127]
      rw [if_pos (by omega)]
    rw [if_neg h127]
    by_cases h32 : (32 : Int) ≤ a
    · rw [if_pos h32]
      rw [if_neg (by omega), if_neg (by omega)]
    rw [if_neg h32]
    by_cases h0 : (0 : Int) ≤ a
    · rw [if_pos h0]
      rw [if_pos (by omega)]
    rw [if_neg h0]
    omega

theorem WidthOf_calls (a : Int) (w : World) : Calls Tryd.prog 33 #[.int .i32 a] w fun e w' => e = .returned (.int .i64 (wid a)) ∧ Below w.heap.size w w' := by
  rw [wid_eq]
  exact trellisref_WidthOf.calls 60 a _ w (widthOf_some a)

def validR (a : Int) : Bool := decide (0 ≤ a ∧ a < 55296) || decide (57343 < a ∧ a ≤ 1114111)
theorem valid_some (a : Int) : utf8_ValidRune.f 1 a = some (validR a) := by
  unfold utf8_ValidRune.f validR
  by_cases h0 : 0 ≤ a
  · rw [if_pos h0]
    by_cases h1 : a < 55296
    · simp [utf8_ValidRune.j0, h0, h1]
    · by_cases h2 : 57343 < a <;> by_cases h3 : a ≤ 1114111 <;> simp [utf8_ValidRune.j0, h0, h1, h2, h3]
  · rw [if_neg h0]
    have h2 : ¬ 57343 < a := by omega
    simp [utf8_ValidRune.j0, h0, h2]
theorem ValidRune_calls (a : Int) (w : World) : Calls Tryd.prog 34 #[.int .i32 a] w fun e w' => e = .returned (.bool (validR a)) ∧ Below w.heap.size w w' := (utf8_ValidRune.calls 1 a _ w (valid_some a)).mono fun _ _ ⟨he, hw⟩ => ⟨he, hw.below⟩
end Go.Proofs.YtampklajoikbiaaDoor
