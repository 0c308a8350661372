/-
  THE PLAIN LAW of lexing: bytes, gaps, tokens.
-/
import Derived.Test.YtkmjflkodckflaaRows
import Derived.WalkKit
namespace Go.Proofs.Ytkmjflkodckflaa
set_option linter.unusedVariables false

/-- the bytes of a string, and back -/
def bl (s : ByteArray) : List Nat := s.data.toList.map UInt8.toNat
def ba (l : List Nat) : ByteArray := ⟨(l.map Nat.toUInt8).toArray⟩
theorem bl_len (s : ByteArray) : (bl s).length = s.size := by
  unfold bl
  rw [List.length_map, Array.length_toList]
  rfl
theorem bl_get {s : ByteArray} {i : Nat} (h : i < s.size) : (bl s)[i]? = some s[i].toNat := by
  have h' : i < s.data.size := h
  unfold bl
  rw [List.getElem?_map, Array.getElem?_toList, Array.getElem?_eq_getElem h']
  rfl
theorem bl_lt {s : ByteArray} : ∀ c ∈ bl s, c < 256 := by
  intro c hc
  simp only [bl, List.mem_map] at hc
  obtain ⟨x, _, rfl⟩ := hc
  exact UInt8.toNat_lt x
theorem ba_bl (s : ByteArray) : ba (bl s) = s := by
  cases s with
  | mk d =>
    simp only [ba, bl, List.map_map]
    congr 1
    have : (Nat.toUInt8 ∘ UInt8.toNat) = id := by funext x; simp [Function.comp]
    rw [this]
    simp
theorem bl_ba {l : List Nat} (h : ∀ c ∈ l, c < 256) : bl (ba l) = l := by
  simp only [bl, ba, List.map_map]
  conv => rhs; rw [← List.map_id l]
  refine List.map_congr_left fun c hc => ?_
  have := h c hc
  simp [Function.comp, Nat.toUInt8, UInt8.toNat_ofNat', Nat.mod_eq_of_lt this]
theorem bl_inj {s t : ByteArray} (h : bl s = bl t) : s = t := by rw [← ba_bl s, ← ba_bl t, h]
theorem bl_extract (s : ByteArray) (a b : Nat) : bl (s.extract a b) = ((bl s).drop a).take (b - a) := by
  simp [bl, ByteArray.data_extract]
theorem bl_append (s t : ByteArray) : bl (s ++ t) = bl s ++ bl t := by simp [bl, ByteArray.data_append]

def gapB (c : Nat) : Bool := decide (c = 32 ∨ c = 9 ∨ c = 10)
def lowB (c : Nat) : Bool := decide (97 ≤ c ∧ c ≤ 122)
def digB (c : Nat) : Bool := decide (48 ≤ c ∧ c ≤ 57)
def namB (c : Nat) : Bool := lowB c || digB c || decide (c = 95)
def punB (c : Nat) : Bool := decide (c = 59 ∨ c = 123 ∨ c = 125)
def nlB (c : Nat) : Bool := decide (c ≠ 10)
def kindB (c : Nat) : Int := if gapB c = true then 1 else if c = 35 then 2 else if lowB c = true then 3 else if digB c = true then 4 else if punB c = true then 5 else 0

/-- how far bytes of a kind reach -/
def spn (p : Nat → Bool) (l : List Nat) (a : Nat) : Nat := a + ((l.drop a).takeWhile p).length
theorem spn_end {p : Nat → Bool} {l : List Nat} {a : Nat} (h : l.length ≤ a) : spn p l a = a := by simp [spn, List.drop_eq_nil_of_le h]
theorem drop_cons {l : List Nat} {a c : Nat} (h : l[a]? = some c) : l.drop a = c :: l.drop (a + 1) := by
  obtain ⟨h1, h2⟩ := List.getElem?_eq_some_iff.1 h
  rw [List.drop_eq_getElem_cons h1, h2]
theorem spn_stop {p : Nat → Bool} {l : List Nat} {a c : Nat} (h : l[a]? = some c) (hp : p c = false) : spn p l a = a := by simp [spn, drop_cons h, hp]
theorem spn_on {p : Nat → Bool} {l : List Nat} {a c : Nat} (h : l[a]? = some c) (hp : p c = true) : spn p l a = spn p l (a + 1) := by
  simp only [spn, drop_cons h, List.takeWhile_cons, hp, if_true, List.length_cons]
  omega
theorem spn_le {p : Nat → Bool} {l : List Nat} {a : Nat} (h : a ≤ l.length) : spn p l a ≤ l.length := by
  have h1 : ((l.drop a).takeWhile p).length ≤ (l.drop a).length := (List.takeWhile_prefix p).length_le
  simp only [spn, List.length_drop] at *
  omega
theorem spn_ge (p : Nat → Bool) (l : List Nat) (a : Nat) : a ≤ spn p l a := by simp [spn]

/-- the value of digits, or an error -/
def valG : Int → List Nat → Int × Int
  | n, [] => (n, 0)
  | n, d :: t => if 1000000 < 10 * n + ((d : Int) - 48) then (0, 3) else valG (10 * n + ((d : Int) - 48)) t
def valD (l : List Nat) : Int × Int := if 1 < l.length ∧ l.head? = some 48 then (0, 7) else valG 0 l
/-- the token that bytes begin with: kind, text, number; its length; an error -/
def tok1 : List Nat → (Int × List Nat × Int) × Nat × Int
  | [] => ((0, [], 0), 0, 7)
  | c :: t =>
    if lowB c = true then (if 12 < ((c :: t).takeWhile namB).length then ((0, [], 0), ((c :: t).takeWhile namB).length, 3) else ((1, (c :: t).takeWhile namB, 0), ((c :: t).takeWhile namB).length, 0))
    else if digB c = true then (if (valD ((c :: t).takeWhile digB)).2 = 0 then ((2, [], (valD ((c :: t).takeWhile digB)).1), ((c :: t).takeWhile digB).length, 0) else ((0, [], 0), ((c :: t).takeWhile digB).length, (valD ((c :: t).takeWhile digB)).2))
    else if punB c = true then ((3, [c], 0), 1, 0)
    else ((0, [], 0), 0, 7)
/-- the length of the gap that bytes begin with (inside a comment: true) -/
def gapN : Bool → List Nat → Nat
  | _, [] => 0
  | true, c :: t => if c = 10 then 1 + gapN false t else 1 + gapN true t
  | false, c :: t => if gapB c = true then 1 + gapN false t else if c = 35 then 1 + gapN true t else 0
abbrev Tok := Int × List Nat × Int × Nat
/-- tokens, or an error and its place -/
inductive Res where
  | ok (l : List Tok)
  | err (e : Int) (p : Nat)
def Res.pre (t : Tok) : Res → Res
  | .ok l => .ok (t :: l)
  | .err e p => .err e p
/-- the tokens of bytes that lie at an offset, n tokens having come -/
def lexA (r : List Nat) (at_ n : Nat) : Res :=
  match h : r.drop (gapN false r) with
  | [] => .ok []
  | c :: t =>
    if n = 2000 then .err 2 (at_ + gapN false r)
    else if (tok1 (c :: t)).2.2 = 0 then (lexA (t.drop ((tok1 (c :: t)).2.1 - 1)) (at_ + gapN false r + (tok1 (c :: t)).2.1) (n + 1)).pre ((tok1 (c :: t)).1.1, (tok1 (c :: t)).1.2.1, (tok1 (c :: t)).1.2.2, at_ + gapN false r)
    else .err (tok1 (c :: t)).2.2 (at_ + gapN false r)
termination_by r.length
decreasing_by
  have h1 : (r.drop (gapN false r)).length ≤ r.length := by simp
  rw [h] at h1
  simp only [List.length_cons, List.length_drop] at *
  omega
/-- what has come, and what comes -/
def Res.app (a : List Tok) : Res → Res
  | .ok l => .ok (a ++ l)
  | .err e p => .err e p
end Go.Proofs.Ytkmjflkodckflaa
