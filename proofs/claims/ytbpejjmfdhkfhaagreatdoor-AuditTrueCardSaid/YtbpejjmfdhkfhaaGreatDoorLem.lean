/- Small lemmas: strings as lists of bytes; endings that are alike. -/
import Derived.Lib.Strings
import Derived.Lib.IndexBytes
import Derived.WalkKit
import Derived.Deep.QuietTactic
set_option linter.unusedVariables false
set_option linter.unusedSimpArgs false
namespace Go.Proofs.YtbpejjmfdhkfhaaGreatDoor
open Go.RowKit

theorem ba_ext {a b : ByteArray} (h : a.data.toList = b.data.toList) : a = b := by
  cases a; cases b; congr; exact Array.toList_inj.1 h
theorem ba_mk (s : ByteArray) : (⟨s.data.toList.toArray⟩ : ByteArray) = s := ba_ext rfl
theorem ba_app (a b : ByteArray) : (a ++ b).data.toList = a.data.toList ++ b.data.toList := by simp
theorem ba_head (s : ByteArray) (n : Nat) : (s.extract 0 n).data.toList = s.data.toList.take n := by
  rw [Lib.extract_data]; simp
theorem ba_tail (s : ByteArray) (n : Nat) : (s.extract n s.size).data.toList = s.data.toList.drop n := Lib.extract_to_end s n
theorem ba_len (s : ByteArray) : s.size = s.data.toList.length := Lib.size_eq s

theorem ret_bool {a b : Bool} (h : a = b) : Ending.returned (.bool a) = .returned (.bool b) := by rw [h]
theorem ret_str {a : ByteArray} {l : List UInt8} (h : a.data.toList = l) : Ending.returned (.string a) = .returned (.string ⟨l.toArray⟩) := by
  rw [← h, ba_mk]
theorem ret_int {k : IntKind} {a b : Int} (h : a = b) : Ending.returned (.int k a) = .returned (.int k b) := by rw [h]

/-- what lay below reads as it did -/
theorem bcell {W w1 : World} (hb : Below W.heap.size W w1) : (∀ b o, b < W.heap.size → w1.cell? ⟨b, o, none⟩ = W.cell? ⟨b, o, none⟩) ∧ (∀ b o, b < W.heap.size → w1.frozen? ⟨b, o, none⟩ = W.frozen? ⟨b, o, none⟩) :=
  ⟨fun b o h => hb.cell (p := ⟨b, o, none⟩) h, fun b o h => hb.frozen (p := ⟨b, o, none⟩) h⟩

theorem quiet_left {P : Program} {f : FuncId} {args : Array Value} {w : World} {n : Nat} {v : Value}
    (h : Calls P f args (w.drewN n) fun e w' => e = .returned v ∧ w.drewN n = w') : Calls P f args (w.drewN n) fun e w' => e = .returned v ∧ ∃ m, w' = w.drewN m :=
  h.mono fun _ _ ⟨he, hm⟩ => ⟨he, n, hm.symm⟩
theorem quiet_add_left {P : Program} {f : FuncId} {args : Array Value} {w : World} {a n : Nat} {v : Value}
    (h : Calls P f args (w.drewN (a + n)) fun e w' => e = .returned v ∧ w.drewN (a + n) = w') :
    Calls P f args (w.drewN (a + n)) fun e w'' => e = .returned v ∧ ∃ m, w'' = w.drewN (a + m) :=
  h.mono fun _ _ ⟨he, hm⟩ => ⟨he, n, hm.symm⟩

end Go.Proofs.YtbpejjmfdhkfhaaGreatDoor

/- Plain functions for names, paths, joins and hashes, and their laws. No program in sight. -/
namespace Go.Proofs.YtbpejjmfdhkfhaaGreatDoor.Np

def okc (c : UInt8) : Bool := (decide (97 ≤ c.toNat) && decide (c.toNat ≤ 122)) || (decide (48 ≤ c.toNat) && decide (c.toNat ≤ 57)) || c == 46 || c == 95 || c == 45

/-- is it a name -/
def nameB (l : List UInt8) : Bool := l.all okc && !l.isEmpty && decide (l.length ≤ 12) && !(l == [46]) && !(l == [46, 46])

/-- cut at every slash -/
def splitS : List UInt8 → List (List UInt8)
  | [] => [[]]
  | c :: r => if c = 47 then [] :: splitS r else
    match splitS r with
    | p :: ps => (c :: p) :: ps
    | [] => [[c]]

/-- the first piece, and the rest -/
def headS : List UInt8 → List UInt8
  | [] => []
  | c :: r => if c = 47 then [] else c :: headS r
def tailS : List UInt8 → List (List UInt8)
  | [] => []
  | c :: r => if c = 47 then splitS r else tailS r

theorem splitS_eq : ∀ l, splitS l = headS l :: tailS l
  | [] => rfl
  | c :: r => by
    unfold splitS headS tailS
    by_cases h : c = 47
    · simp [h]
    · simp only [h, if_false]
      rw [splitS_eq r]

/-- a path's names -/
def pathL : List UInt8 → Option (List (List UInt8))
  | [] => none
  | c :: r => if c = 47 then (if r = [] then some [] else if decide ((splitS r).length ≤ 6) && (splitS r).all nameB then some (splitS r) else none) else none

/-- '/' and the names with '/' between -/
def joinS : List (List UInt8) → List UInt8
  | [] => []
  | [x] => x
  | x :: y :: r => x ++ 47 :: joinS (y :: r)

def joinP (L : List (List UInt8)) : List UInt8 := 47 :: joinS L

/-- the path of names -/
def joinL (L : List (List UInt8)) : Option (List UInt8) :=
  if decide (L.length ≤ 6) && L.all nameB then some (joinP L) else none

theorem okc_slash : okc 47 = false := by decide
theorem name_noslash {l : List UInt8} (h : nameB l = true) : ∀ c ∈ l, c ≠ 47 := by
  intro c hc e
  subst e
  simp only [nameB, Bool.and_eq_true, List.all_eq_true] at h
  have := h.1.1.1.1 _ hc
  rw [okc_slash] at this
  cases this
theorem name_ne {l : List UInt8} (h : nameB l = true) : l ≠ [] := by
  intro e; subst e; simp [nameB] at h

theorem splitS_plain : ∀ (x : List UInt8), (∀ c ∈ x, c ≠ 47) → splitS x = [x]
  | [], _ => rfl
  | c :: r, h => by
    unfold splitS
    rw [if_neg (h c (by simp)), splitS_plain r (fun d hd => h d (by simp [hd]))]

theorem splitS_app : ∀ (x r : List UInt8), (∀ c ∈ x, c ≠ 47) → splitS (x ++ 47 :: r) = x :: splitS r
  | [], r, _ => by simp [splitS]
  | c :: x, r, h => by
    have ih := splitS_app x r (fun d hd => h d (by simp [hd]))
    rw [List.cons_append, splitS, if_neg (h c (by simp)), ih]

theorem splitS_join : ∀ (L : List (List UInt8)), L ≠ [] → (∀ x ∈ L, ∀ c ∈ x, c ≠ 47) → splitS (joinS L) = L
  | [], h, _ => absurd rfl h
  | [x], _, h => splitS_plain x (h x (by simp))
  | x :: y :: r, _, h => by
    unfold joinS
    rw [splitS_app x _ (h x (by simp)), splitS_join (y :: r) (by simp) (fun z hz => h z (by simp [hz]))]

theorem joinS_splitS : ∀ (l : List UInt8), joinS (splitS l) = l
  | [] => rfl
  | c :: r => by
    have ih := joinS_splitS r
    unfold splitS
    by_cases h : c = 47
    · rw [if_pos h]
      rw [splitS_eq r] at ih ⊢
      unfold joinS
      rw [ih, h]; rfl
    · rw [if_neg h]
      rw [splitS_eq r] at ih ⊢
      simp only
      cases ht : tailS r with
      | nil => rw [ht] at ih; simp only [joinS] at ih ⊢; rw [ih]
      | cons y ys =>
        rw [ht] at ih
        have e : joinS ((c :: headS r) :: y :: ys) = c :: joinS (headS r :: y :: ys) := rfl
        rw [e, ih]

theorem joinS_ne : ∀ (L : List (List UInt8)), L ≠ [] → (∀ x ∈ L, x ≠ []) → joinS L ≠ []
  | [], h, _ => absurd rfl h
  | [x], _, h => h x (by simp)
  | x :: y :: r, _, h => by
    unfold joinS
    simp

/-- the path of joined names has just these names, where they may be -/
theorem pathL_join (L : List (List UInt8)) (h : (decide (L.length ≤ 6) && L.all nameB) = true) : pathL (joinP L) = some L := by
  simp only [Bool.and_eq_true, decide_eq_true_eq, List.all_eq_true] at h
  rw [joinP, pathL, if_pos rfl]
  by_cases hL : L = []
  · subst hL; rfl
  · rw [if_neg (joinS_ne L hL fun x hx => name_ne (h.2 x hx)), splitS_join L hL fun x hx => name_noslash (h.2 x hx)]
    rw [if_pos]
    simp only [Bool.and_eq_true, decide_eq_true_eq, List.all_eq_true]
    exact h

/-- .. and nowhere else -/
theorem pathL_some {l : List UInt8} {L : List (List UInt8)} (h : pathL l = some L) : (decide (L.length ≤ 6) && L.all nameB) = true ∧ joinP L = l := by
  unfold pathL at h
  split at h
  · cases h
  · rename_i c r
    by_cases hc : c = 47
    · rw [if_pos hc] at h
      by_cases hr : r = []
      · rw [if_pos hr] at h
        cases h
        exact ⟨rfl, by subst hc hr; rfl⟩
      · rw [if_neg hr] at h
        split at h
        · rename_i hcond
          cases h
          exact ⟨hcond, by rw [joinP, joinS_splitS, hc]⟩
        · cases h
    · rw [if_neg hc] at h; cases h

theorem joinL_iff (L : List (List UInt8)) : (pathL (joinP L) = some L) ↔ (decide (L.length ≤ 6) && L.all nameB) = true :=
  ⟨fun h => (pathL_some h).1, pathL_join L⟩

/-! the reference's loop over a path's bytes -/
def go : List (List UInt8) → List UInt8 → List UInt8 → Option (List (List UInt8))
  | out, cur, [] => if nameB cur && decide (out.length ≠ 6) then some (out ++ [cur]) else none
  | out, cur, c :: r => if c = 47 then (if nameB cur && decide (out.length ≠ 6) then go (out ++ [cur]) [] r else none) else go out (cur ++ [c]) r

theorem go_eq : ∀ (r : List UInt8) (out : List (List UInt8)) (cur : List UInt8), out.length ≤ 6 →
    go out cur r = if (decide (out.length + 1 + (tailS r).length ≤ 6) && ((cur ++ headS r) :: tailS r).all nameB) = true then some (out ++ (cur ++ headS r) :: tailS r) else none
  | [], out, cur, h6 => by
    simp only [go, headS, tailS, List.append_nil, List.length_nil, Nat.add_zero, List.all_cons, List.all_nil, Bool.and_true]
    by_cases h1 : nameB cur = true <;> by_cases h2 : out.length = 6
    · simp [h1, h2]
    · have : out.length + 1 ≤ 6 := by omega
      simp [h1, h2, this]
    · simp [h1]
    · simp [h1]
  | c :: r, out, cur, h6 => by
    unfold go headS tailS
    by_cases hc : c = 47
    · simp only [hc, if_true, List.append_nil]
      by_cases h1 : nameB cur = true
      · by_cases h2 : out.length = 6
        · have h3 : ¬ (out.length + 1 + (splitS r).length ≤ 6) := by omega
          simp [h1, h2]
          intro h; omega
        · rw [if_pos (by simp [h1, h2]), go_eq r (out ++ [cur]) [] (by simp; omega), splitS_eq r]
          simp only [List.length_append, List.length_cons, List.length_nil, List.nil_append, List.all_cons, h1, Bool.true_and, List.append_assoc, List.singleton_append]
          have e : (out.length + (0 + 1) + 1 + (tailS r).length ≤ 6) = (out.length + 1 + ((tailS r).length + 1) ≤ 6) := by
            apply propext; omega
          simp only [e]
      · simp [h1]
    · simp only [hc, if_false]
      rw [go_eq r out (cur ++ [c]) h6]
      simp only [List.append_assoc, List.singleton_append]

theorem pathL_go (r : List UInt8) (h : r ≠ []) : pathL (47 :: r) = go [] [] r := by
  rw [go_eq r [] [] (by simp)]
  rw [pathL, if_pos rfl, if_neg h, splitS_eq r]
  simp only [List.length_nil, List.nil_append, List.length_cons]
  have e : ((tailS r).length + 1 ≤ 6) = (0 + 1 + (tailS r).length ≤ 6) := by apply propext; omega
  simp only [e]

/-! parents -/
def parentL (l : List UInt8) : Option (List (List UInt8) × List UInt8) :=
  match pathL l with
  | some L => match L.getLast? with
    | some x => some (L.dropLast, x)
    | none => none
  | none => none

/-! hashes -/
def hashStep (h : Nat) (c : UInt8) : Nat := ((h ^^^ c.toNat) * 16777619) % 4294967296
def basis : Nat := 2166136261
theorem basis_lt : basis < 4294967296 := by unfold basis; omega
def hashN (l : List UInt8) : Nat := l.foldl hashStep basis
theorem hashStep_lt (h : Nat) (c : UInt8) : hashStep h c < 4294967296 := by
  unfold hashStep
  exact Nat.mod_lt _ (by decide)
theorem foldl_lt : ∀ (l : List UInt8) (h : Nat), h < 4294967296 → l.foldl hashStep h < 4294967296
  | [], _, hh => hh
  | c :: r, h, _ => foldl_lt r _ (hashStep_lt h c)
theorem hashN_lt (l : List UInt8) : hashN l < 4294967296 := by
  unfold hashN
  exact foldl_lt l _ basis_lt
theorem hashN_snoc (l : List UInt8) (c : UInt8) : hashN (l ++ [c]) = hashStep (hashN l) c := by
  unfold hashN
  rw [List.foldl_append, List.foldl_cons, List.foldl_nil]

/-- the sum of the bits that differ, of the first k -/
def bitx (a b : Nat) : Nat → Nat
  | 0 => 0
  | k + 1 => bitx a b k + (if a / 2 ^ k % 2 ≠ b / 2 ^ k % 2 then 2 ^ k else 0)

theorem xor_low : ∀ (a b k : Nat), bitx a b k = (a ^^^ b) % 2 ^ k
  | a, b, 0 => by simp [bitx, Nat.mod_one]
  | a, b, k + 1 => by
    have e : (a ^^^ b) % 2 ^ (k + 1) = (a ^^^ b) % 2 ^ k + 2 ^ k * ((a ^^^ b) / 2 ^ k % 2) := by
      rw [Nat.pow_succ, Nat.mod_mul]
    have e2 : (a ^^^ b) / 2 ^ k % 2 = if a / 2 ^ k % 2 ≠ b / 2 ^ k % 2 then 1 else 0 := by
      have ht := Nat.testBit_xor (x := a) (y := b) (i := k)
      rw [Nat.testBit_eq_decide_div_mod_eq, Nat.testBit_eq_decide_div_mod_eq, Nat.testBit_eq_decide_div_mod_eq] at ht
      have h0 : (a ^^^ b) / 2 ^ k % 2 < 2 := Nat.mod_lt _ (by omega)
      have h1 : a / 2 ^ k % 2 < 2 := Nat.mod_lt _ (by omega)
      have h2 : b / 2 ^ k % 2 < 2 := Nat.mod_lt _ (by omega)
      generalize (a ^^^ b) / 2 ^ k % 2 = z at *
      generalize a / 2 ^ k % 2 = x at *
      generalize b / 2 ^ k % 2 = y at *
      rcases (show x = 0 ∨ x = 1 by omega) with rfl | rfl <;> rcases (show y = 0 ∨ y = 1 by omega) with rfl | rfl <;> rcases (show z = 0 ∨ z = 1 by omega) with rfl | rfl <;> simp at ht ⊢
    rw [bitx, xor_low a b k, e, e2]
    split <;> simp

theorem xor_byte (h c : Nat) (hc : c < 256) : h ^^^ c = h - h % 256 + bitx h c 8 := by
  rw [xor_low]
  have e : (h ^^^ c) / 256 = h / 256 := by
    rw [show 256 = 2 ^ 8 from rfl, ← Nat.shiftRight_eq_div_pow, ← Nat.shiftRight_eq_div_pow, Nat.shiftRight_xor_distrib]
    rw [Nat.shiftRight_eq_div_pow c, Nat.div_eq_of_lt (by omega), Nat.xor_zero]
  have := Nat.div_add_mod (h ^^^ c) 256
  have h2 := Nat.div_add_mod h 256
  rw [show (2 : Nat) ^ 8 = 256 from rfl]
  omega

end Go.Proofs.YtbpejjmfdhkfhaaGreatDoor.Np
