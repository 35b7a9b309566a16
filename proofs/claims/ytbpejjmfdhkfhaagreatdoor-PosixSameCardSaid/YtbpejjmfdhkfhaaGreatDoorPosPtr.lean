/- Maps whose keys are pointers: a look and a store. -/
import Derived.Test.YtbpejjmfdhkfhaaGreatDoorPosRealA
import Derived.LaidEqlPtr
set_option linter.unusedVariables false
set_option linter.unusedSimpArgs false
namespace Go.Proofs.YtbpejjmfdhkfhaaGreatDoor
open Go.RowKit
open Go.ChangeMaps Go.MapKept

/-- an address that is a block's first cell -/
def ptrV (o : Option Nat) : Value := .pointer (o.map fun b => ⟨b, 0, none⟩)
def KeyBlock (w : World) (k : Nat) : Prop := ∃ c t, w.heap[k]? = some (.cells c t (0, 0))

theorem pkey_elem {k : Nat} {x : Nat} (h : ptrV (some k) = ptrV (some x)) : k = x := by
  simp [ptrV] at h
  exact h
section
variable {P : Program} {w : World} {tp te : TypeId} {j : TypeInfo}
theorem run_equal_ptr (hp : P.underlying tp = some (.pointer te)) (hte : P.info? te = some j) (hsz : j.size ≠ 0) {a b : Nat} (ha : KeyBlock w a) (hb : KeyBlock w b) :
    (Op.equal tp (ptrV (some a)) (ptrV (some b))).run P w = .ok (decide (a = b)) w := by
  obtain ⟨ca, ta, ha⟩ := ha
  obtain ⟨cb, tb, hb⟩ := hb
  have h : ∀ d : Nat, (Op.equalIn (d + 1) tp (.pointer (some ⟨a, 0, none⟩)) (.pointer (some ⟨b, 0, none⟩))).run P w = .ok (decide (a = b)) w := fun d => by
    by_cases hab : a = b
    · subst hab
      simp [Op.equalIn, run_underlying hp, sizeOf, typeInfo, hte, hsz, run_sameAddr_same]
    · have hne : (⟨a, 0, none⟩ : Addr) ≠ ⟨b, 0, none⟩ := fun e => hab (by cases e; rfl)
      simp [Op.equalIn, run_underlying hp, sizeOf, typeInfo, hte, hsz, run_sameAddr_other w hne ha hb, hab]
  exact h 9999
theorem run_findAsking_ptr (hp : P.underlying tp = some (.pointer te)) (hte : P.info? te = some j) (hsz : j.size ≠ 0) {x : Nat} (hx : KeyBlock w x) :
    ∀ (es : List MapEntry) (i : Nat), (∀ e ∈ es, ∃ k, e.key = ptrV (some k) ∧ KeyBlock w k) →
      ((Instr.findAsking tp (ptrV (some x)) es i).run P w = .ok none w ∧ ∀ e ∈ es, e.key ≠ ptrV (some x)) ∨
      ∃ n e, (Instr.findAsking tp (ptrV (some x)) es i).run P w = .ok (some (n, e.val)) w ∧ e ∈ es ∧ e.key = ptrV (some x)
  | [], i, _ => Or.inl ⟨by simp [Instr.findAsking], fun e he => by cases he⟩
  | e :: es, i, h => by
    obtain ⟨k, hk, hkb⟩ := h e (List.mem_cons_self ..)
    have heq := run_equal_ptr hp hte hsz hx hkb
    rw [← hk] at heq
    by_cases hxk : x = k
    · subst hxk
      refine Or.inr ⟨i, e, ?_, List.mem_cons_self .., hk⟩
      simp [Instr.findAsking, heq, Result.andThen]
    · have hne : e.key ≠ ptrV (some x) := fun hh => hxk (by
        rw [hk] at hh
        exact (pkey_elem hh).symm)
      rcases run_findAsking_ptr hp hte hsz hx es (i + 1) (fun e' he' => h e' (List.mem_cons_of_mem _ he')) with ⟨h1, h2⟩ | ⟨n, e', h1, h2, h3⟩
      · refine Or.inl ⟨?_, fun e' he' => ?_⟩
        · simp [Instr.findAsking, heq, hxk, Result.andThen, h1]
        · rcases List.mem_cons.1 he' with rfl | he'
          · exact hne
          · exact h2 e' he'
      · exact Or.inr ⟨n, e', by simp [Instr.findAsking, heq, hxk, Result.andThen, h1], List.mem_cons_of_mem _ h2, h3⟩
theorem run_findKey_ptr (hp : P.underlying tp = some (.pointer te)) (hte : P.info? te = some j) (hsz : j.size ≠ 0) {x : Nat} (hx : KeyBlock w x) (es : List MapEntry) (h : ∀ e ∈ es, ∃ k, e.key = ptrV (some k) ∧ KeyBlock w k) :
    ((Instr.findKey tp (ptrV (some x)) es).run P w = .ok none w ∧ ∀ e ∈ es, e.key ≠ ptrV (some x)) ∨
    ∃ n e, (Instr.findKey tp (ptrV (some x)) es).run P w = .ok (some (n, e.val)) w ∧ e ∈ es ∧ e.key = ptrV (some x) := by
  cases es with
  | nil => exact Or.inl ⟨by simp [Instr.findKey, run_underlying hp, Instr.findNow], fun e he => by cases he⟩
  | cons e es =>
    have hn : Instr.findNow (.pointer te) (ptrV (some x)) (e :: es) 0 = none := by
      simp [Instr.findNow, Instr.sameNow, ptrV]
    have hf : (Instr.findKey tp (ptrV (some x)) (e :: es)).run P w = (Instr.findAsking tp (ptrV (some x)) (e :: es)).run P w := by
      simp [Instr.findKey, run_underlying hp, hn]
    rw [hf]
    exact run_findAsking_ptr hp hte hsz hx (e :: es) 0 h
theorem run_checkKey_ptr (hp : P.underlying tp = some (.pointer te)) (em : Bool) (n : Nat) (v : Option Nat) : (Instr.checkKey em (n + 1) tp (ptrV v)).run P w = .ok () w := by
  simp [Instr.checkKey, run_underlying hp, ptrV]
end

/-- the map at b leads from blocks to blocks, as Q says -/
def PMap (w : World) (b n : Nat) (Q : Nat → Option Nat) : Prop :=
  ∃ es clock, w.heap[b]? = some (.map es clock) ∧ es.size ≤ n ∧ (∀ e ∈ es.toList, ∃ k v, e.key = ptrV (some k) ∧ e.val = ptrV (some v) ∧ Q k = some v) ∧ ∀ k, (Q k).isSome = true → ∃ e ∈ es.toList, e.key = ptrV (some k)
theorem PMap.lt {w : World} {b n : Nat} {Q : Nat → Option Nat} (h : PMap w b n Q) : b < w.heap.size := by
  obtain ⟨es, clock, hb, _⟩ := h
  exact (Array.getElem?_eq_some_iff.1 hb).1
theorem PMap.keep {w w' : World} {b n : Nat} {Q : Nat → Option Nat} (h : PMap w b n Q) (hb : w'.heap[b]? = w.heap[b]?) : PMap w' b n Q := by
  obtain ⟨es, clock, h1, h2⟩ := h
  exact ⟨es, clock, hb.trans h1, h2⟩
theorem PMap.made (w : World) : PMap (w.alloc (.map #[] 0)) w.heap.size 0 fun _ => none :=
  ⟨#[], 0, heap_alloc_new _ _, Nat.le_refl _, fun e he => by simp at he, fun k hk => by simp at hk⟩

theorem PMap.look {P : Program} {t tk te : TypeId} {j : TypeInfo} {w : World} {b n : Nat} {Q : Nat → Option Nat} (h : PMap w b n Q) (ht : P.underlying t = some (.map tk tk)) (hp : P.underlying tk = some (.pointer te)) (hte : P.info? te = some j) (hsz : j.size ≠ 0)
    (hz : (zeroValue tk).run P w = .ok (.pointer none) w) (hk : ∀ k, (Q k).isSome = true → KeyBlock w k) {x : Nat} (hx : KeyBlock w x) :
    (Instr.lookup t (.map (some b)) (ptrV (some x)) false).run P w = .ok (ptrV (Q x)) w := by
  obtain ⟨es, clock, hb, _, h1, h2⟩ := h
  rcases run_findKey_ptr hp hte hsz hx es.toList (fun e he => by
    obtain ⟨k, v, e1, _, e3⟩ := h1 e he
    exact ⟨k, e1, hk k (by rw [e3]; rfl)⟩) with ⟨hrun, hno⟩ | ⟨i, e, hrun, he, hkey⟩
  · have hq : Q x = none := by
      cases hq : Q x with
      | none => rfl
      | some v =>
        obtain ⟨e, he, hke⟩ := h2 x (by rw [hq]; rfl)
        exact absurd hke (hno e he)
    have hz' : (zeroValue tk).run P w = .ok (ptrV none) w := hz
    have hck : (Instr.checkKey es.isEmpty 10000 tk (ptrV (some x))).run P w = .ok () w := run_checkKey_ptr hp _ 9999 _
    rw [hq]
    simp [Instr.lookup, run_underlying ht, MapKept.run_getObj_map hb, hck, hrun, hz', Result.andThen]
  · obtain ⟨k, v, e1, e2, e3⟩ := h1 e he
    rw [e1] at hkey
    obtain rfl := pkey_elem hkey
    rw [e3]
    have hck : (Instr.checkKey es.isEmpty 10000 tk (ptrV (some k))).run P w = .ok () w := run_checkKey_ptr hp _ 9999 _
    simp [Instr.lookup, run_underlying ht, MapKept.run_getObj_map hb, hck, hrun, e2, Result.andThen]
/-- a store at a key that is not there -/
theorem PMap.store {P : Program} {t tk te : TypeId} {j : TypeInfo} {w : World} {b n : Nat} {Q : Nat → Option Nat} (h : PMap w b n Q) (ht : P.underlying t = some (.map tk tk)) (hp : P.underlying tk = some (.pointer te)) (hte : P.info? te = some j) (hsz : j.size ≠ 0)
    (hk : ∀ k, (Q k).isSome = true → KeyBlock w k) {x v : Nat} (hx : KeyBlock w x) (hq : Q x = none) :
    ∃ w', (Instr.mapUpdate t (.map (some b)) (ptrV (some x)) (ptrV (some v))).run P w = .ok () w' ∧ PMap w' b (n + 1) (fun k => if k = x then some v else Q k) ∧ w.grownBy w' (some b) ∧ w'.heap.size = w.heap.size := by
  obtain ⟨es, clock, hb, hn, h1, h2⟩ := h
  rcases run_findKey_ptr hp hte hsz hx es.toList (fun e he => by
    obtain ⟨k, v, e1, _, e3⟩ := h1 e he
    exact ⟨k, e1, hk k (by rw [e3]; rfl)⟩) with ⟨hrun, hno⟩ | ⟨i, e, hrun, he, hkey⟩
  · refine ⟨setBlock w b (.map (es.push ⟨ptrV (some x), ptrV (some v), clock⟩) (clock + 1)), ?_, ⟨_, _, heap_setBlock_same hb _, ?_, ?_, ?_⟩, ⟨rfl, rfl, rfl, by simp [setBlock], fun i _ hi => heap_setBlock_other hb _ (fun e => hi (by rw [e]))⟩, by simp [setBlock]⟩
    · have hck : (Instr.checkKey false 10000 tk (ptrV (some x))).run P w = .ok () w := run_checkKey_ptr hp _ 9999 _
      simp [Instr.mapUpdate, run_underlying ht, MapKept.run_getObj_map hb, hck, hrun, MapKept.run_setObj_map _ hb, Result.andThen, setBlock]
    · simp
      omega
    · intro e he
      simp only [Array.toList_push, List.mem_append, List.mem_singleton] at he
      rcases he with he | rfl
      · obtain ⟨k, v', e1, e2, e3⟩ := h1 e he
        refine ⟨k, v', e1, e2, ?_⟩
        have hkx : ¬ k = x := fun hh => by
          rw [hh, hq] at e3
          cases e3
        dsimp only
        rw [if_neg hkx]
        exact e3
      · exact ⟨x, v, rfl, rfl, if_pos rfl⟩
    · intro k hks
      by_cases hkx : k = x
      · exact ⟨⟨ptrV (some x), ptrV (some v), clock⟩, by simp, by rw [hkx]⟩
      · dsimp only at hks
        rw [if_neg hkx] at hks
        obtain ⟨e, he, hke⟩ := h2 k hks
        exact ⟨e, by simp only [Array.toList_push, List.mem_append]; exact Or.inl he, hke⟩
  · obtain ⟨k, v', e1, e2, e3⟩ := h1 e he
    rw [e1] at hkey
    obtain rfl := pkey_elem hkey
    rw [hq] at e3
    cases e3

end Go.Proofs.YtbpejjmfdhkfhaaGreatDoor
