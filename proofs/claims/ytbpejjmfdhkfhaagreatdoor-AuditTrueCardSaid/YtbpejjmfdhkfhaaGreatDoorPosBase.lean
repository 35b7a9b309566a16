/- The document's file system, plainly: nodes by their numbers, names in one list, descriptors in one list; what its questions answer. -/
import Derived.Test.YtbpejjmfdhkfhaaGreatDoorLem
import Derived.Test.YtbpejjmfdhkfhaaGreatDoorNamesWalkC
set_option linter.unusedVariables false
set_option linter.unusedSimpArgs false
namespace Go.Proofs.YtbpejjmfdhkfhaaGreatDoor
namespace Pz

structure Nd where
  dir : Bool
  data : List UInt8
  links : Int
structure En where
  dir : Nat
  name : List UInt8
  node : Nat
structure Op where
  client : Int
  fd : Int
  node : Nat
structure Fil where
  N : List Nd
  E : List En
  O : List Op

/-- the node of a name in a directory; -1: there is none -/
def look : List En → Nat → List UInt8 → Int
  | [], _, _ => -1
  | e :: r, i, x => if e.dir = i ∧ e.name = x then (e.node : Int) else look r i x
/-- the node of a client's descriptor; -1: there is none -/
def ofd : List Op → Int → Int → Int
  | [], _, _ => -1
  | o :: r, c, fd => if o.client = c ∧ o.fd = fd then (o.node : Int) else ofd r c fd
/-- how many names a directory has -/
def count (E : List En) (i : Nat) : Nat := (E.filter fun e => e.dir == i).length

/-- a name goes -/
def take (E : List En) (i : Nat) (x : List UInt8) : List En := E.filter fun e => decide (¬ (e.dir = i ∧ e.name = x))
theorem take_step {E : List En} {k : Nat} {e : En} {i : Nat} {x : List UInt8} (he : E[k]? = some e) : take (E.take (k + 1)) i x = take (E.take k) i x ++ (if e.dir = i ∧ e.name = x then [] else [e]) := by
  unfold take
  rw [List.take_add_one, he, List.filter_append]
  by_cases h : e.dir = i ∧ e.name = x
  · rw [if_pos h]; simp [h]
  · rw [if_neg h]
    congr 1
    show List.filter _ [e] = [e]
    rw [List.filter_cons, if_pos (decide_eq_true h)]; rfl
theorem take_le (E : List En) (i : Nat) (x : List UInt8) : (take E i x).length ≤ E.length := List.length_filter_le _ _

/-- a client's descriptors go -/
def drop (O : List Op) (c : Int) : List Op := O.filter fun o => decide (¬ o.client = c)
theorem drop_step {O : List Op} {k : Nat} {o : Op} {c : Int} (ho : O[k]? = some o) : drop (O.take (k + 1)) c = drop (O.take k) c ++ (if o.client = c then [] else [o]) := by
  unfold drop
  rw [List.take_add_one, ho, List.filter_append]
  by_cases h : o.client = c
  · rw [if_pos h]; simp [h]
  · rw [if_neg h]
    congr 1
    show List.filter _ [o] = [o]
    rw [List.filter_cons, if_pos (decide_eq_true h)]; rfl
/-- a descriptor goes -/
def shut (O : List Op) (c fd : Int) : List Op := O.filter fun o => decide (¬ (o.client = c ∧ o.fd = fd))
theorem shut_step {O : List Op} {k : Nat} {o : Op} {c fd : Int} (ho : O[k]? = some o) : shut (O.take (k + 1)) c fd = shut (O.take k) c fd ++ (if o.client = c ∧ o.fd = fd then [] else [o]) := by
  unfold shut
  rw [List.take_add_one, ho, List.filter_append]
  by_cases h : o.client = c ∧ o.fd = fd
  · rw [if_pos h]; simp [h]
  · rw [if_neg h]
    congr 1
    show List.filter _ [o] = [o]
    rw [List.filter_cons, if_pos (decide_eq_true h)]; rfl

theorem look_skip {E : List En} {i : Nat} {x : List UInt8} : ∀ {k : Nat}, (∀ j e, j < k → E[j]? = some e → ¬ (e.dir = i ∧ e.name = x)) → look E i x = look (E.drop k) i x := by
  induction E with
  | nil => intro k _; simp
  | cons a r ih =>
    intro k h
    cases k with
    | zero => rfl
    | succ k =>
      rw [look, if_neg (h 0 a (by omega) rfl), List.drop_succ_cons]
      exact ih fun j e hj he => h (j + 1) e (by omega) (by simpa using he)
theorem look_at {E : List En} {k : Nat} {e : En} {i : Nat} {x : List UInt8} (he : E[k]? = some e) : look (E.drop k) i x = if e.dir = i ∧ e.name = x then (e.node : Int) else look (E.drop (k + 1)) i x := by
  obtain ⟨h, h2⟩ := List.getElem?_eq_some_iff.1 he
  rw [List.drop_eq_getElem_cons h, h2, look]
theorem ofd_at {O : List Op} {k : Nat} {o : Op} {c fd : Int} (ho : O[k]? = some o) : ofd (O.drop k) c fd = if o.client = c ∧ o.fd = fd then (o.node : Int) else ofd (O.drop (k + 1)) c fd := by
  obtain ⟨h, h2⟩ := List.getElem?_eq_some_iff.1 ho
  rw [List.drop_eq_getElem_cons h, h2, ofd]
theorem count_step {E : List En} {k : Nat} {e : En} {i : Nat} (he : E[k]? = some e) : count (E.take (k + 1)) i = count (E.take k) i + if e.dir = i then 1 else 0 := by
  unfold count
  rw [List.take_add_one, he, List.filter_append, List.length_append]
  by_cases h : e.dir = i
  · simp [h]
  · simp [h]

/-- is a node a directory? -/
def isDir (N : List Nd) (n : Nat) : Bool := match N[n]? with | some x => x.dir | none => false
/-- the node of names, from a node on; else an error -/
def walk (S : Fil) : Nat → List (List UInt8) → Except Int Nat
  | n, [] => .ok n
  | n, x :: r => if isDir S.N n then (if look S.E n x < 0 then .error 10 else walk S (look S.E n x).toNat r) else .error 12
def find (S : Fil) (p : List UInt8) : Except Int Nat := match Np.pathL p with | none => .error 15 | some L => walk S 0 L
/-- the directory, if it is one, with a name -/
def placeOn (S : Fil) (x : List UInt8) : Except Int Nat → Except Int (Nat × List UInt8)
  | .error e => .error e
  | .ok n => if isDir S.N n then .ok (n, x) else .error 12
/-- the directory and the name of a path -/
def place (S : Fil) (p : List UInt8) : Except Int (Nat × List UInt8) :=
  match Np.pathL p with
  | none => .error 15
  | some L => match L.getLast? with
    | none => .error 15
    | some x => placeOn S x (walk S 0 L.dropLast)

/-- a place, the numbers that are told where there is none -/
def placeD : Except Int (Nat × List UInt8) → Nat × List UInt8
  | .error _ => (0, [])
  | .ok q => q
def rmdir (S : Fil) (p : List UInt8) : Fil × Int :=
  if p = [47] then (S, 15) else
  match find S p with
  | .error e => (S, e)
  | .ok n => if isDir S.N n then (if 0 < count S.E n then (S, 14) else ({ S with E := take S.E (placeD (place S p)).1 (placeD (place S p)).2 }, 0)) else (S, 12)

/-- every number that stands somewhere is a node's -/
structure Ok (S : Fil) : Prop where
  root : 0 < S.N.length
  ent : ∀ e ∈ S.E, e.dir < S.N.length ∧ e.node < S.N.length
  opn : ∀ o ∈ S.O, o.node < S.N.length

theorem look_lt {n : Nat} {i : Nat} {x : List UInt8} : ∀ {E : List En}, (∀ e ∈ E, e.dir < n ∧ e.node < n) → look E i x < n
  | [], _ => by show (-1 : Int) < _; omega
  | e :: r, h => by
    rw [look]
    split
    · have := (h e (List.mem_cons_self ..)).2; omega
    · exact look_lt fun e he => h e (List.mem_cons_of_mem _ he)
theorem ofd_lt {n : Nat} {c fd : Int} : ∀ {O : List Op}, (∀ o ∈ O, o.node < n) → ofd O c fd < n
  | [], _ => by show (-1 : Int) < _; omega
  | o :: r, h => by
    rw [ofd]
    split
    · have := h o (List.mem_cons_self ..); omega
    · exact ofd_lt fun e he => h e (List.mem_cons_of_mem _ he)
theorem look_ge {i : Nat} {x : List UInt8} : ∀ {E : List En}, -1 ≤ look E i x
  | [] => by show (-1 : Int) ≤ -1; omega
  | e :: r => by
    rw [look]
    split
    · omega
    · exact look_ge
theorem walk_lt {S : Fil} (h : Ok S) : ∀ {L : List (List UInt8)} {n m : Nat}, n < S.N.length → walk S n L = .ok m → m < S.N.length
  | [], n, m, hn, hw => by cases hw; exact hn
  | x :: r, n, m, hn, hw => by
    rw [walk] at hw
    split at hw
    · split at hw
      · cases hw
      · have := look_lt (i := n) (x := x) h.ent
        exact walk_lt h (by omega) hw
    · cases hw
theorem walk_err {S : Fil} : ∀ {L : List (List UInt8)} {n : Nat} {e : Int}, walk S n L = .error e → e = 10 ∨ e = 12
  | [], n, e, hw => by cases hw
  | x :: r, n, e, hw => by
    rw [walk] at hw
    split at hw
    · split at hw
      · cases hw; exact Or.inl rfl
      · exact walk_err hw
    · cases hw; exact Or.inr rfl
theorem find_lt {S : Fil} (h : Ok S) {p : List UInt8} {m : Nat} (hf : find S p = .ok m) : m < S.N.length := by
  unfold find at hf
  split at hf
  · cases hf
  · exact walk_lt h h.root hf
theorem find_err {S : Fil} {p : List UInt8} {e : Int} (hf : find S p = .error e) : e = 10 ∨ e = 12 ∨ e = 15 := by
  unfold find at hf
  split at hf
  · cases hf; exact Or.inr (Or.inr rfl)
  · rcases walk_err hf with h | h
    · exact Or.inl h
    · exact Or.inr (Or.inl h)

/-- bytes cut, or with noughts behind -/
def sized (s : List UInt8) (n : Nat) : List UInt8 := s.take n ++ List.replicate (n - s.length) 0
theorem sized_cut {s : List UInt8} {n : Nat} (h : n ≤ s.length) : sized s n = s.take n := by
  unfold sized; rw [show n - s.length = 0 by omega]; simp
theorem sized_long {s : List UInt8} {n : Nat} (h : s.length ≤ n) : sized s n = s ++ List.replicate (n - s.length) 0 := by
  unfold sized; rw [List.take_of_length_le h]
theorem sized_len (s : List UInt8) (n : Nat) : (sized s n).length = n := by
  unfold sized; rw [List.length_append, List.length_take, List.length_replicate]; omega

/-- three cells of each -/
def three {α : Type} {V : Type} (f g h : α → V) (L : List α) : List V := L.flatMap fun x => [f x, g x, h x]
theorem three_len {α V : Type} (f g h : α → V) : ∀ L : List α, (three f g h L).length = L.length * 3
  | [] => rfl
  | x :: r => by
    have := three_len f g h r
    unfold three at this ⊢
    rw [List.flatMap_cons, List.length_append, this]; simp; omega
theorem three_get {α V : Type} (f g h : α → V) : ∀ (L : List α) (k : Nat) (x : α), L[k]? = some x → (three f g h L)[k * 3]? = some (f x) ∧ (three f g h L)[k * 3 + 1]? = some (g x) ∧ (three f g h L)[k * 3 + 2]? = some (h x)
  | [], k, x, hx => by simp at hx
  | a :: r, 0, x, hx => by
    simp at hx
    subst hx
    exact ⟨rfl, rfl, rfl⟩
  | a :: r, k + 1, x, hx => by
    have := three_get f g h r k x (by simpa using hx)
    have e : ∀ j, (three f g h (a :: r))[(k + 1) * 3 + j]? = (three f g h r)[k * 3 + j]? := fun j => by
      unfold three
      rw [List.flatMap_cons, List.getElem?_append_right (by simp; omega)]
      congr 1
      simp; omega
    exact ⟨(e 0).trans this.1, (e 1).trans this.2.1, (e 2).trans this.2.2⟩
theorem three_snoc {α V : Type} (f g h : α → V) (L : List α) (x : α) : three f g h (L ++ [x]) = three f g h L ++ [f x, g x, h x] := by
  unfold three; rw [List.flatMap_append]; simp

theorem three_set1 {α V : Type} (f g h : α → V) : ∀ (L : List α) (k : Nat) (x y : α), L[k]? = some x → f y = f x → h y = h x → (three f g h L).set (k * 3 + 1) (g y) = three f g h (L.set k y)
  | [], k, x, y, hx, _, _ => by simp at hx
  | a :: r, 0, x, y, hx, hf, hh => by
    simp at hx
    subst hx
    unfold three
    simp [hf, hh]
  | a :: r, k + 1, x, y, hx, hf, hh => by
    have := three_set1 f g h r k x y (by simpa using hx) hf hh
    unfold three at this ⊢
    rw [List.set_cons_succ, List.flatMap_cons, List.flatMap_cons, ← this, show (k + 1) * 3 + 1 = (k * 3 + 1) + 3 by omega]
    rfl
theorem three_set2 {α V : Type} (f g h : α → V) : ∀ (L : List α) (k : Nat) (x y : α), L[k]? = some x → f y = f x → g y = g x → (three f g h L).set (k * 3 + 2) (h y) = three f g h (L.set k y)
  | [], k, x, y, hx, _, _ => by simp at hx
  | a :: r, 0, x, y, hx, hf, hh => by
    simp at hx
    subst hx
    unfold three
    simp [hf, hh]
  | a :: r, k + 1, x, y, hx, hf, hh => by
    have := three_set2 f g h r k x y (by simpa using hx) hf hh
    unfold three at this ⊢
    rw [List.set_cons_succ, List.flatMap_cons, List.flatMap_cons, ← this, show (k + 1) * 3 + 2 = (k * 3 + 2) + 3 by omega]
    rfl

end Pz
end Go.Proofs.YtbpejjmfdhkfhaaGreatDoor

/- Names, for the Posix laws: Parent, Path by cases, Inside. -/
namespace Go.Proofs.YtbpejjmfdhkfhaaGreatDoor
open Go.RowKit

def ParYes (L : List (List UInt8)) (x : List UInt8) (w : World) (e : Ending) (w' : World) : Prop :=
  ∃ A, e = .returned (.tuple #[.slice A L.length L.length, .string ⟨x.toArray⟩, .int .i64 0]) ∧ Strs w' w.heap.size A L ∧ Below w.heap.size w w'

set_option maxHeartbeats 1000000 in
theorem parent_yes (s : ByteArray) (L : List (List UInt8)) (x : List UInt8) (m : Int) (w : World) (hs : s.size ≤ 100000) (hm : w.cell? ⟨0, 0, none⟩ = some (.int .i64 m)) (h : Np.pathL s.data.toList = some (L ++ [x])) :
    Calls Tryz.prog 76 #[.string s] w (ParYes L x w) := by
  have hp := path_yes s (L ++ [x]) m w hs hm h
  have hl6 := (pathL_names h).1
  obtain ⟨n, hn⟩ : ∃ n, n = L.length := ⟨_, rfl⟩
  have hx : (L ++ [x])[n]? = some x := by rw [hn]; simp
  rw [show (L ++ [x]).length = n + 1 by simp [hn]] at hl6
  have hpre : ∀ j y, L[j]? = some y → (L ++ [x])[j]? = some y := fun j y hy => by rw [List.getElem?_append_left (List.getElem?_eq_some_iff.1 hy).1]; exact hy
  have Hp : Hid (Calls Tryz.prog 74 #[.string s] w fun e w' => ∃ b o c, e = .returned (.tuple #[.slice (some ⟨b, o, none⟩) (n + 1) c, .int .i64 0]) ∧ n + 1 ≤ c ∧ w'.cell? ⟨b, o + n, none⟩ = some (.string ⟨x.toArray⟩) ∧ Strs w' w.heap.size (some ⟨b, o, none⟩) L ∧ Below w.heap.size w w') := by
    refine hp.mono fun e w' ⟨A, c, he, hc, hS, hB⟩ => ?_
    rcases hS with h0 | ⟨b, o, rfl, h1, h2, h3, h4⟩
    · simp at h0
    · refine ⟨b, o, c, by rw [he]; simp [hn], by simpa [hn] using hc, h3 n x hx, Or.inr ⟨b, o, rfl, h1, h2, fun j y hy => h3 j y (hpre j y hy), h4⟩, hB⟩
  clear hp h hx hpre hm
  have Hn := Lib.hid hn; clear hn
  go_enter Tryz.func76, Tryz.ntmps76
  go_wp2_with fail
  refine Hp.out.mono ?_
  rintro e w1 ⟨b, o, c, rfl, hc, hcell, hS, hB⟩
  have HS := Lib.hid hS; clear hS
  have hi1 : (0 : Int) ≤ n := by omega
  have hi2 : (n : Int) < (n : Int) + 1 := by omega
  have hi3 : (n : Int) ≤ c := by omega
  go_wp2
  go_quiet (fail)
  go_wp2
  go_ret3
  rw [Hn.out]
  exact ⟨_, rfl, HS.out.drewN _, below_drewN hB _⟩

set_option maxHeartbeats 1000000 in
theorem parent_no (s : ByteArray) (m : Int) (w : World) (hs : s.size ≤ 100000) (hm : w.cell? ⟨0, 0, none⟩ = some (.int .i64 m)) (h : Np.pathL s.data.toList = none ∨ Np.pathL s.data.toList = some []) :
    Calls Tryz.prog 76 #[.string s] w fun e w' => e = .returned (.tuple #[.slice none 0 0, .string ⟨#[]⟩, .int .i64 15]) ∧ Below w.heap.size w w' := by
  rcases h with h | h
  · have hp := path_no s m w hs hm h
    have Hp := Lib.hid hp; clear hp h hm
    go_enter Tryz.func76, Tryz.ntmps76
    go_wp2_with fail
    refine Hp.out.mono ?_
    rintro e w1 ⟨rfl, hB⟩
    go_wp2
    go_ret3
    exact ⟨rfl, hB⟩
  · have hp := path_yes s [] m w hs hm h
    have Hp := Lib.hid hp; clear hp h hm
    go_enter Tryz.func76, Tryz.ntmps76
    go_wp2_with fail
    refine Hp.out.mono ?_
    rintro e w1 ⟨A, c, rfl, hc, hS, hB⟩
    clear hS
    go_wp2
    go_ret3
    exact ⟨rfl, hB⟩

/-- the library's one variable that is read holds an int -/
def Mx (w : World) : Prop := ∃ m : Int, w.cell? ⟨0, 0, none⟩ = some (.int .i64 m)
theorem Mx.keep {w w' : World} (h : Mx w) (hb : Below w.heap.size w w') : Mx w' := by
  obtain ⟨m, hm⟩ := h
  refine ⟨m, (hb.cell (p := ⟨_, 0, none⟩) ?_).trans hm⟩
  show 0 < w.heap.size
  unfold World.cell? at hm
  cases hh : w.heap[0]? with
  | none => rw [show (⟨0, 0, none⟩ : Addr).block = 0 from rfl, hh] at hm; cases hm
  | some o => exact (Array.getElem?_eq_some_iff.1 hh).1

theorem pathY (s : ByteArray) (L : List (List UInt8)) (w : World) (hs : s.size ≤ 100000) (hM : Mx w) (h : Np.pathL s.data.toList = some L) : Calls Tryz.prog 74 #[.string s] w (PathYes L w) := by
  obtain ⟨m, hm⟩ := hM
  exact path_yes s L m w hs hm h
theorem pathN (s : ByteArray) (w : World) (hs : s.size ≤ 100000) (hM : Mx w) (h : Np.pathL s.data.toList = none) :
    Calls Tryz.prog 74 #[.string s] w fun e w' => e = .returned (.tuple #[.slice none 0 0, .int .i64 15]) ∧ Below w.heap.size w w' := by
  obtain ⟨m, hm⟩ := hM
  exact path_no s m w hs hm h
theorem rpathY (s : ByteArray) (L : List (List UInt8)) (w : World) (hs : s.size ≤ 100000) (h : Np.pathL s.data.toList = some L) : Calls Tryz.prog 63 #[.string s] w (PathYes L w) :=
  (rpath_any s w hs).mono fun e w' hr => by
    rw [h] at hr
    rcases hr with ⟨h1, _⟩ | ⟨M, h1, h2⟩
    · cases h1
    · obtain rfl := Option.some.inj h1
      exact h2
theorem rpathN (s : ByteArray) (w : World) (hs : s.size ≤ 100000) (h : Np.pathL s.data.toList = none) :
    Calls Tryz.prog 63 #[.string s] w fun e w' => e = .returned (.tuple #[.slice none 0 0, .int .i64 15]) ∧ Below w.heap.size w w' :=
  (rpath_any s w hs).mono fun e w' hr => by
    rw [h] at hr
    rcases hr with ⟨_, h2⟩ | ⟨M, h1, _⟩
    · exact h2
    · cases h1
theorem parentY (s : ByteArray) (L : List (List UInt8)) (x : List UInt8) (w : World) (hs : s.size ≤ 100000) (hM : Mx w) (h : Np.pathL s.data.toList = some (L ++ [x])) : Calls Tryz.prog 76 #[.string s] w (ParYes L x w) := by
  obtain ⟨m, hm⟩ := hM
  exact parent_yes s L x m w hs hm h
theorem parentN (s : ByteArray) (w : World) (hs : s.size ≤ 100000) (hM : Mx w) (h : Np.pathL s.data.toList = none ∨ Np.pathL s.data.toList = some []) :
    Calls Tryz.prog 76 #[.string s] w fun e w' => e = .returned (.tuple #[.slice none 0 0, .string ⟨#[]⟩, .int .i64 15]) ∧ Below w.heap.size w w' := by
  obtain ⟨m, hm⟩ := hM
  exact parent_no s m w hs hm h

theorem Strs.take {w : World} {B : Nat} {A : Option Addr} {L : List (List UInt8)} (h : Strs w B A L) (n : Nat) : Strs w B A (L.take n) := by
  rcases h with h | ⟨b, o, h1, h2, h3, h4, h5⟩
  · exact Or.inl (by rw [h]; simp)
  · exact Or.inr ⟨b, o, h1, h2, h3, fun j x hx => h4 j x (by
      rw [List.getElem?_take] at hx
      split at hx
      · exact hx
      · cases hx), h5⟩

/-- slices.Equal at two lists of texts -/
theorem equal_any (A A' : Option Addr) (L M : List (List UInt8)) (c c' : Nat) (w : World) (hL : L.length ≤ 1000000) (hM : M.length ≤ 1000000) (hS : Strs w 0 A L) (hS' : Strs w 0 A' M) :
    Calls Tryz.prog 78 #[.slice A L.length c, .slice A' M.length c'] w fun e w' => e = .returned (.bool (decide (L = M))) ∧ Below w.heap.size w w' := by
  by_cases hne : L.length = M.length
  · rcases hS with h | ⟨b, o, rfl, _, h3, h4, _⟩
    · subst h
      obtain rfl : M = [] := List.length_eq_zero_iff.1 (by rw [← hne]; rfl)
      refine (Tryz.slices_Equal_string_empty A A' c 0 c' w (by omega)).mono fun e w' ⟨he, hw⟩ => ?_
      subst hw
      exact ⟨by rw [he]; rfl, Below.refl _ _⟩
    · rcases hS' with h | ⟨b', o', rfl, _, h3', h4', _⟩
      · subst h
        obtain rfl : L = [] := List.length_eq_zero_iff.1 hne
        refine (Tryz.slices_Equal_string_empty (some ⟨b, o, none⟩) A' c 0 c' w (by omega)).mono fun e w' ⟨he, hw⟩ => ?_
        subst hw
        exact ⟨by rw [he]; rfl, Below.refl _ _⟩
      · have hg : ∀ (K : List (List UInt8)) (j : Nat), j < (K.map fun x => (⟨x.toArray⟩ : ByteArray)).length → ∃ x, K[j]? = some x ∧ (K.map fun x => (⟨x.toArray⟩ : ByteArray)).getD j ByteArray.empty = ⟨x.toArray⟩ := fun K j hj => by
          rw [List.length_map] at hj
          refine ⟨K[j], List.getElem?_eq_getElem hj, ?_⟩
          rw [List.getD_eq_getElem?_getD, List.getElem?_map, List.getElem?_eq_getElem hj]
          rfl
        have h := Tryz.slices_Equal_string b o L.length c b' o' M.length c' (L.map fun x => ⟨x.toArray⟩) (M.map fun x => ⟨x.toArray⟩) w (by simp) (by simp) (by omega) (by omega)
          (fun j hj => by obtain ⟨x, hx, hd⟩ := hg L j hj; rw [hd]; exact h4 j x hx) (fun j hj => by obtain ⟨x, hx, hd⟩ := hg M j hj; rw [hd]; exact h4' j x hx)
        refine h.mono fun e w' ⟨he, q, hw⟩ => ?_
        subst hw
        refine ⟨?_, below_drewN (Below.refl _ _) _⟩
        rw [he]
        apply ret_bool
        rw [List.take_of_length_le (by simp), List.take_of_length_le (by simp)]
        have hinj : ∀ K N : List (List UInt8), (K.map fun x => (⟨x.toArray⟩ : ByteArray)) = (N.map fun x => (⟨x.toArray⟩ : ByteArray)) ↔ K = N := fun K N => by
          constructor
          · intro h
            have := congrArg (List.map fun b : ByteArray => b.data.toList) h
            simpa [Function.comp_def] using this
          · intro h; rw [h]
        simp only [hinj]
  · refine (Tryz.slices_Equal_string_lens A A' L.length c M.length c' w hne).mono fun e w' ⟨he, hw⟩ => ?_
    subst hw
    exact ⟨by rw [he, decide_eq_false (fun h => hne (by rw [h]))], Below.refl _ _⟩

def insideB (G H : Option (List (List UInt8))) : Bool :=
  match G, H with
  | some L, some M => decide (M.length ≤ L.length) && decide (L.take M.length = M)
  | _, _ => false
theorem inside_none (H : Option (List (List UInt8))) : insideB none H = false := rfl
theorem inside_none2 (G : Option (List (List UInt8))) : insideB G none = false := by cases G <;> rfl
theorem inside_self (L : List (List UInt8)) : insideB (some L) (some L) = true := by simp [insideB]
theorem inside_root (L : List (List UInt8)) : insideB (some L) (some []) = true := by simp [insideB]

set_option maxHeartbeats 2000000 in
theorem inside_any (s t : ByteArray) (w : World) (hs : s.size ≤ 100000) (ht : t.size ≤ 100000) (hM : Mx w) :
    Calls Tryz.prog 59 #[.string s, .string t] w fun e w' => e = .returned (.bool (insideB (Np.pathL s.data.toList) (Np.pathL t.data.toList))) ∧ Below w.heap.size w w' := by
  have HM := Lib.hid hM; clear hM
  cases hG : Np.pathL s.data.toList with
  | none =>
    rw [inside_none]
    have h1 := fun W hW => pathN s W hs hW hG
    have H1 := Lib.hid h1; clear h1 hG
    cases hH : Np.pathL t.data.toList with
    | none =>
      have h2 := fun W hW => pathN t W ht hW hH
      have H2 := Lib.hid h2; clear h2 hH
      go_enter Tryz.func59, Tryz.ntmps59
      go_wp2_with fail
      refine (H1.out _ HM.out).mono ?_
      rintro e w1 ⟨rfl, hb1⟩
      have HM1 := Lib.hid (HM.out.keep hb1)
      go_wp2_with fail
      refine (H2.out _ HM1.out).mono ?_
      rintro e w2 ⟨rfl, hb2⟩
      go_wp2
      go_ret
      exact ⟨rfl, hb1.trans (hb2.mono hb1.size)⟩
    | some M =>
      have h2 := fun W hW => pathY t M W ht hW hH
      have H2 := Lib.hid h2; clear h2 hH
      go_enter Tryz.func59, Tryz.ntmps59
      go_wp2_with fail
      refine (H1.out _ HM.out).mono ?_
      rintro e w1 ⟨rfl, hb1⟩
      have HM1 := Lib.hid (HM.out.keep hb1)
      go_wp2_with fail
      refine (H2.out _ HM1.out).mono ?_
      rintro e w2 ⟨A', c', rfl, hc', hS', hb2⟩
      clear hS'
      go_wp2
      go_ret
      exact ⟨rfl, hb1.trans (hb2.mono hb1.size)⟩
  | some L =>
    have h1 := fun W hW => pathY s L W hs hW hG
    have hl6 := (pathL_names hG).1
    have H1 := Lib.hid h1; clear h1 hG
    cases hH : Np.pathL t.data.toList with
    | none =>
      rw [inside_none2]
      have h2 := fun W hW => pathN t W ht hW hH
      have H2 := Lib.hid h2; clear h2 hH
      go_enter Tryz.func59, Tryz.ntmps59
      go_wp2_with fail
      refine (H1.out _ HM.out).mono ?_
      rintro e w1 ⟨A, c, rfl, hc, hS, hb1⟩
      clear hS
      have HM1 := Lib.hid (HM.out.keep hb1)
      go_wp2_with fail
      refine (H2.out _ HM1.out).mono ?_
      rintro e w2 ⟨rfl, hb2⟩
      go_wp2
      go_ret
      exact ⟨rfl, hb1.trans (hb2.mono hb1.size)⟩
    | some M =>
      have h2 := fun W hW => pathY t M W ht hW hH
      have hm6 := (pathL_names hH).1
      have H2 := Lib.hid h2; clear h2 hH
      by_cases hle : M.length ≤ L.length
      · have hfin : insideB (some L) (some M) = decide (L.take M.length = M) := by
          show (decide (M.length ≤ L.length) && decide (L.take M.length = M)) = _
          rw [decide_eq_true hle]; rfl
        rw [hfin]
        clear hfin
        have hq := fun A A' c c' W => equal_any A A' (L.take M.length) M c c' W (by simp; omega) (by omega)
        rw [List.length_take, Nat.min_eq_left hle] at hq
        obtain ⟨r, hr⟩ : ∃ r, r = decide (L.take M.length = M) := ⟨_, rfl⟩
        rw [← hr] at hq ⊢
        clear hr
        have HQ := Lib.hid hq; clear hq
        go_enter Tryz.func59, Tryz.ntmps59
        go_wp2_with fail
        refine (H1.out _ HM.out).mono ?_
        rintro e w1 ⟨A, c, rfl, hc, hS, hb1⟩
        have HM1 := Lib.hid (HM.out.keep hb1)
        have HS := Lib.hid hS; clear hS
        go_wp2_with fail
        refine (H2.out _ HM1.out).mono ?_
        rintro e w2 ⟨A', c', rfl, hc', hS', hb2⟩
        have HS2 := Lib.hid (((HS.out.keep hb2).low (Nat.zero_le _)).take M.length)
        have HS' : Hid (Strs w2 0 A' M) := Lib.hid (hS'.low (Nat.zero_le _)); clear hS'
        have hi1 : (M.length : Int) ≤ c := by omega
        go_wp2_with fail
        refine (HQ.out _ _ _ _ _ HS2.out (HS'.out.low (Nat.zero_le _))).mono ?_
        rintro e w3 ⟨rfl, hb3⟩
        go_wp2
        go_ret
        exact ⟨rfl, (hb1.trans (hb2.mono hb1.size)).trans (hb3.mono (by have := hb1.size; have := hb2.size; omega))⟩
      · have hfin : insideB (some L) (some M) = false := by
          show (decide (M.length ≤ L.length) && decide (L.take M.length = M)) = _
          rw [decide_eq_false hle]; rfl
        rw [hfin]
        clear hfin
        go_enter Tryz.func59, Tryz.ntmps59
        go_wp2_with fail
        refine (H1.out _ HM.out).mono ?_
        rintro e w1 ⟨A, c, rfl, hc, hS, hb1⟩
        clear hS
        have HM1 := Lib.hid (HM.out.keep hb1)
        go_wp2_with fail
        refine (H2.out _ HM1.out).mono ?_
        rintro e w2 ⟨A', c', rfl, hc', hS', hb2⟩
        clear hS'
        go_wp2
        go_ret
        exact ⟨rfl, hb1.trans (hb2.mono hb1.size)⟩

theorem inside_cut {L M : List (List UInt8)} {k : Nat} (hk : k + 1 ≤ M.length) (h : L.take M.length = M) : L.take (k + 1) = M.take (k + 1) := by
  have h2 := congrArg (List.take (k + 1)) h
  rwa [List.take_take, Nat.min_eq_left hk] at h2

set_option maxHeartbeats 2000000 in
theorem rinside_any (s t : ByteArray) (w : World) (hs : s.size ≤ 100000) (ht : t.size ≤ 100000) :
    Calls Tryz.prog 67 #[.string s, .string t] w fun e w' => e = .returned (.bool (insideB (Np.pathL s.data.toList) (Np.pathL t.data.toList))) ∧ Below w.heap.size w w' := by
  cases hG : Np.pathL s.data.toList with
  | none =>
    rw [inside_none]
    have h1 := fun W => rpathN s W hs hG
    have H1 := Lib.hid h1; clear h1 hG
    cases hH : Np.pathL t.data.toList with
    | none =>
      have h2 := fun W => rpathN t W ht hH
      have H2 := Lib.hid h2; clear h2 hH
      go_enter Tryz.func67, Tryz.ntmps67
      go_wp2_with fail
      refine (H1.out _).mono ?_
      rintro e w1 ⟨rfl, hb1⟩
      go_wp2_with fail
      refine (H2.out _).mono ?_
      rintro e w2 ⟨rfl, hb2⟩
      go_wp2
      go_ret
      exact ⟨rfl, hb1.trans (hb2.mono hb1.size)⟩
    | some M =>
      have h2 := fun W => rpathY t M W ht hH
      have H2 := Lib.hid h2; clear h2 hH
      go_enter Tryz.func67, Tryz.ntmps67
      go_wp2_with fail
      refine (H1.out _).mono ?_
      rintro e w1 ⟨rfl, hb1⟩
      go_wp2_with fail
      refine (H2.out _).mono ?_
      rintro e w2 ⟨A', c', rfl, hc', hS', hb2⟩
      clear hS'
      go_wp2
      go_ret
      exact ⟨rfl, hb1.trans (hb2.mono hb1.size)⟩
  | some L =>
    have h1 := fun W => rpathY s L W hs hG
    have hl6 := (pathL_names hG).1
    have H1 := Lib.hid h1; clear h1 hG
    cases hH : Np.pathL t.data.toList with
    | none =>
      rw [inside_none2]
      have h2 := fun W => rpathN t W ht hH
      have H2 := Lib.hid h2; clear h2 hH
      go_enter Tryz.func67, Tryz.ntmps67
      go_wp2_with fail
      refine (H1.out _).mono ?_
      rintro e w1 ⟨A, c, rfl, hc, hS, hb1⟩
      clear hS
      go_wp2_with fail
      refine (H2.out _).mono ?_
      rintro e w2 ⟨rfl, hb2⟩
      go_wp2
      go_ret
      exact ⟨rfl, hb1.trans (hb2.mono hb1.size)⟩
    | some M =>
      have h2 := fun W => rpathY t M W ht hH
      have hm6 := (pathL_names hH).1
      have H2 := Lib.hid h2; clear h2 hH
      by_cases hle : M.length ≤ L.length
      · have hfin : insideB (some L) (some M) = decide (L.take M.length = M) := by
          show (decide (M.length ≤ L.length) && decide (L.take M.length = M)) = _
          rw [decide_eq_true hle]; rfl
        rw [hfin]
        clear hfin
        obtain ⟨n, hn⟩ : ∃ n, n = L.length := ⟨_, rfl⟩
        obtain ⟨m, hm⟩ : ∃ m, m = M.length := ⟨_, rfl⟩
        have Hn := Lib.hid hn
        have Hm := Lib.hid hm
        have hle1 : (m : Int) ≤ n := by omega
        have hn6 : n ≤ 6 := by omega
        obtain ⟨r, hr⟩ : ∃ r, r = decide (L.take M.length = M) := ⟨_, rfl⟩
        rw [← hr]
        have Hr := Lib.hid hr; clear hr hn hm
        clear hle hl6 hm6
        go_enter Tryz.func67, Tryz.ntmps67
        go_wp2_with fail
        refine (H1.out _).mono ?_
        rintro e w1 ⟨A, c, rfl, hc, hS, hb1⟩
        have HS := Lib.hid hS; clear hS
        rw [← Hn.out] at hc ⊢
        go_wp2_with fail
        refine (H2.out _).mono ?_
        rintro e w2 ⟨A', c', rfl, hc', hS', hb2⟩
        have HS2 := Lib.hid ((HS.out.keep hb2).low (Nat.zero_le _))
        have HS' : Hid (Strs w2 0 A' M) := Lib.hid (hS'.low (Nat.zero_le _)); clear hS'
        rw [← Hm.out] at hc' ⊢
        have hB2 : Below w.heap.size w w2 := hb1.trans (hb2.mono hb1.size)
        clear hb1 hb2 HS
        go_wp2
        go_loopw [9] (fun i wr => ∃ k : Nat, k ≤ m ∧ i = .int .i64 k ∧ Hid (L.take k = M.take k) ∧ Below w2.heap.size w2 wr) (fun i _ => m - (intOf i).toNat)
        case atStart => exact ⟨0, by omega, rfl, by show L.take 0 = M.take 0; simp, Below.refl _ _⟩
        case round =>
          obtain ⟨k, hk, rfl, hok, hbw⟩ := hrel
          have hB3 : Below w.heap.size w wr := hB2.trans (hbw.mono hB2.size)
          by_cases hlt : k < m
          · have hkL : k < L.length := by have := Hn.out; omega
            have hkM : k < M.length := by have := Hm.out; omega
            obtain ⟨x, hx⟩ : ∃ x, L[k]? = some x := ⟨_, List.getElem?_eq_getElem hkL⟩
            obtain ⟨y, hy⟩ : ∃ y, M[k]? = some y := ⟨_, List.getElem?_eq_getElem hkM⟩
            rcases HS2.out with h | ⟨b, o, rfl, h2, h3, h4, _⟩
            · subst h; simp at hkL
            rcases HS'.out with h | ⟨b', o', rfl, h2', h3', h4', _⟩
            · subst h; simp at hkM
            have hc : wr.cell? ⟨b, o + k, none⟩ = some (.string ⟨x.toArray⟩) := (hbw.cell (p := ⟨b, o + k, none⟩) h3).trans (h4 k x hx)
            have hc' : wr.cell? ⟨b', o' + k, none⟩ = some (.string ⟨y.toArray⟩) := (hbw.cell (p := ⟨b', o' + k, none⟩) h3').trans (h4' k y hy)
            have hiff := take_both hok.out hx hy
            have Hiff := Lib.hid hiff
            have Hk := Lib.hid hkM
            clear h4 h4' hx hy hiff hkL hkM
            have hk1 : (0 : Int) ≤ k := by omega
            have hk2 : (k : Int) < n := by omega
            have hk3 : (k : Int) < m := by omega
            go_wp2
            go_quiet (fail)
            go_wp2
            · have hne : (!x == y) = true := by assumption
              have hxy : ¬ x = y := by simpa using hne
              go_ret
              refine ⟨ret_bool ?_, below_drewN hB3 _⟩
              rw [Hr.out]
              symm
              exact decide_eq_false fun h => hxy (Hiff.out.1 (inside_cut Hk.out h))
            · have hne : (!x == y) = false := by assumption
              have hxy : x = y := by simpa using hne
              go_roundw
              case rel => exact ⟨k + 1, by omega, by go_num, Hiff.out.2 hxy, below_drewN hbw _⟩
              case measure => simp [intOf]; omega
          · go_wp2
            go_ret
            refine ⟨ret_bool ?_, hB3⟩
            have := hok.out
            rw [show k = M.length by have := Hm.out; omega, List.take_length] at this
            rw [Hr.out, decide_eq_true this]
      · have hfin : insideB (some L) (some M) = false := by
          show (decide (M.length ≤ L.length) && decide (L.take M.length = M)) = _
          rw [decide_eq_false hle]; rfl
        rw [hfin]
        clear hfin
        have hle1 : (L.length : Int) < M.length := by omega
        go_enter Tryz.func67, Tryz.ntmps67
        go_wp2_with fail
        refine (H1.out _).mono ?_
        rintro e w1 ⟨A, c, rfl, hc, hS, hb1⟩
        clear hS
        go_wp2_with fail
        refine (H2.out _).mono ?_
        rintro e w2 ⟨A', c', rfl, hc', hS', hb2⟩
        clear hS'
        go_wp2
        go_ret
        exact ⟨rfl, hb1.trans (hb2.mono hb1.size)⟩


end Go.Proofs.YtbpejjmfdhkfhaaGreatDoor

/- What the document's calls do, plainly: each a file system and an answer. -/
namespace Go.Proofs.YtbpejjmfdhkfhaaGreatDoor
namespace Pz

/-- an answer -/
structure Rep where
  errno : Int
  fd : Int
  data : List UInt8
  names : List (List UInt8)
  kind : Int
  links : Int
  size : Int
def er (e : Int) : Rep := ⟨e, 0, [], [], 0, 0, 0⟩
def fdR (fd : Int) : Rep := ⟨0, fd, [], [], 0, 0, 0⟩
def dataR (x : List UInt8) : Rep := ⟨0, 0, x, [], 0, 0, 0⟩
def namesR (l : List (List UInt8)) : Rep := ⟨0, 0, [], l, 0, 0, 0⟩
def infoR (k l s : Int) : Rep := ⟨0, 0, [], [], k, l, s⟩

/-- from a number on: the first descriptor that is free, of so many -/
def freeN (O : List Op) (cl : Int) : Nat → Nat → Nat
  | 0, k => k
  | m + 1, k => if 0 ≤ ofd O cl k then freeN O cl m (k + 1) else k
def free (O : List Op) (cl : Int) : Nat := freeN O cl 8 0

def nodeD (N : List Nd) (n : Nat) : Nd := match N[n]? with | some x => x | none => ⟨false, [], 0⟩

def rmdirR (S : Fil) (p : List UInt8) : Fil × Rep :=
  if p = [47] then (S, er 15) else
  match find S p with
  | .error e => (S, er e)
  | .ok n => if isDir S.N n then (if 0 < count S.E n then (S, er 14) else
      match place S p with
      | .error _ => (S, er 0)
      | .ok q => ({ S with E := take S.E q.1 q.2 }, er 0)) else (S, er 12)
def mkdir (S : Fil) (p : List UInt8) : Fil × Rep :=
  match find S p with
  | .ok _ => (S, er 11)
  | .error _ => match place S p with
    | .error g => (S, er g)
    | .ok q => ({ S with N := S.N ++ [⟨true, [], 1⟩], E := S.E ++ [⟨q.1, q.2, S.N.length⟩] }, er 0)
def opens (S : Fil) (cl flags : Int) (p : List UInt8) : Fil × Rep :=
  if ¬ (flags = 0 ∨ flags = 1 ∨ flags = 3) then (S, er 15) else
  match find S p with
  | .ok n => if flags = 3 then (S, er 11) else if isDir S.N n then (S, er 13) else if free S.O cl = 8 then (S, er 17) else
      ({ S with O := S.O ++ [⟨cl, free S.O cl, n⟩] }, fdR (free S.O cl))
  | .error e => if e = 10 ∧ flags ≠ 0 then
      match place S p with
      | .error _ => (S, er e)
      | .ok q => if free S.O cl = 8 then (S, er 17) else
        ({ N := S.N ++ [⟨false, [], 1⟩], E := S.E ++ [⟨q.1, q.2, S.N.length⟩], O := S.O ++ [⟨cl, free S.O cl, S.N.length⟩] }, fdR (free S.O cl))
    else (S, er e)
/-- bytes laid at a place -/
def laid (s : List UInt8) (off : Nat) (d : List UInt8) : List UInt8 := sized s off ++ d ++ s.drop (off + d.length)
def file (S : Fil) (cl : Int) (n : Nat) (kind fd off m : Int) (d : List UInt8) : Fil × Rep :=
  if kind = 2 then ({ S with O := shut S.O cl fd }, er 0)
  else if kind = 3 then
    (S, if off < 0 ∨ m < 0 ∨ 64 < m then er 15 else if ((nodeD S.N n).data.length : Int) ≤ off then er 0 else dataR (((nodeD S.N n).data.drop off.toNat).take m.toNat))
  else if kind = 4 then
    if off < 0 ∨ 64 < d.length then (S, er 15) else if d.length = 0 then (S, er 0) else if 256 < off ∨ 256 < off + d.length then (S, er 19)
    else ({ S with N := S.N.set n { nodeD S.N n with data := laid (nodeD S.N n).data off.toNat d } }, er 0)
  else if kind = 5 then
    if m < 0 then (S, er 15) else if 256 < m then (S, er 19) else ({ S with N := S.N.set n { nodeD S.N n with data := sized (nodeD S.N n).data m.toNat } }, er 0)
  else (S, er 0)
def link (S : Fil) (p p2 : List UInt8) : Fil × Rep :=
  if Np.pathL p = none ∨ Np.pathL p2 = none then (S, er 15) else
  match find S p with
  | .error e => (S, er e)
  | .ok n => if isDir S.N n then (S, er 13) else if p2 = [47] then (S, er 11) else
    match place S p2 with
    | .error g => (S, er g)
    | .ok q => if 0 ≤ look S.E q.1 q.2 then (S, er 11) else if (nodeD S.N n).links = 20 then (S, er 20) else
      ({ S with E := S.E ++ [⟨q.1, q.2, n⟩], N := S.N.set n { nodeD S.N n with links := (nodeD S.N n).links + 1 } }, er 0)
def unlink (S : Fil) (p : List UInt8) : Fil × Rep :=
  match find S p with
  | .error e => (S, er e)
  | .ok n => if isDir S.N n then (S, er 13) else
    match place S p with
    | .error _ => (S, er 0)
    | .ok q => ({ S with E := take S.E q.1 q.2, N := S.N.set n { nodeD S.N n with links := (nodeD S.N n).links - 1 } }, er 0)
/-- what a rename does where there may be one: what stood there goes, the old name goes, the new one comes -/
def over (S : Fil) (was : Int) (q : Nat × List UInt8) : Fil :=
  if 0 ≤ was then
    { S with E := take S.E q.1 q.2, N := if isDir S.N was.toNat then S.N else S.N.set was.toNat { nodeD S.N was.toNat with links := (nodeD S.N was.toNat).links - 1 } }
  else S
def overErr (S : Fil) (n : Nat) (was : Int) : Int :=
  if 0 ≤ was then
    if isDir S.N n then (if isDir S.N was.toNat then (if 0 < count S.E was.toNat then 14 else 0) else 12)
    else (if isDir S.N was.toNat then 13 else 0)
  else 0
def rename (S : Fil) (p p2 : List UInt8) : Fil × Rep :=
  if Np.pathL p = none ∨ Np.pathL p2 = none ∨ p = [47] ∨ p2 = [47] then (S, er 15) else
  match find S p with
  | .error e => (S, er e)
  | .ok n => if isDir S.N n ∧ p ≠ p2 ∧ insideB (Np.pathL p2) (Np.pathL p) = true then (S, er 15) else
    match place S p2 with
    | .error g => (S, er g)
    | .ok q => if look S.E q.1 q.2 = n then (S, er 0) else if overErr S n (look S.E q.1 q.2) ≠ 0 then (S, er (overErr S n (look S.E q.1 q.2))) else
      match place S p with
      | .error _ => (S, er 0)
      | .ok o => ({ over S (look S.E q.1 q.2) q with E := take (over S (look S.E q.1 q.2) q).E o.1 o.2 ++ [⟨q.1, q.2, n⟩] }, er 0)

/-- a text put into a rising list -/
def ins (x : List UInt8) : List (List UInt8) → List (List UInt8)
  | [] => [x]
  | y :: r => if x < y then x :: y :: r else y :: ins x r
def namesOf (E : List En) (i : Nat) : List (List UInt8) := ((E.filter fun e => e.dir == i).map (·.name)).foldl (fun l x => ins x l) []
def tells (S : Fil) (kind : Int) (p : List UInt8) : Fil × Rep :=
  (S, match find S p with
  | .error e => er e
  | .ok n => if kind = 13 then (if isDir S.N n then infoR 2 1 (count S.E n) else infoR 1 (nodeD S.N n).links (nodeD S.N n).data.length)
    else if isDir S.N n then namesR (namesOf S.E n) else er 12)
/-- a client's call -/
def doA (S : Fil) (cl kind : Int) (p p2 : List UInt8) (flags fd off m : Int) (d : List UInt8) : Fil × Rep :=
  if cl < 1 ∨ 8 < cl then (S, er 1)
  else if kind = 1 then opens S cl flags p
  else if 2 ≤ kind ∧ kind ≤ 6 then (if ofd S.O cl fd < 0 then (S, er 16) else file S cl (ofd S.O cl fd).toNat kind fd off m d)
  else if kind = 7 then mkdir S p
  else if kind = 8 then rmdirR S p
  else if kind = 9 then link S p p2
  else if kind = 10 then unlink S p
  else if kind = 11 then rename S p p2
  else if kind = 12 ∨ kind = 13 then tells S kind p
  else (S, er 15)

/-- every number that stands somewhere is a node's; names are some, each stands once; there are few of all -/
structure Good (K : Nat) (S : Fil) : Prop where
  ok : Ok S
  n : S.N.length ≤ K
  e : S.E.length ≤ K
  o : S.O.length ≤ K
  data : ∀ x ∈ S.N, x.data.length ≤ 256
  links : ∀ x ∈ S.N, x.links ≤ 20 ∧ -(K : Int) ≤ x.links
  name : ∀ e ∈ S.E, Np.nameB e.name = true
  once : S.E.Pairwise fun a b => ¬ (a.dir = b.dir ∧ a.name = b.name)
  one : S.O.Pairwise fun a b => ¬ (a.client = b.client ∧ a.fd = b.fd)
  root : isDir S.N 0 = true
  dirs : ∀ e ∈ S.E, isDir S.N e.dir = true
  fds : ∀ o ∈ S.O, isDir S.N o.node = false

theorem nodeD_links {K : Nat} {S : Fil} (h : Good K S) {n : Nat} (hn : n < S.N.length) : (nodeD S.N n).links ≤ 20 ∧ -(K : Int) ≤ (nodeD S.N n).links := by
  have e : S.N[n]? = some S.N[n] := List.getElem?_eq_getElem hn
  unfold nodeD
  rw [e]
  exact h.links _ (List.getElem_mem hn)
theorem nodeD_data {K : Nat} {S : Fil} (h : Good K S) {n : Nat} (hn : n < S.N.length) : (nodeD S.N n).data.length ≤ 256 := by
  have e : S.N[n]? = some S.N[n] := List.getElem?_eq_getElem hn
  unfold nodeD
  rw [e]
  exact h.data _ (List.getElem_mem hn)

theorem look_place {S : Fil} {x : List UInt8} {n : Nat} : ∀ {L : List (List UInt8)} {i : Nat}, walk S i (L ++ [x]) = .ok n → ∃ d, walk S i L = .ok d ∧ isDir S.N d = true ∧ look S.E d x = n
  | [], i, h => by
    rw [List.nil_append, walk] at h
    split at h
    · rename_i hd
      split at h
      · cases h
      · rename_i hl
        refine ⟨i, rfl, hd, ?_⟩
        rw [walk] at h
        cases h
        omega
    · cases h
  | y :: L, i, h => by
    rw [List.cons_append, walk] at h
    split at h
    · rename_i hd
      split at h
      · cases h
      · rename_i hl
        obtain ⟨d, h1, h2, h3⟩ := look_place h
        refine ⟨d, ?_, h2, h3⟩
        rw [walk, if_pos hd, if_neg hl]; exact h1
    · cases h

theorem pathL_nil {p : List UInt8} (h : Np.pathL p = some []) : p = [47] := by
  have := (Np.pathL_some h).2
  rw [← this]; rfl
/-- where a path that is no root's is a node's, it has a place -/
theorem place_of_find {S : Fil} {p : List UInt8} {n : Nat} (h : find S p = .ok n) (hp : p ≠ [47]) : ∃ d x, place S p = .ok (d, x) ∧ look S.E d x = n ∧ isDir S.N d = true := by
  unfold find at h
  cases hL : Np.pathL p with
  | none => rw [hL] at h; cases h
  | some L =>
    rw [hL] at h
    have hne : L ≠ [] := fun e => hp (pathL_nil (by rw [hL, e]))
    have e := List.dropLast_concat_getLast hne
    rw [← e] at h
    obtain ⟨d, h1, h2, h3⟩ := look_place h
    refine ⟨d, L.getLast hne, ?_, h3, h2⟩
    unfold place
    rw [hL]
    simp only [List.getLast?_eq_some_getLast hne, h1, placeOn, if_pos h2]
theorem find_root {S : Fil} : find S [47] = .ok 0 := by
  unfold find
  have : Np.pathL [47] = some [] := by decide
  rw [this]; rfl
theorem place_lt {S : Fil} (h : Ok S) {p : List UInt8} {d : Nat} {x : List UInt8} (hp : place S p = .ok (d, x)) : d < S.N.length ∧ isDir S.N d = true := by
  unfold place at hp
  split at hp
  · cases hp
  · rename_i L _
    split at hp
    · cases hp
    · rename_i y _
      cases hw : walk S 0 L.dropLast with
      | error e => rw [hw] at hp; cases hp
      | ok n =>
        rw [hw] at hp
        unfold placeOn at hp
        simp only at hp
        split at hp
        · rename_i hd
          cases hp
          exact ⟨walk_lt h h.root hw, hd⟩
        · cases hp
theorem place_err {S : Fil} {p : List UInt8} {e : Int} (hp : place S p = .error e) : e = 10 ∨ e = 12 ∨ e = 15 := by
  unfold place at hp
  split at hp
  · cases hp; exact Or.inr (Or.inr rfl)
  · rename_i L _
    split at hp
    · cases hp; exact Or.inr (Or.inr rfl)
    · rename_i y _
      cases hw : walk S 0 L.dropLast with
      | error g =>
        rw [hw] at hp
        cases hp
        rcases walk_err hw with h | h
        · exact Or.inl h
        · exact Or.inr (Or.inl h)
      | ok n =>
        rw [hw] at hp
        unfold placeOn at hp
        simp only at hp
        split at hp
        · cases hp
        · cases hp; exact Or.inr (Or.inl rfl)
theorem place_name {S : Fil} {p : List UInt8} {d : Nat} {x : List UInt8} (hp : place S p = .ok (d, x)) : Np.nameB x = true := by
  unfold place at hp
  split at hp
  · cases hp
  · rename_i L hL
    split at hp
    · cases hp
    · rename_i y hy
      cases hw : walk S 0 L.dropLast with
      | error e => rw [hw] at hp; cases hp
      | ok n =>
        rw [hw] at hp
        unfold placeOn at hp
        simp only at hp
        split at hp
        · cases hp
          exact (pathL_names hL).2 _ (List.mem_of_getLast? hy)
        · cases hp

end Pz
end Go.Proofs.YtbpejjmfdhkfhaaGreatDoor

/- A name that goes: what the rest of the tree is behind it; a rename's places, plainly. -/
namespace Go.Proofs.YtbpejjmfdhkfhaaGreatDoor
namespace Pz

theorem look_app {E G : List En} {i : Nat} {x : List UInt8} : look (E ++ G) i x = if 0 ≤ look E i x then look E i x else look G i x := by
  induction E with
  | nil => rw [List.nil_append, look, if_neg (by omega)]
  | cons e r ih =>
    rw [List.cons_append, look, look]
    by_cases h : e.dir = i ∧ e.name = x
    · rw [if_pos h, if_pos h, if_pos (by omega)]
    · rw [if_neg h, if_neg h, ih]
theorem look_take_same {E : List En} {i : Nat} {x : List UInt8} : look (take E i x) i x = -1 := by
  induction E with
  | nil => rfl
  | cons e r ih =>
    unfold take at ih ⊢
    rw [List.filter_cons]
    by_cases h : e.dir = i ∧ e.name = x
    · rw [if_neg (by simp [h])]; exact ih
    · rw [if_pos (by simp only [h, not_false_iff, decide_true]), look, if_neg h]; exact ih
theorem look_take_other {E : List En} {i j : Nat} {x y : List UInt8} (hne : ¬ (j = i ∧ y = x)) : look (take E i x) j y = look E j y := by
  induction E with
  | nil => rfl
  | cons e r ih =>
    unfold take at ih ⊢
    rw [List.filter_cons]
    by_cases h : e.dir = i ∧ e.name = x
    · rw [if_neg (by simp [h]), look, if_neg (by rintro ⟨h1, h2⟩; exact hne ⟨h1.symm.trans h.1, h2.symm.trans h.2⟩)]; exact ih
    · rw [if_pos (by simp only [h, not_false_iff, decide_true]), look, look, ih]
theorem count_of_look {E : List En} {i : Nat} {x : List UInt8} (h : 0 ≤ look E i x) : 0 < count E i := by
  induction E with
  | nil => rw [look] at h; omega
  | cons e r ih =>
    unfold count at ih ⊢
    rw [look] at h
    rw [List.filter_cons]
    by_cases hd : e.dir = i
    · rw [if_pos (by simp [hd])]; simp
    · rw [if_neg (by simp [hd])]
      rw [if_neg (fun e => hd e.1)] at h
      exact ih h
theorem isDir_set {N : List Nd} {n : Nat} {y : Nd} (hy : y.dir = isDir N n) : ∀ k, isDir (N.set n y) k = isDir N k := by
  intro k
  unfold isDir at hy ⊢
  by_cases h : n = k
  · subst h
    by_cases hl : n < N.length
    · rw [List.getElem?_set_self hl, List.getElem?_eq_getElem hl]
      rw [List.getElem?_eq_getElem hl] at hy
      exact hy
    · rw [List.getElem?_eq_none (by simp; omega), List.getElem?_eq_none (by omega)]
  · rw [List.getElem?_set_ne h]
theorem nodeD_dir (N : List Nd) (n : Nat) : (nodeD N n).dir = isDir N n := by
  unfold nodeD isDir
  cases N[n]? <;> rfl

/-- a way that does not lead by a name that goes -/
theorem walk_apart {S T : Fil} {d : Nat} {x : List UInt8} (hT : ∀ k, isDir T.N k = isDir S.N k) (hE : T.E = take S.E d x) (hw : 0 ≤ look S.E d x → isDir S.N (look S.E d x).toNat = false ∨ count S.E (look S.E d x).toNat = 0)
    {o : Nat} (hod : isDir S.N o = true) (hoc : 0 < count S.E o) : ∀ {L : List (List UInt8)} {i : Nat}, walk S i L = .ok o → walk T i L = .ok o
  | [], i, h => by rw [walk] at h ⊢; exact h
  | y :: L, i, h => by
    rw [walk] at h ⊢
    rw [hT]
    split at h
    · rename_i hd
      rw [if_pos hd]
      split at h
      · cases h
      · rename_i hl
        by_cases hc : i = d ∧ y = x
        · exfalso
          obtain ⟨rfl, rfl⟩ := hc
          rcases hw (by omega) with hf | h0
          · cases L with
            | nil =>
              rw [walk] at h
              cases h
              rw [hf] at hod
              cases hod
            | cons y' L' =>
              rw [walk, hf] at h
              cases h
          · cases L with
            | nil =>
              rw [walk] at h
              cases h
              omega
            | cons y' L' =>
              rw [walk] at h
              split at h
              · split at h
                · cases h
                · rename_i hl'
                  have := count_of_look (E := S.E) (x := y') (i := (look S.E i y).toNat) (by omega)
                  omega
              · cases h
        · have e : look T.E i y = look S.E i y := by rw [hE]; exact look_take_other hc
          rw [e, if_neg hl]
          exact walk_apart hT hE hw hod hoc h
    · cases h

theorem place_walk {S : Fil} {p : List UInt8} {o : Nat} {y : List UInt8} (h : place S p = .ok (o, y)) : ∃ L, Np.pathL p = some (L ++ [y]) ∧ walk S 0 L = .ok o ∧ isDir S.N o = true := by
  unfold place at h
  split at h
  · cases h
  · rename_i L hL
    split at h
    · cases h
    · rename_i x hx
      cases hw : walk S 0 L.dropLast with
      | error e => rw [hw] at h; cases h
      | ok n =>
        rw [hw] at h
        unfold placeOn at h
        simp only at h
        split at h
        · rename_i hd
          cases h
          refine ⟨L.dropLast, ?_, hw, hd⟩
          rw [hL]
          congr 1
          have hne : L ≠ [] := fun e => by subst e; simp at hx
          rw [List.getLast?_eq_some_getLast hne] at hx
          cases hx
          exact (List.dropLast_concat_getLast hne).symm
        · cases h
theorem place_of_walk {S : Fil} {p : List UInt8} {o : Nat} {y : List UInt8} {L : List (List UInt8)} (hL : Np.pathL p = some (L ++ [y])) (hw : walk S 0 L = .ok o) (hd : isDir S.N o = true) : place S p = .ok (o, y) := by
  unfold place
  rw [hL]
  simp only [List.getLast?_concat, List.dropLast_concat, hw, placeOn, if_pos hd]

/-- where there may be a rename, the old name stands where it stood behind what is laid over -/
theorem place_over {S : Fil} {p : List UInt8} {n : Nat} {d : Nat} {x : List UInt8} {o : Nat} {y : List UInt8} (hp : place S p = .ok (o, y)) (hl : look S.E o y = n) (h0 : 0 ≤ look S.E d x) (hov : overErr S n (look S.E d x) = 0) :
    place (over S (look S.E d x) (d, x)) p = .ok (o, y) := by
  obtain ⟨L, hL, hw, hd⟩ := place_walk hp
  have hT : ∀ k, isDir (over S (look S.E d x) (d, x)).N k = isDir S.N k := by
    intro k
    unfold over
    rw [if_pos h0]
    simp only
    split
    · rfl
    · refine isDir_set ?_ k
      exact nodeD_dir _ _
  have hE : (over S (look S.E d x) (d, x)).E = take S.E d x := by unfold over; rw [if_pos h0]
  refine place_of_walk hL (walk_apart hT hE (fun _ => ?_) hd (count_of_look (by rw [hl]; omega)) hw) (by rw [hT]; exact hd)
  unfold overErr at hov
  rw [if_pos h0] at hov
  by_cases h1 : isDir S.N (look S.E d x).toNat = true
  · right
    rw [if_pos h1, if_pos h1] at hov
    split at hov
    · split at hov
      · omega
      · omega
    · omega
  · left; simpa using h1

theorem overErr_nat {S : Fil} {m k : Nat} : overErr S m (k : Int) = if isDir S.N m then (if isDir S.N k then (if 0 < count S.E k then 14 else 0) else 12) else (if isDir S.N k then 13 else 0) := by
  unfold overErr
  rw [if_pos (by omega)]
  rfl
theorem over_nat {S : Fil} {k : Nat} {q : Nat × List UInt8} : over S (k : Int) q = { S with E := take S.E q.1 q.2, N := if isDir S.N k then S.N else S.N.set k { nodeD S.N k with links := (nodeD S.N k).links - 1 } } := by
  unfold over
  rw [if_pos (by omega)]
  rfl

theorem ok_take {S : Fil} (h : Ok S) (d : Nat) (x : List UInt8) : Ok { S with E := take S.E d x } :=
  ⟨h.root, fun e he => h.ent e (List.mem_filter.1 he).1, h.opn⟩
theorem ok_set {S : Fil} (h : Ok S) (n : Nat) (y : Nd) : Ok { S with N := S.N.set n y } :=
  ⟨by simpa using h.root, fun e he => by simpa using h.ent e he, fun o ho => by simpa using h.opn o ho⟩
theorem ok_over {S : Fil} (h : Ok S) (z : Int) (q : Nat × List UInt8) : Ok (over S z q) := by
  unfold over
  split
  · split
    · exact ok_take h _ _
    · exact ok_set (S := { S with E := take S.E q.1 q.2 }) (ok_take h _ _) _ _
  · exact h
theorem over_len {S : Fil} (z : Int) (q : Nat × List UInt8) : (over S z q).N.length = S.N.length ∧ (over S z q).E.length ≤ S.E.length ∧ (over S z q).O = S.O := by
  unfold over
  split
  · refine ⟨?_, take_le _ _ _, rfl⟩
    simp only
    split
    · rfl
    · simp
  · exact ⟨rfl, Nat.le_refl _, rfl⟩

end Pz
end Go.Proofs.YtbpejjmfdhkfhaaGreatDoor
