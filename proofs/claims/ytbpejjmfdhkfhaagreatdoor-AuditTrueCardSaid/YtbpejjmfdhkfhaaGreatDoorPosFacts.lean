/- Plain facts of the file system: what stands, what is told, what is found again. -/
import Derived.Test.YtbpejjmfdhkfhaaGreatDoorPosBoth
set_option linter.unusedVariables false
set_option linter.unusedSimpArgs false
namespace Go.Proofs.YtbpejjmfdhkfhaaGreatDoor
namespace Pz

/-- a directory has one name, and the root has none -/
def Tree (S : Fil) : Prop := ∀ e ∈ S.E, isDir S.N e.node = true → e.node ≠ 0 ∧ ∀ a ∈ S.E, a.node = e.node → a = e
structure FewT (S : Fil) : Prop where
  few : Few S
  tree : Tree S
theorem FewT.i64 {S : Fil} (h : FewT S) : ∀ o ∈ S.O, I64 o.client ∧ I64 o.fd := h.few.i64

theorem Tree.sub {S T : Fil} (h : Tree S) (hE : ∀ e ∈ T.E, e ∈ S.E) (hN : ∀ k, isDir T.N k = isDir S.N k) : Tree T := fun e he hd => by
  rw [hN] at hd
  exact ⟨(h e (hE e he) hd).1, fun a ha hn => (h e (hE e he) hd).2 a (hE a ha) hn⟩
theorem Tree.add {S T : Fil} (h : Tree S) {z : En} (hE : ∀ e ∈ T.E, e ∈ S.E ∨ e = z) (hN : ∀ e ∈ S.E, isDir T.N e.node = true → isDir S.N e.node = true)
    (hn : isDir T.N z.node = true → z.node ≠ 0 ∧ ∀ a ∈ T.E, a.node = z.node → a = z) : Tree T := by
  intro e he hd
  rcases hE e he with h1 | rfl
  · by_cases hnn : e.node = z.node
    · rw [hnn] at hd
      obtain ⟨h2, h3⟩ := hn hd
      rw [h3 e he hnn]
      exact ⟨h2, h3⟩
    · obtain ⟨h2, h3⟩ := h e h1 (hN e h1 hd)
      refine ⟨h2, fun a ha ha2 => ?_⟩
      rcases hE a ha with h4 | rfl
      · exact h3 a h4 ha2
      · exact absurd ha2.symm hnn
  · exact hn hd
theorem take_sub {E : List En} {d : Nat} {x : List UInt8} : ∀ e ∈ take E d x, e ∈ E := fun _ he => (List.mem_filter.1 he).1
theorem take_not {E : List En} {d : Nat} {x : List UInt8} {e : En} (he : e ∈ take E d x) : ¬ (e.dir = d ∧ e.name = x) := of_decide_eq_true (List.mem_filter.1 he).2
theorem over_sub {S : Fil} {z : Int} {q : Nat × List UInt8} : ∀ e ∈ (over S z q).E, e ∈ S.E := fun e he => by
  unfold over at he
  split at he
  · exact take_sub e he
  · exact he
theorem look_entry {E : List En} {i n : Nat} {x : List UInt8} (h : look E i x = n) : ⟨i, x, n⟩ ∈ E := by
  induction E with
  | nil => rw [look] at h; omega
  | cons a r ih =>
    rw [look] at h
    split at h
    · rename_i hh
      obtain ⟨d, m, k⟩ := a
      obtain ⟨rfl, rfl⟩ := hh
      have : k = n := by
        simp only at h
        omega
      rw [this]
      exact List.mem_cons_self ..
    · exact List.mem_cons_of_mem _ (ih h)

theorem do_tree {K : Nat} {S : Fil} (h : Good K S) (ht : Tree S) (cl kind : Int) (p p2 : List UInt8) (flags fd off m : Int) (d : List UInt8) : Tree (doA S cl kind p p2 flags fd off m d).1 := by
  unfold doA
  split
  · exact ht
  split
  · unfold opens
    split
    · exact ht
    split
    · split
      · exact ht
      split
      · exact ht
      split
      · exact ht
      · exact ht
    · split
      · split
        · exact ht
        split
        · exact ht
        · rename_i q hq _
          refine ht.add (z := ⟨q.1, q.2, S.N.length⟩) (fun e he => ?_) (fun e he hd => ?_) (fun hd => ?_)
          · rcases List.mem_append.1 he with he | he
            · exact Or.inl he
            · exact Or.inr (List.mem_singleton.1 he)
          · simp only at hd
            rwa [isDir_old (h.ok.ent e he).2] at hd
          · simp only at hd
            rw [isDir_new] at hd
            cases hd
      · exact ht
  split
  · split
    · exact ht
    · unfold file
      split
      · exact ht
      split
      · exact ht
      split
      · split
        · exact ht
        split
        · exact ht
        split
        · exact ht
        · exact ht.sub (fun _ he => he) (isDir_set (nodeD_dir _ _))
      split
      · split
        · exact ht
        split
        · exact ht
        · exact ht.sub (fun _ he => he) (isDir_set (nodeD_dir _ _))
      · exact ht
  split
  · unfold mkdir
    split
    · exact ht
    split
    · exact ht
    · rename_i q hq
      refine ht.add (z := ⟨q.1, q.2, S.N.length⟩) (fun e he => ?_) (fun e he hd => ?_) (fun hd => ⟨?_, fun a ha hn => ?_⟩)
      · rcases List.mem_append.1 he with he | he
        · exact Or.inl he
        · exact Or.inr (List.mem_singleton.1 he)
      · simp only at hd
        rwa [isDir_old (h.ok.ent e he).2] at hd
      · have := h.ok.root
        simp only
        omega
      · rcases List.mem_append.1 ha with ha | ha
        · have := (h.ok.ent a ha).2
          simp only at hn
          omega
        · exact List.mem_singleton.1 ha
  split
  · unfold rmdirR
    split
    · exact ht
    split
    · exact ht
    split
    · split
      · exact ht
      split
      · exact ht
      · exact ht.sub take_sub fun _ => rfl
    · exact ht
  split
  · unfold link
    split
    · exact ht
    split
    · exact ht
    rename_i n hn
    split
    · exact ht
    rename_i hnd
    split
    · exact ht
    split
    · exact ht
    rename_i q hq
    split
    · exact ht
    split
    · exact ht
    · refine ht.add (z := ⟨q.1, q.2, n⟩) (fun e he => ?_) (fun e he hd => ?_) (fun hd => ?_)
      · rcases List.mem_append.1 he with he | he
        · exact Or.inl he
        · exact Or.inr (List.mem_singleton.1 he)
      · simp only at hd
        rwa [isDir_set (y := { nodeD S.N n with links := (nodeD S.N n).links + 1 }) (nodeD_dir _ _)] at hd
      · simp only at hd
        rw [isDir_set (y := { nodeD S.N n with links := (nodeD S.N n).links + 1 }) (nodeD_dir _ _)] at hd
        exact absurd hd hnd
  split
  · unfold unlink
    split
    · exact ht
    split
    · exact ht
    split
    · exact ht
    · exact ht.sub take_sub (isDir_set (nodeD_dir _ _))
  split
  · unfold rename
    split
    · exact ht
    rename_i hroots
    split
    · exact ht
    rename_i n hn
    split
    · exact ht
    split
    · exact ht
    rename_i q hq
    split
    · exact ht
    split
    · exact ht
    split
    · exact ht
    rename_i o ho
    have hp : p ≠ [47] := fun e => hroots (Or.inr (Or.inr (Or.inl e)))
    obtain ⟨dd, x, hpl, hlk, hdd⟩ := place_of_find hn hp
    rw [hpl] at ho
    cases ho
    have hent := look_entry hlk
    refine ht.add (z := ⟨q.1, q.2, n⟩) (fun e he => ?_) (fun e he hd => ?_) (fun hd => ⟨?_, fun a ha hna => ?_⟩)
    · rcases List.mem_append.1 he with he | he
      · exact Or.inl (over_sub _ (take_sub _ he))
      · exact Or.inr (List.mem_singleton.1 he)
    · simp only at hd
      rwa [over_dir] at hd
    · simp only at hd
      rw [over_dir] at hd
      exact (ht _ hent hd).1
    · simp only at hd hna
      rw [over_dir] at hd
      rcases List.mem_append.1 ha with ha | ha
      · have := (ht _ hent hd).2 a (over_sub _ (take_sub _ ha)) hna
        rw [this] at ha
        exact absurd ⟨rfl, rfl⟩ (take_not ha)
      · exact List.mem_singleton.1 ha
  split
  · exact ht
  · exact ht

theorem new_goodT : FewT newFS := ⟨new_good.2, fun e he => by cases he⟩
theorem do_goodT {K : Nat} {S : Fil} (h : Good K S) (hf : FewT S) (cl kind : Int) (p p2 : List UInt8) (flags fd off m : Int) (d : List UInt8) : Good (K + 3) (doA S cl kind p p2 flags fd off m d).1 ∧ FewT (doA S cl kind p p2 flags fd off m d).1 :=
  ⟨(do_good h hf.few _ _ _ _ _ _ _ _ _).1, (do_good h hf.few _ _ _ _ _ _ _ _ _).2, do_tree h hf.tree _ _ _ _ _ _ _ _ _⟩
end Pz
theorem ask_goodT {K : Nat} {S : Pz.Fil} (h : Pz.Good K S) (hf : Pz.FewT S) (a : Ask) : Pz.Good (K + 3) (askA S a) ∧ Pz.FewT (askA S a) := by
  unfold askA
  split
  · exact ⟨(Pz.drop_good h hf.few a.cl).1.mono (by omega), (Pz.drop_good h hf.few a.cl).2, hf.tree⟩
  · exact Pz.do_goodT h hf _ _ _ _ _ _ _ _ _
namespace Pz

/- descriptors -/
theorem ofd_other {O : List Op} {o : Op} {k fd : Int} (h : o.client ≠ k) : ofd (O ++ [o]) k fd = ofd O k fd := by
  induction O with
  | nil =>
    show (if _ then _ else _) = _
    rw [if_neg (fun hh => h hh.1)]
  | cons a r ih => rw [List.cons_append, ofd, ofd, ih]
theorem ofd_filter {O : List Op} {q : Op → Bool} {k fd : Int} (h : ∀ o : Op, o.client = k → q o = true) : ofd (O.filter q) k fd = ofd O k fd := by
  induction O with
  | nil => rfl
  | cons a r ih =>
    by_cases hq : q a = true
    · rw [List.filter_cons_of_pos hq, ofd, ofd, ih]
    · rw [List.filter_cons_of_neg hq, ofd, if_neg (fun hh => hq (h a hh.1)), ih]
theorem do_ofd {K : Nat} {S : Fil} (h : Good K S) {cl k : Int} (hk : k ≠ cl) (x : Int) (kind : Int) (p p2 : List UInt8) (flags fd off m : Int) (d : List UInt8) :
    ofd (doA S cl kind p p2 flags fd off m d).1.O k x = ofd S.O k x := by
  unfold doA
  split
  · rfl
  split
  · unfold opens
    split
    · rfl
    split
    · split
      · rfl
      split
      · rfl
      split
      · rfl
      · exact ofd_other (fun e => hk e.symm)
    · split
      · split
        · rfl
        split
        · rfl
        · exact ofd_other (fun e => hk e.symm)
      · rfl
  split
  · split
    · rfl
    · unfold file
      split
      · refine ofd_filter fun o ho => decide_eq_true fun hh => hk ?_
        rw [← ho, hh.1]
      split
      · rfl
      split
      · split
        · rfl
        split
        · rfl
        split <;> rfl
      split
      · split
        · rfl
        split <;> rfl
      · rfl
  split
  · rw [(mkdir_good h).2]
  split
  · rw [(rmdir_good h).2]
  split
  · rw [(link_good h).2]
  split
  · rw [(unlink_good h).2]
  split
  · rw [(rename_good h).2]
  split <;> rfl
theorem do_sync {S : Fil} {k : Int} (h1 : 1 ≤ k) (h8 : k ≤ 8) (p p2 : List UInt8) (flags fd off m : Int) (d : List UInt8) : doA S k 6 p p2 flags fd off m d = (S, if ofd S.O k fd < 0 then er 16 else er 0) := by
  unfold doA
  rw [if_neg (by omega), if_neg (by omega), if_pos (by omega)]
  split
  · rfl
  · unfold file
    rw [if_neg (by omega), if_neg (by omega), if_neg (by omega), if_neg (by omega)]

/- names -/
theorem namesOf_perm (E : List En) (i : Nat) : (namesOf E i).Perm ((E.filter fun e => e.dir == i).map (·.name)) := by
  have := (fold_ins ((E.filter fun e => e.dir == i).map (·.name)) [] List.Pairwise.nil).2
  rw [List.append_nil] at this
  exact this
theorem namesOf_count (E : List En) (i : Nat) : (namesOf E i).length = count E i := by
  rw [(namesOf_perm E i).length_eq, List.length_map]
  rfl
theorem namesOf_name {K : Nat} {S : Fil} (h : Good K S) (i : Nat) : ∀ x ∈ namesOf S.E i, Np.nameB x = true := by
  intro x hx
  rw [(namesOf_perm S.E i).mem_iff, List.mem_map] at hx
  obtain ⟨e, he, rfl⟩ := hx
  exact h.name e (List.mem_filter.1 he).1
theorem namesOf_rise {K : Nat} {S : Fil} (h : Good K S) (i : Nat) : (namesOf S.E i).Pairwise (fun a b => a < b) := by
  have h1 := (fold_ins ((S.E.filter fun e => e.dir == i).map (·.name)) [] List.Pairwise.nil).1
  have h2 : (namesOf S.E i).Nodup := (namesOf_perm S.E i).nodup_iff.2 (names_nodup h.once)
  have h3 : (namesOf S.E i).Pairwise (fun a b => leB a b = true) := h1
  refine List.Pairwise.imp₂ ?_ h3 h2
  intro a b hle hne
  rcases Decidable.em (a < b) with h | h
  · exact h
  · exact absurd (List.le_antisymm (of_decide_eq_true hle) (List.not_lt.1 h)) hne
theorem do_list {S : Fil} (p p2 : List UInt8) (flags fd off m : Int) (d : List UInt8) : doA S 1 12 p p2 flags fd off m d = tells S 12 p := by
  unfold doA
  rw [if_neg (by omega), if_neg (by omega), if_neg (by omega), if_neg (by omega), if_neg (by omega), if_neg (by omega), if_neg (by omega), if_neg (by omega), if_pos (by omega)]
theorem do_stat {S : Fil} (p p2 : List UInt8) (flags fd off m : Int) (d : List UInt8) : doA S 1 13 p p2 flags fd off m d = tells S 13 p := by
  unfold doA
  rw [if_neg (by omega), if_neg (by omega), if_neg (by omega), if_neg (by omega), if_neg (by omega), if_neg (by omega), if_neg (by omega), if_neg (by omega), if_pos (by omega)]
/-- what a list and a stat of one path tell -/
theorem tells_both {K : Nat} {S : Fil} (h : Good K S) (p : List UInt8) :
    ((tells S 12 p).2.errno ≠ 0 ∧ ((tells S 13 p).2.errno = (tells S 12 p).2.errno ∨ ((tells S 12 p).2.errno = 12 ∧ (tells S 13 p).2.kind = 1))) ∨
    ((tells S 12 p).2.errno = 0 ∧ (∀ x ∈ (tells S 12 p).2.names, Np.nameB x = true) ∧ (tells S 12 p).2.names.Pairwise (fun a b => a < b) ∧
      (tells S 13 p).2.errno = 0 ∧ (tells S 13 p).2.kind = 2 ∧ (tells S 13 p).2.links = 1 ∧ (tells S 13 p).2.size = (tells S 12 p).2.names.length) := by
  unfold tells
  simp only
  cases hf : find S p with
  | error e =>
    refine Or.inl ⟨?_, Or.inl rfl⟩
    show e ≠ 0
    rcases find_err hf with h | h | h <;> omega
  | ok n =>
    by_cases hd : isDir S.N n = true
    · refine Or.inr ?_
      simp only [hd, if_true, if_neg (show ¬ (12 : Int) = 13 by omega)]
      exact ⟨rfl, namesOf_name h n, namesOf_rise h n, rfl, rfl, rfl, by show (count S.E n : Int) = _; rw [← namesOf_count]; rfl⟩
    · refine Or.inl ?_
      simp only [if_neg hd, if_true, if_neg (show ¬ (12 : Int) = 13 by omega)]
      exact ⟨by decide, Or.inr ⟨rfl, rfl⟩⟩

end Pz
end Go.Proofs.YtbpejjmfdhkfhaaGreatDoor

/- Plain facts of the file system: renames and reads. -/
namespace Go.Proofs.YtbpejjmfdhkfhaaGreatDoor
namespace Pz

theorem snoc_cases {α : Type} (l : List α) : l = [] ∨ ∃ L b, l = L ++ [b] := by
  by_cases h : l = []
  · exact Or.inl h
  · exact Or.inr ⟨l.dropLast, l.getLast h, (List.dropLast_concat_getLast h).symm⟩
theorem walk_app {S : Fil} : ∀ {A B : List (List UInt8)} {i d : Nat}, walk S i A = .ok d → walk S i (A ++ B) = walk S d B
  | [], B, i, d, h => by
    rw [walk] at h
    cases h
    rfl
  | x :: r, B, i, d, h => by
    rw [walk] at h
    split at h
    · rename_i hd
      split at h
      · cases h
      · rename_i hl
        rw [List.cons_append, walk, if_pos hd, if_neg hl]
        exact walk_app h
    · cases h
theorem walk_one {S : Fil} {i m : Nat} {x : List UInt8} {r : List (List UInt8)} (h : walk S i (x :: r) = .ok m) : isDir S.N i = true ∧ 0 ≤ look S.E i x ∧ walk S (look S.E i x).toNat r = .ok m := by
  rw [walk] at h
  split at h
  · rename_i hd
    split at h
    · cases h
    · rename_i hl
      exact ⟨hd, by omega, h⟩
  · cases h
theorem walk_cons {S : Fil} {i : Nat} {x : List UInt8} {r : List (List UInt8)} (hd : isDir S.N i = true) (hl : 0 ≤ look S.E i x) : walk S i (x :: r) = walk S (look S.E i x).toNat r := by
  rw [walk, if_pos hd, if_neg (by omega)]
theorem walk_dir {S : Fil} {i m : Nat} {r : List (List UInt8)} (h : walk S i r = .ok m) (hm : isDir S.N m = true) : isDir S.N i = true := by
  cases r with
  | nil =>
    rw [walk] at h
    cases h
    exact hm
  | cons x r => exact (walk_one h).1
theorem walk_snocOk {S : Fil} {i d m : Nat} {A : List (List UInt8)} {x : List UInt8} (h : walk S i A = .ok d) (hd : isDir S.N d = true) (hl : look S.E d x = m) : walk S i (A ++ [x]) = .ok m := by
  rw [walk_app h, walk_cons hd (by omega), walk, hl]
  rfl
/-- where a directory lies, only one path leads -/
theorem tree_one {S : Fil} (ht : Tree S) : ∀ (k : Nat) {A B : List (List UInt8)} {d : Nat}, A.length = k → walk S 0 A = .ok d → walk S 0 B = .ok d → isDir S.N d = true → A = B := by
  have hz : ∀ {C : List (List UInt8)} {z : List UInt8}, isDir S.N 0 = true → walk S 0 (C ++ [z]) = .ok 0 → False := by
    intro C z hd h
    obtain ⟨d, _, _, hl⟩ := look_place h
    exact (ht _ (look_entry hl) hd).1 rfl
  intro k
  induction k with
  | zero =>
    intro A B d hk hA hB hd
    obtain rfl := List.eq_nil_of_length_eq_zero hk
    rw [walk] at hA
    cases hA
    rcases snoc_cases B with rfl | ⟨C, z, rfl⟩
    · rfl
    · exact (hz hd hB).elim
  | succ k ih =>
    intro A B d hk hA hB hd
    rcases snoc_cases A with rfl | ⟨C, z, rfl⟩
    · simp at hk
    · rcases snoc_cases B with rfl | ⟨C2, z2, rfl⟩
      · rw [walk] at hB
        cases hB
        exact (hz hd hA).elim
      · obtain ⟨d1, h1, hd1, hl1⟩ := look_place hA
        obtain ⟨d2, h2, hd2, hl2⟩ := look_place hB
        have e := (ht _ (look_entry hl1) hd).2 _ (look_entry hl2) rfl
        cases e
        rw [ih (by simpa using hk) h1 h2 hd1]
theorem walk_fwd {S T : Fil} {bad : Nat → List UInt8 → Prop} (hN : ∀ k, isDir T.N k = isDir S.N k) (hl : ∀ d z, ¬ bad d z → look T.E d z = look S.E d z) :
    ∀ (B : List (List UInt8)) (i m : Nat), walk S i B = .ok m → walk T i B = .ok m ∨ ∃ B1 z B2 d, B = B1 ++ z :: B2 ∧ walk S i B1 = .ok d ∧ walk T i B1 = .ok d ∧ bad d z
  | [], i, m, h => Or.inl h
  | x :: r, i, m, h => by
    obtain ⟨h1, h2, h3⟩ := walk_one h
    by_cases hb : bad i x
    · exact Or.inr ⟨[], x, r, i, rfl, rfl, rfl, hb⟩
    · have e : ∀ R, walk T i (x :: R) = walk T (look S.E i x).toNat R := fun R => by
        rw [walk_cons (by rw [hN]; exact h1) (by rw [hl i x hb]; exact h2), hl i x hb]
      rcases walk_fwd hN hl r _ m h3 with h | ⟨B1, z, B2, d, rfl, h4, h5, h6⟩
      · exact Or.inl ((e r).trans h)
      · exact Or.inr ⟨x :: B1, z, B2, d, rfl, (walk_cons h1 h2).trans h4, (e B1).trans h5, h6⟩
theorem place_some {S : Fil} {p : List UInt8} {q : Nat × List UInt8} (h : place S p = .ok q) : ∃ B, Np.pathL p = some (B ++ [q.2]) ∧ walk S 0 B = .ok q.1 ∧ isDir S.N q.1 = true := by
  unfold place at h
  split at h
  · cases h
  · rename_i L hL
    split at h
    · cases h
    · rename_i y hy
      cases hw : walk S 0 L.dropLast with
      | error e => rw [hw] at h; cases h
      | ok n =>
        rw [hw] at h
        unfold placeOn at h
        simp only at h
        split at h
        · rename_i hd
          cases h
          refine ⟨L.dropLast, ?_, hw, hd⟩
          rw [hL]
          simp only
          have hne : L ≠ [] := fun e => by rw [e] at hy; cases hy
          rw [List.getLast?_eq_some_getLast hne] at hy
          cases hy
          rw [List.dropLast_concat_getLast hne]
        · cases h
theorem nodeD_set_ne {N : List Nd} {k n : Nat} {y : Nd} (h : n ≠ k) : nodeD (N.set k y) n = nodeD N n := by
  unfold nodeD
  rw [List.getElem?_set_ne (fun e => h e.symm)]
theorem nodeD_set_eq {N : List Nd} {n : Nat} {y : Nd} (h : n < N.length) : nodeD (N.set n y) n = y := by
  unfold nodeD
  rw [List.getElem?_set_self h]

theorem rename_found {K : Nat} {S T : Fil} (h : Good K S) (ht : Tree S) {p p2 : List UInt8} {n : Nat} {q o : Nat × List UInt8} (hf : find S p = .ok n) (hq : place S p2 = .ok q)
    (hin : ¬ (isDir S.N n = true ∧ p ≠ p2 ∧ insideB (Np.pathL p2) (Np.pathL p) = true)) (hne : look S.E q.1 q.2 ≠ n) (hov : overErr S n (look S.E q.1 q.2) = 0) (ho : place S p = .ok o)
    (hT : T = { over S (look S.E q.1 q.2) q with E := take (over S (look S.E q.1 q.2) q).E o.1 o.2 ++ [⟨q.1, q.2, n⟩] }) :
    find T p2 = .ok n ∧ (∀ k, isDir T.N k = isDir S.N k) ∧ (isDir S.N n = true → count T.E n = count S.E n) ∧ (nodeD T.N n).data = (nodeD S.N n).data ∧ ∀ m, find T p ≠ .ok m := by
  obtain ⟨A, hA, hwA, hdA⟩ := place_some ho
  obtain ⟨B, hB, hwB, hdB⟩ := place_some hq
  have hwn : walk S 0 (A ++ [o.2]) = .ok n := by
    unfold find at hf
    rw [hA] at hf
    exact hf
  have hlo : look S.E o.1 o.2 = n := by
    obtain ⟨d, h1, h2, h3⟩ := look_place hwn
    rw [hwA] at h1
    cases h1
    exact h3
  have hoq : ¬ (q.1 = o.1 ∧ q.2 = o.2) := fun e => hne (by rw [e.1, e.2, hlo])
  have hN : ∀ k, isDir T.N k = isDir S.N k := fun k => by rw [hT]; exact over_dir _ _ _
  have hov1 : look (over S (look S.E q.1 q.2) q).E q.1 q.2 = -1 := by
    unfold over
    split
    · exact look_take_same
    · have := look_ge (E := S.E) (i := q.1) (x := q.2)
      omega
  have hov2 : ∀ d z, ¬ (d = q.1 ∧ z = q.2) → look (over S (look S.E q.1 q.2) q).E d z = look S.E d z := fun d z hdz => by
    unfold over
    split
    · exact look_take_other hdz
    · rfl
  have hlq : look T.E q.1 q.2 = n := by
    rw [hT]
    simp only
    rw [look_app, look_take_other hoq, hov1, if_neg (by omega), look_one, if_pos ⟨rfl, rfl⟩]
  have hlo' : look T.E o.1 o.2 = -1 := by
    rw [hT]
    simp only
    rw [look_app, look_take_same, if_neg (by omega), look_one, if_neg hoq]
  have hlr : ∀ d z, ¬ ((d = o.1 ∧ z = o.2) ∨ (d = q.1 ∧ z = q.2)) → look T.E d z = look S.E d z := fun d z hb => by
    rw [hT]
    simp only
    rw [look_app, look_take_other (fun e => hb (Or.inl e)), hov2 d z (fun e => hb (Or.inr e)), look_one]
    split
    · rfl
    · rw [if_neg (fun e => hb (Or.inr ⟨e.1.symm, e.2.symm⟩))]
      have := look_ge (E := S.E) (i := d) (x := z)
      omega
  have hnot : isDir S.N n = true → ∀ B2, B ≠ A ++ o.2 :: B2 := fun hd B2 e => by
    refine hin ⟨hd, fun ep => ?_, ?_⟩
    · rw [ep] at hA
      rw [hA] at hB
      have := congrArg List.length (Option.some.inj hB)
      rw [e] at this
      simp at this
    · rw [hA, hB, e]
      unfold insideB
      simp
      rw [show A ++ o.2 :: (B2 ++ [q.2]) = (A ++ [o.2]) ++ (B2 ++ [q.2]) by simp]
      exact List.take_left' (by simp)
  refine ⟨?_, hN, fun hd => ?_, ?_, fun m hm => ?_⟩
  · have hwB' : walk T 0 B = .ok q.1 := by
      rcases walk_fwd hN hlr B 0 q.1 hwB with e | ⟨B1, z, B2, d, hBe, h1, _, hb⟩
      · exact e
      · rcases hb with ⟨rfl, rfl⟩ | ⟨rfl, rfl⟩
        · have := tree_one ht _ rfl h1 hwA hdA
          subst this
          have h2 : walk S n B2 = .ok q.1 := by
            rw [hBe, walk_app h1] at hwB
            have := (walk_one hwB).2.2
            rw [hlo] at this
            exact this
          exact absurd hBe (hnot (walk_dir h2 hdB) B2)
        · have := congrArg List.length (tree_one ht _ rfl h1 hwB hdB)
          rw [hBe] at this
          simp at this
    unfold find
    rw [hB]
    exact walk_snocOk hwB' (by rw [hN]; exact hdB) hlq
  · have ho1 : n ≠ o.1 := fun e => by
      have := congrArg List.length (tree_one ht _ rfl hwA (by rw [← e]; exact hwn) hdA)
      simp at this
    have hq1 : n ≠ q.1 := fun e => by
      have := tree_one ht _ rfl hwB (by rw [← e]; exact hwn) hdB
      exact hnot hd [] this
    rw [hT]
    simp only
    rw [count_app, count_take_other ho1, if_neg (fun e => hq1 e.symm)]
    unfold over
    split
    · simp only
      rw [count_take_other hq1]
      rfl
    · rfl
  · rw [hT]
    simp only
    unfold over
    split
    · simp only
      split
      · rfl
      · rw [nodeD_set_ne (fun e => hne (by omega))]
    · rfl
  · unfold find at hm
    rw [hA] at hm
    obtain ⟨d, hwd, hdd, hld⟩ := look_place hm
    rcases walk_fwd (S := T) (T := S) (fun k => (hN k).symm) (fun d z hb => (hlr d z hb).symm) A 0 d hwd with e | ⟨A1, z, A2, d1, hAe, _, h1, hb⟩
    · rw [hwA] at e
      cases e
      rw [hlo'] at hld
      omega
    · rcases hb with ⟨rfl, rfl⟩ | ⟨rfl, rfl⟩
      · have := congrArg List.length (tree_one ht _ rfl h1 hwA hdA)
        rw [hAe] at this
        simp at this
      · rw [hAe, List.append_assoc, walk_app h1] at hwn
        obtain ⟨_, hw0, hw1⟩ := walk_one hwn
        have hdw : isDir S.N (look S.E q.1 q.2).toNat = true ∧ 0 < count S.E (look S.E q.1 q.2).toNat := by
          cases A2 with
          | nil => exact ⟨(walk_one hw1).1, count_of_look (walk_one hw1).2.1⟩
          | cons a r => exact ⟨(walk_one hw1).1, count_of_look (walk_one hw1).2.1⟩
        unfold overErr at hov
        rw [if_pos hw0] at hov
        split at hov
        · rw [if_pos hdw.1, if_pos hdw.2] at hov
          omega
        · rw [if_pos hdw.1] at hov
          omega

theorem rename_cases {K : Nat} {S : Fil} {p p2 : List UInt8} (he : (rename S p p2).2.errno = 0) :
    ∃ n q, find S p = .ok n ∧ place S p2 = .ok q ∧ p ≠ [47] ∧ p2 ≠ [47] ∧ ¬ (isDir S.N n = true ∧ p ≠ p2 ∧ insideB (Np.pathL p2) (Np.pathL p) = true) ∧
      ((look S.E q.1 q.2 = n ∧ (rename S p p2).1 = S) ∨ (look S.E q.1 q.2 ≠ n ∧ overErr S n (look S.E q.1 q.2) = 0 ∧ ∃ o, place S p = .ok o ∧
        (rename S p p2).1 = { over S (look S.E q.1 q.2) q with E := take (over S (look S.E q.1 q.2) q).E o.1 o.2 ++ [⟨q.1, q.2, n⟩] })) := by
  obtain ⟨R, hR⟩ : ∃ R, rename S p p2 = R := ⟨_, rfl⟩
  rw [hR] at he ⊢
  unfold rename at hR
  split at hR
  · subst hR
    exact absurd he (by show (15 : Int) ≠ 0; omega)
  rename_i hroots
  cases hf : find S p with
  | error e =>
    rw [hf] at hR
    subst hR
    have : e = 0 := he
    rcases find_err hf with h | h | h <;> omega
  | ok n =>
    rw [hf] at hR
    simp only at hR
    split at hR
    · subst hR
      exact absurd he (by show (15 : Int) ≠ 0; omega)
    rename_i hin
    cases hq : place S p2 with
    | error e =>
      rw [hq] at hR
      subst hR
      have : e = 0 := he
      rcases place_err hq with h | h | h <;> omega
    | ok q =>
      rw [hq] at hR
      simp only at hR
      refine ⟨n, q, rfl, rfl, fun e => hroots (Or.inr (Or.inr (Or.inl e))), fun e => hroots (Or.inr (Or.inr (Or.inr e))), hin, ?_⟩
      split at hR
      · rename_i hl
        subst hR
        exact Or.inl ⟨hl, rfl⟩
      rename_i hl
      split at hR
      · rename_i hov
        subst hR
        exact absurd he hov
      rename_i hov
      obtain ⟨d, x, hpl, _, _⟩ := place_of_find hf (fun e => hroots (Or.inr (Or.inr (Or.inl e))))
      rw [hpl] at hR
      simp only at hR
      subst hR
      exact Or.inr ⟨hl, by omega, (d, x), hpl, rfl⟩

/-- what is told of a node -/
def infoN (S : Fil) (n : Nat) : Rep := if isDir S.N n then infoR 2 1 (count S.E n) else infoR 1 (nodeD S.N n).links (nodeD S.N n).data.length
theorem tells_ok {S : Fil} {p : List UInt8} {n : Nat} (h : find S p = .ok n) : (tells S 13 p).2 = infoN S n := by
  unfold tells
  simp only [h, if_true]
  rfl
theorem infoN_errno (S : Fil) (n : Nat) : (infoN S n).errno = 0 := by
  unfold infoN
  split <;> rfl
/-- what was renamed is found under its new name, and not under its old one -/
theorem rename_facts {K : Nat} {S : Fil} (h : Good K S) (ht : Tree S) {p p2 : List UInt8} (he : (rename S p p2).2.errno = 0) :
    (tells S 13 p).2.errno = 0 ∧ (tells (rename S p p2).1 13 p2).2.errno = 0 ∧ (tells (rename S p p2).1 13 p2).2.kind = (tells S 13 p).2.kind ∧ (tells (rename S p p2).1 13 p2).2.size = (tells S 13 p).2.size ∧
    (p = p2 → (tells (rename S p p2).1 13 p).2.errno = 0) ∧
    (p ≠ p2 → (tells (rename S p p2).1 13 p).2.errno = 10 ∨ (tells (rename S p p2).1 13 p).2.errno = 12 ∨
      ((tells S 13 p2).2.errno = 0 ∧ (tells S 13 p2).2.kind = (tells S 13 p).2.kind ∧ (tells S 13 p2).2.links = (tells S 13 p).2.links ∧ (tells S 13 p2).2.size = (tells S 13 p).2.size)) := by
  obtain ⟨n, q, hf, hq, hp, hp2, hin, hc⟩ := rename_cases (K := K) he
  rw [tells_ok hf]
  rcases hc with ⟨hl, hT⟩ | ⟨hl, hov, o, ho, hT⟩
  · have hf2 : find S p2 = .ok n := by
      obtain ⟨B, hB, hwB, hdB⟩ := place_some hq
      unfold find
      rw [hB]
      exact walk_snocOk hwB hdB hl
    rw [hT, tells_ok hf2, tells_ok hf]
    exact ⟨infoN_errno _ _, infoN_errno _ _, rfl, rfl, fun _ => infoN_errno _ _, fun _ => Or.inr (Or.inr ⟨infoN_errno _ _, rfl, rfl, rfl⟩)⟩
  · obtain ⟨h1, h2, h3, h4, h5⟩ := rename_found h ht hf hq hin hl hov ho hT
    obtain ⟨T, hTT⟩ : ∃ T, (rename S p p2).1 = T := ⟨_, rfl⟩
    rw [hTT] at h1 h2 h3 h4 h5 ⊢
    rw [tells_ok h1]
    refine ⟨infoN_errno _ _, infoN_errno _ _, ?_, ?_, fun e => ?_, fun _ => ?_⟩
    · unfold infoN
      rw [h2]
      split <;> rfl
    · unfold infoN
      rw [h2]
      split
      · rename_i hd
        show (count T.E n : Int) = count S.E n
        rw [h3 hd]
      · show ((nodeD T.N n).data.length : Int) = (nodeD S.N n).data.length
        rw [h4]
    · rw [← e] at h1
      exact absurd h1 (h5 n)
    · unfold tells
      simp only
      cases hg : find T p with
      | ok m => exact absurd hg (h5 m)
      | error e =>
        show e = 10 ∨ e = 12 ∨ _
        rcases find_err hg with h | h | h
        · exact Or.inl h
        · exact Or.inr (Or.inl h)
        · exfalso
          unfold find at hg hf
          cases hpl : Np.pathL p with
          | none => rw [hpl] at hf; cases hf
          | some L =>
            rw [hpl] at hg
            rcases walk_err hg with h | h <;> omega

/- reads -/
/-- client 1's descriptor 0 is a file's, with these bytes -/
structure At1 (S : Fil) (n : Nat) (X : List UInt8) : Prop where
  fd : ofd S.O 1 0 = n
  lt : n < S.N.length
  data : (nodeD S.N n).data = X
theorem ofd_none {O : List Op} {k fd : Int} (h : ∀ o ∈ O, o.client ≠ k) : ofd O k fd = -1 := by
  induction O with
  | nil => rfl
  | cons a r ih =>
    rw [ofd, if_neg (fun e => h a (List.mem_cons_self ..) e.1)]
    exact ih fun o ho => h o (List.mem_cons_of_mem _ ho)
def zz : List UInt8 := [47, 122, 122]
theorem open_zz {K : Nat} {S : Fil} (h : Good K S) (hO : ∀ o ∈ S.O, o.client ≠ 1) (p2 : List UInt8) (fd off m : Int) (d : List UInt8) :
    (doA S 1 1 zz p2 3 fd off m d).2.errno = 11 ∨ ((doA S 1 1 zz p2 3 fd off m d).2.errno = 0 ∧ At1 (doA S 1 1 zz p2 3 fd off m d).1 S.N.length []) := by
  have hL : Np.pathL zz = some [[122, 122]] := by decide
  have hpl : place S zz = .ok (0, [122, 122]) := by
    unfold place
    rw [hL]
    show placeOn S [122, 122] (walk S 0 []) = _
    rw [walk]
    unfold placeOn
    simp only
    rw [if_pos h.root]
  have hfr : free S.O 1 = 0 := by
    unfold free
    rw [freeN, if_neg (by rw [ofd_none hO]; omega)]
  unfold doA
  rw [if_neg (by omega), if_pos rfl]
  unfold opens
  rw [if_neg (by omega)]
  cases hf : find S zz with
  | ok n => exact Or.inl rfl
  | error e =>
    have he : e = 10 := by
      unfold find at hf
      rw [hL] at hf
      simp only at hf
      rw [walk, if_pos h.root] at hf
      split at hf
      · cases hf
        rfl
      · rw [walk] at hf
        cases hf
    refine Or.inr ?_
    simp only [he, hpl, hfr]
    refine ⟨rfl, ?_, ?_, ?_⟩
    · show ofd (S.O ++ _) 1 0 = _
      clear hf hpl hfr
      obtain ⟨N, hN⟩ : ∃ N, N = S.N.length := ⟨_, rfl⟩
      rw [← hN]
      have hO' := hO
      generalize S.O = O at hO' ⊢
      clear hO
      induction O with
      | nil => rfl
      | cons a r ih =>
        rw [List.cons_append, ofd, if_neg (fun e => hO' a (List.mem_cons_self ..) e.1)]
        exact ih fun o ho => hO' o (List.mem_cons_of_mem _ ho)
    · show S.N.length < (S.N ++ _).length
      simp
    · show (nodeD (S.N ++ [_]) S.N.length).data = []
      unfold nodeD
      rw [List.getElem?_append_right (Nat.le_refl _)]
      simp
theorem do_fd {S : Fil} {n : Nat} {X : List UInt8} (h : At1 S n X) {kind : Int} (hk : 2 ≤ kind ∧ kind ≤ 6) (p p2 : List UInt8) (flags off m : Int) (d : List UInt8) : doA S 1 kind p p2 flags 0 off m d = file S 1 n kind 0 off m d := by
  unfold doA
  rw [if_neg (by omega), if_neg (by omega), if_pos hk, h.fd, if_neg (by omega)]
  rfl
/-- a write: what is there behind it -/
theorem do_write {S : Fil} {n : Nat} {X : List UInt8} (h : At1 S n X) (p p2 : List UInt8) (flags off m : Int) (d : List UInt8) :
    ((doA S 1 4 p p2 flags 0 off m d).2.errno = 0 ∧ d ≠ [] ∧ 0 ≤ off ∧ off ≤ 256 ∧ off + d.length ≤ 256 ∧ At1 (doA S 1 4 p p2 flags 0 off m d).1 n (laid X off.toNat d)) ∨
    (((doA S 1 4 p p2 flags 0 off m d).2.errno ≠ 0 ∨ d = []) ∧ At1 (doA S 1 4 p p2 flags 0 off m d).1 n X) := by
  rw [do_fd h ⟨by omega, by omega⟩]
  unfold file
  rw [if_neg (by omega), if_neg (by omega), if_pos rfl]
  split
  · exact Or.inr ⟨Or.inl (by show (15 : Int) ≠ 0; omega), h⟩
  split
  · rename_i hd
    exact Or.inr ⟨Or.inr (List.eq_nil_of_length_eq_zero hd), h⟩
  split
  · exact Or.inr ⟨Or.inl (by show (19 : Int) ≠ 0; omega), h⟩
  · rename_i h1 h2 h3
    refine Or.inl ⟨rfl, fun e => h2 (by rw [e]; rfl), by omega, by omega, by omega, h.fd, ?_, ?_⟩
    · show n < (S.N.set _ _).length
      rw [List.length_set]
      exact h.lt
    · show (nodeD (S.N.set n _) n).data = _
      rw [nodeD_set_eq h.lt, h.data]
theorem do_read {S : Fil} {n : Nat} {X : List UInt8} (h : At1 S n X) (p p2 : List UInt8) (flags off m : Int) (d : List UInt8) :
    if off < 0 ∨ m < 0 ∨ 64 < m then (doA S 1 3 p p2 flags 0 off m d).2.errno = 15 else (doA S 1 3 p p2 flags 0 off m d).2.errno = 0 ∧ (doA S 1 3 p p2 flags 0 off m d).2.data = (X.drop off.toNat).take m.toNat := by
  rw [do_fd h ⟨by omega, by omega⟩, file_3, h.data]
  simp only
  by_cases h1 : off < 0 ∨ m < 0 ∨ 64 < m
  · rw [if_pos h1, if_pos h1]
    rfl
  · rw [if_neg h1, if_neg h1]
    by_cases h2 : (X.length : Int) ≤ off
    · rw [if_pos h2, List.drop_of_length_le (by omega)]
      exact ⟨rfl, by simp [er]⟩
    · rw [if_neg h2]
      exact ⟨rfl, rfl⟩

end Pz
end Go.Proofs.YtbpejjmfdhkfhaaGreatDoor
