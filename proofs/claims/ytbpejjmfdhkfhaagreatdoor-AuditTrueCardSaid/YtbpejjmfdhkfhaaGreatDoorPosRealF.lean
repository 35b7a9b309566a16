/- The program's file system in memory, changed: a name, a descriptor, a node. -/
import Derived.Test.YtbpejjmfdhkfhaaGreatDoorPosRealA
set_option linter.unusedVariables false
set_option linter.unusedSimpArgs false
namespace Go.Proofs.YtbpejjmfdhkfhaaGreatDoor
open Go.RowKit

namespace Pz
theorem count_take_other {E : List En} {d i : Nat} {x : List UInt8} (h : i ≠ d) : count (take E d x) i = count E i := by
  unfold count take
  rw [List.filter_filter]
  congr 1
  refine List.filter_congr fun e _ => ?_
  by_cases h1 : e.dir = i
  · have : ¬ (e.dir = d ∧ e.name = x) := fun h2 => h (h1.symm.trans h2.1)
    simp only [h1, beq_self_eq_true, Bool.true_and, decide_eq_true_eq]
    rw [h1] at this
    exact this
  · simp [h1]
theorem count_app {E : List En} {e : En} {i : Nat} : count (E ++ [e]) i = count E i + if e.dir = i then 1 else 0 := by
  unfold count
  rw [List.filter_append, List.length_append]
  by_cases h : e.dir = i
  · simp [h]
  · simp [h]
theorem look_one {e : En} {i : Nat} {x : List UInt8} : look [e] i x = if e.dir = i ∧ e.name = x then (e.node : Int) else -1 := by rw [look, look]
/-- how many a directory has, less a name that goes -/
theorem count_take {E : List En} {d : Nat} {x : List UInt8} (h : E.Pairwise fun a b => ¬ (a.dir = b.dir ∧ a.name = b.name)) : count (take E d x) d + (if 0 ≤ look E d x then 1 else 0) = count E d := by
  induction E with
  | nil => rfl
  | cons e r ih =>
    obtain ⟨h1, h2⟩ := List.pairwise_cons.1 h
    have ih := ih h2
    unfold count take at ih ⊢
    rw [look]
    by_cases he : e.dir = d ∧ e.name = x
    · rw [if_pos he, if_pos (by omega), List.filter_cons, if_neg (by simp [he]), List.filter_cons, if_pos (by simp [he.1])]
      have hno : ∀ a ∈ r, ¬ (a.dir = d ∧ a.name = x) := fun a ha hc => h1 a ha ⟨he.1.trans hc.1.symm, he.2.trans hc.2.symm⟩
      have : r.filter (fun e => decide (¬ (e.dir = d ∧ e.name = x))) = r := List.filter_eq_self.2 fun a ha => decide_eq_true (hno a ha)
      rw [this]; rfl
    · rw [if_neg he, List.filter_cons, if_pos (decide_eq_true he), List.filter_cons]
      by_cases hd : e.dir = d
      · have hb : (e.dir == d) = true := by simp [hd]
        rw [if_pos hb, List.filter_cons, if_pos hb, List.length_cons, List.length_cons]
        omega
      · have hb : ¬ (e.dir == d) = true := by simp [hd]
        rw [if_neg hb, List.filter_cons, if_neg hb]
        exact ih
theorem take_absent {E : List En} {d : Nat} {x : List UInt8} (h : look E d x < 0) : take E d x = E := by
  refine List.filter_eq_self.2 fun a ha => decide_eq_true ?_
  intro hc
  induction E with
  | nil => cases ha
  | cons e r ih =>
    rw [look] at h
    split at h
    · omega
    · rename_i hne
      rcases List.mem_cons.1 ha with rfl | ha
      · exact hne hc
      · exact ih h ha
theorem take_comm (E : List En) (d o : Nat) (x y : List UInt8) : take (take E d x) o y = take (take E o y) d x := by
  unfold take
  rw [List.filter_filter, List.filter_filter]
  exact List.filter_congr fun e _ => Bool.and_comm _ _
end Pz

theorem own_tight {P : Program} {k : TypeId} {R : Value → Option (DataW Unit × List MemPlace)} {w : World} {b n c : Nat} {D : DataW Unit} (h : w.ownsMap P k R b n D) (hs : Maps.size D = c) : w.ownsMap P k R b c D := by
  obtain ⟨es, clock, h1, h2, _, h4⟩ := h
  refine ⟨es, clock, h1, h2, ?_, h4⟩
  rw [← hs, h4]
  simp [Maps.size, length_sorted]

theorem MapE.over {D : DataW Unit} {β : Nat → Nat} {E : List Pz.En} {d m : Nat} {x : List UInt8} (h : MapE D β E d) (hT : Maps.Tidy D) (ho : E.Pairwise fun a b => ¬ (a.dir = b.dir ∧ a.name = b.name)) :
    MapE (D.put (.string x) (.lit (.int .i64 (β m)))) β (Pz.take E d x ++ [⟨d, x, m⟩]) d := by
  have hc := Pz.count_take (d := d) (x := x) ho
  refine ⟨fun y zd => ?_, ?_⟩
  · by_cases hy : y = x
    · subst hy
      have e : Pz.look (Pz.take E d y ++ [⟨d, y, m⟩]) d y = (m : Int) := by
        rw [Pz.look_app, Pz.look_take_same, if_neg (show ¬ (0 : Int) ≤ -1 by omega), Pz.look_one, if_pos (And.intro rfl rfl)]
      rw [Maps.atKey_put_same (k := .string y) hT.isMap trivial, e, if_neg (show ¬ (m : Int) < 0 by omega), Int.toNat_natCast]
    · have e : Pz.look (Pz.take E d x ++ [⟨d, x, m⟩]) d y = Pz.look E d y := by
        rw [Pz.look_app, Pz.look_take_other (fun e => hy e.2), Pz.look_one, if_neg (show ¬ (d = d ∧ x = y) from fun e => hy e.2.symm)]
        have := Pz.look_ge (E := E) (i := d) (x := y)
        by_cases hl : 0 ≤ Pz.look E d y
        · rw [if_pos hl]
        · rw [if_neg hl]; omega
      rw [Maps.atKey_put_other (fun e => hy (by cases e; rfl)), h.1, e]
  · rw [Maps.size_put hT, Pz.count_app, if_pos rfl, h.2]
    by_cases hl : 0 ≤ Pz.look E d x
    · have hh : Maps.has D (.string x) = true := Maps.has_true_of_atKey (y := .lit (.int .i64 (β (Pz.look E d x).toNat))) fun z => by rw [h.1, if_neg (by omega)]
      rw [if_pos hh]
      rw [if_pos hl] at hc
      omega
    · have hh : Maps.has D (.string x) = false := Maps.has_false_of_atKey fun z => by rw [h.1, if_pos (by omega)]
      rw [if_neg (by rw [hh]; decide)]
      rw [if_neg hl] at hc
      omega
theorem MapE.del {D : DataW Unit} {β : Nat → Nat} {E : List Pz.En} {d : Nat} {x : List UInt8} (h : MapE D β E d) (hT : Maps.Tidy D) (ho : E.Pairwise fun a b => ¬ (a.dir = b.dir ∧ a.name = b.name)) :
    MapE (D.del (.string x)) β (Pz.take E d x) d := by
  have hc := Pz.count_take (d := d) (x := x) ho
  have hs := Maps.size_del (k := .string x) hT
  refine ⟨fun y zd => ?_, ?_⟩
  · by_cases hy : y = x
    · subst hy
      rw [Maps.atKey_del_same, Pz.look_take_same, if_pos (by omega)]
    · rw [Maps.atKey_del_other (fun e => hy (by cases e; rfl)), h.1, Pz.look_take_other (fun e => hy e.2)]
  · by_cases hl : 0 ≤ Pz.look E d x
    · have hh : Maps.has D (.string x) = true := Maps.has_true_of_atKey (y := .lit (.int .i64 (β (Pz.look E d x).toNat))) fun z => by rw [h.1, if_neg (by omega)]
      rw [if_pos hh, h.2] at hs
      rw [if_pos hl] at hc
      omega
    · have hh : Maps.has D (.string x) = false := Maps.has_false_of_atKey fun z => by rw [h.1, if_pos (by omega)]
      rw [if_neg (by rw [hh]; decide), h.2] at hs
      rw [if_neg hl] at hc
      omega

/-- one directory's map is another, all else is as it was -/
theorem RealAt.setDir [Inhabited XBox] {w w' : World} {F : Nat → Prop} {r bo d n : Nat} {β μ : Nat → Nat} {S : Pz.Fil} {E' : List Pz.En} {D' : DataW Unit} (h : RealAt w F r bo β μ S) (hd : Pz.isDir S.N d = true) (hg : w.grownBy w' (some (μ d)))
    (hown : w'.ownsMap Tryz.prog 9 ptrE (μ d) n D') (hme : MapE D' β E' d) (hoth : ∀ i, i ≠ d → (∀ x, Pz.look E' i x = Pz.look S.E i x) ∧ Pz.count E' i = Pz.count S.E i) :
    RealAt w' F r bo β μ { S with E := E' } ∧ Only F w w' := by
  obtain ⟨D, hD, _⟩ := h.dirs d hd
  obtain ⟨es, ck, hmap, _⟩ := hD
  have ne : ∀ {k : Nat} {c : Array Value} {t : TypeId} {z : Nat × Nat}, w.heap[k]? = some (.cells c t z) → some k ≠ some (μ d) := by
    intro k c t z hk e
    cases e
    rw [hmap] at hk
    cases hk
  refine ⟨{ h with
    root := (hg.block r (lt_of_get h.root) (ne h.root)).trans h.root
    node := fun n hn => (hg.block _ (lt_of_get (h.node n hn)) (ne (h.node n hn))).trans (h.node n hn)
    dirs := fun i hi => ?_
    opn := ?_
    mx := ?_ }, grown_only hg fun k hk => by cases hk; exact h.fm d hd⟩
  · by_cases hid : i = d
    · subst hid
      exact ⟨D', own_tight hown hme.2, hme⟩
    · obtain ⟨Di, h1, h2⟩ := h.dirs i hi
      obtain ⟨o1, o2⟩ := hoth i hid
      refine ⟨Di, ?_, fun x zd => ?_, ?_⟩
      · rw [o2]
        exact map_keep h1 (hg.block _ h1.lt fun e => hid (h.mInj i d hi hd (Option.some.inj e)))
      · rw [h2.1 x zd, o1 x]
      · rw [h2.2, o2]
  · obtain ⟨DO, h1, h2⟩ := h.opn
    exact ⟨DO, map_keep h1 (hg.block _ h1.lt fun e => h.mo d hd (Option.some.inj e).symm), h2⟩
  · obtain ⟨⟨m, hm⟩, hmx⟩ := h.mx
    have hne : some maxB ≠ some (μ d) := by
      intro e
      have e2 : maxB = μ d := Option.some.inj e
      have hm' : w.cell? ⟨maxB, 0, none⟩ = some (.int .i64 m) := hm
      rw [e2, World.cell?, show w.heap[(⟨μ d, 0, none⟩ : Addr).block]? = some (.map es ck) from hmap] at hm'
      simp at hm'
    exact mx_keep ⟨⟨m, hm⟩, hmx⟩ (hg.block maxB (mx_lt ⟨m, hm⟩) hne)

/-- the descriptors' map is another -/
theorem RealAt.setOpen [Inhabited XBox] {w w' : World} {F : Nat → Prop} {r bo n : Nat} {β μ : Nat → Nat} {S : Pz.Fil} {O' : List Pz.Op} {D' : DataW Unit} (h : RealAt w F r bo β μ S) (hg : w.grownBy w' (some bo))
    (hown : w'.ownsMap Tryz.prog 67 ptrE bo n D') (hmo : MapO D' β O') :
    RealAt w' F r bo β μ { S with O := O' } ∧ Only F w w' := by
  obtain ⟨D, hD, _⟩ := h.opn
  obtain ⟨es, ck, hmap, _⟩ := hD
  have ne : ∀ {k : Nat} {c : Array Value} {t : TypeId} {z : Nat × Nat}, w.heap[k]? = some (.cells c t z) → some k ≠ some bo := by
    intro k c t z hk e
    cases e
    rw [hmap] at hk
    cases hk
  refine ⟨{ h with
    root := (hg.block r (lt_of_get h.root) (ne h.root)).trans h.root
    node := fun n hn => (hg.block _ (lt_of_get (h.node n hn)) (ne (h.node n hn))).trans (h.node n hn)
    dirs := fun i hi => ?_
    opn := ⟨D', own_tight hown hmo.2, hmo⟩
    mx := ?_ }, grown_only hg fun k hk => by cases hk; exact h.fo⟩
  · obtain ⟨Di, h1, h2⟩ := h.dirs i hi
    exact ⟨Di, map_keep h1 (hg.block _ h1.lt fun e => h.mo i hi (Option.some.inj e)), h2⟩
  · obtain ⟨⟨m, hm⟩, hmx⟩ := h.mx
    have hne : some maxB ≠ some bo := by
      intro e
      have e2 : maxB = bo := Option.some.inj e
      have hm' : w.cell? ⟨maxB, 0, none⟩ = some (.int .i64 m) := hm
      rw [e2, World.cell?, show w.heap[(⟨bo, 0, none⟩ : Addr).block]? = some (.map es ck) from hmap] at hm'
      simp at hm'
    exact mx_keep ⟨⟨m, hm⟩, hmx⟩ (hg.block maxB (mx_lt ⟨m, hm⟩) hne)

/-- a node's cell is laid anew -/
theorem RealAt.setNode [Inhabited XBox] {w w' : World} {F : Nat → Prop} {r bo n : Nat} {β μ : Nat → Nat} {S : Pz.Fil} {y : Pz.Nd} (h : RealAt w F r bo β μ S) (hn : n < S.N.length) (hy : y.dir = Pz.isDir S.N n) (hg : w.grownBy w' (some (β n)))
    (hb : w'.heap[β n]? = some (.cells #[.string ⟨y.data.toArray⟩, .int .i64 y.links, .map (if y.dir then some (μ n) else none)] 105 (0, 0))) (hmx : maxB ≠ β n) :
    RealAt w' F r bo β μ { S with N := S.N.set n y } ∧ Only F w w' := by
  have hD : ∀ k, Pz.isDir (S.N.set n y) k = Pz.isDir S.N k := Pz.isDir_set hy
  have nem : ∀ {k : Nat} {es : Array MapEntry} {ck : Nat}, w.heap[k]? = some (.map es ck) → some k ≠ some (β n) := by
    intro k es ck hk e
    cases e
    rw [h.node n hn] at hk
    cases hk
  have hrn : some r ≠ some (β n) := by
    intro e
    cases e
    have := (h.node n hn).symm.trans h.root
    simp at this
  have hset : ∀ k, k ≠ n → Pz.nodeD (S.N.set n y) k = Pz.nodeD S.N k := fun k hk => by unfold Pz.nodeD; rw [List.getElem?_set_ne (fun e => hk e.symm)]
  have hself : Pz.nodeD (S.N.set n y) n = y := by unfold Pz.nodeD; rw [List.getElem?_set_self hn]
  refine ⟨{ h with
    root := (hg.block r (lt_of_get h.root) hrn).trans h.root
    node := fun k hk => ?_
    dirs := fun i hi => ?_
    opn := ?_
    bInj := fun a b ha hb2 => h.bInj a b (by simpa using ha) (by simpa using hb2)
    mInj := fun a b ha hb2 => h.mInj a b ((hD a).symm.trans ha) ((hD b).symm.trans hb2)
    mo := fun a ha => h.mo a ((hD a).symm.trans ha)
    fb := fun a ha => h.fb a (by simpa using ha)
    fm := fun a ha => h.fm a ((hD a).symm.trans ha)
    mx := mx_keep h.mx (hg.block maxB (mx_lt h.mx.1) fun e => hmx (Option.some.inj e)) }, grown_only hg fun k hk => by cases hk; exact h.fb n hn⟩
  · have hk' : k < S.N.length := by simpa using hk
    show w'.heap[β k]? = some (.cells #[.string ⟨(Pz.nodeD (S.N.set n y) k).data.toArray⟩, .int .i64 (Pz.nodeD (S.N.set n y) k).links, .map (if Pz.isDir (S.N.set n y) k then some (μ k) else none)] _ (0, 0))
    rw [hD]
    by_cases hkn : k = n
    · subst hkn
      rw [hself, hb, hy]
    · rw [hset k hkn]
      exact (hg.block _ (lt_of_get (h.node k hk')) fun e => hkn (h.bInj k n hk' hn (Option.some.inj e))).trans (h.node k hk')
  · obtain ⟨Di, h1, h2⟩ := h.dirs i ((hD i).symm.trans hi)
    obtain ⟨es, ck, hm, _⟩ := id h1
    exact ⟨Di, map_keep h1 (hg.block _ h1.lt (nem hm)), h2⟩
  · obtain ⟨DO, h1, h2⟩ := h.opn
    obtain ⟨es, ck, hm, _⟩ := id h1
    exact ⟨DO, map_keep h1 (hg.block _ h1.lt (nem hm)), h2⟩

end Go.Proofs.YtbpejjmfdhkfhaaGreatDoor

/- The program's file system in memory, changed: a descriptor more or less, a node more. -/
namespace Go.Proofs.YtbpejjmfdhkfhaaGreatDoor
open Go.RowKit

namespace Pz
theorem ofd_app {O G : List Op} {c fd : Int} : ofd (O ++ G) c fd = if 0 ≤ ofd O c fd then ofd O c fd else ofd G c fd := by
  induction O with
  | nil => rw [List.nil_append, ofd, if_neg (show ¬ (0 : Int) ≤ -1 by omega)]
  | cons e r ih =>
    rw [List.cons_append, ofd, ofd]
    by_cases h : e.client = c ∧ e.fd = fd
    · rw [if_pos h, if_pos h, if_pos (show (0 : Int) ≤ e.node by omega)]
    · rw [if_neg h, if_neg h, ih]
theorem ofd_ge {O : List Op} {c fd : Int} : -1 ≤ ofd O c fd := by
  induction O with
  | nil => show (-1 : Int) ≤ -1; omega
  | cons e r ih =>
    rw [ofd]
    split
    · omega
    · exact ih
theorem ofd_shut {O : List Op} {c fd c' fd' : Int} : ofd (shut O c fd) c' fd' = if c' = c ∧ fd' = fd then -1 else ofd O c' fd' := by
  induction O with
  | nil => simp [shut, ofd]
  | cons e r ih =>
    unfold shut at ih ⊢
    rw [List.filter_cons]
    by_cases h : e.client = c ∧ e.fd = fd
    · rw [if_neg (by simp [h]), ih, ofd]
      by_cases h2 : c' = c ∧ fd' = fd
      · rw [if_pos h2, if_pos h2]
      · rw [if_neg h2, if_neg h2, if_neg (fun h3 => h2 ⟨h3.1.symm.trans h.1, h3.2.symm.trans h.2⟩)]
    · rw [if_pos (decide_eq_true h), ofd, ofd, ih]
      by_cases h2 : c' = c ∧ fd' = fd
      · rw [if_pos h2, if_pos h2, if_neg (fun h3 => h ⟨h3.1.trans h2.1, h3.2.trans h2.2⟩)]
      · rw [if_neg h2, if_neg h2]
theorem len_shut {O : List Op} {c fd : Int} (h : O.Pairwise fun a b => ¬ (a.client = b.client ∧ a.fd = b.fd)) : (shut O c fd).length + (if 0 ≤ ofd O c fd then 1 else 0) = O.length := by
  induction O with
  | nil => rfl
  | cons e r ih =>
    obtain ⟨h1, h2⟩ := List.pairwise_cons.1 h
    have ih := ih h2
    unfold shut at ih ⊢
    rw [ofd, List.filter_cons]
    by_cases he : e.client = c ∧ e.fd = fd
    · rw [if_pos he, if_neg (by simp [he]), if_pos (show (0 : Int) ≤ e.node by omega), List.length_cons]
      have hno : ∀ a ∈ r, ¬ (a.client = c ∧ a.fd = fd) := fun a ha hc => h1 a ha ⟨he.1.trans hc.1.symm, he.2.trans hc.2.symm⟩
      have : r.filter (fun e => decide (¬ (e.client = c ∧ e.fd = fd))) = r := List.filter_eq_self.2 fun a ha => decide_eq_true (hno a ha)
      rw [this]
    · rw [if_neg he, if_pos (decide_eq_true he), List.length_cons, List.length_cons]
      omega
theorem ofd_mem {O : List Op} {c fd : Int} (h : 0 ≤ ofd O c fd) : ∃ o ∈ O, o.client = c ∧ o.fd = fd ∧ (o.node : Int) = ofd O c fd := by
  induction O with
  | nil => rw [ofd] at h; omega
  | cons e r ih =>
    rw [ofd] at h ⊢
    by_cases he : e.client = c ∧ e.fd = fd
    · rw [if_pos he]
      exact ⟨e, List.mem_cons_self .., he.1, he.2, rfl⟩
    · rw [if_neg he] at h ⊢
      obtain ⟨o, ho, h1⟩ := ih h
      exact ⟨o, List.mem_cons_of_mem _ ho, h1⟩
end Pz

theorem MapO.add {D : DataW Unit} {β : Nat → Nat} {O : List Pz.Op} {c fd : Int} {m : Nat} (h : MapO D β O) (hT : Maps.Tidy D) (hc : I64 c) (hf : I64 fd) (hno : Pz.ofd O c fd < 0) :
    MapO (D.put (keyL c fd) (.lit (.int .i64 (β m)))) β (O ++ [⟨c, fd, m⟩]) := by
  refine ⟨fun c' fd' zd hc' hf' => ?_, ?_⟩
  · by_cases hy : c' = c ∧ fd' = fd
    · obtain ⟨rfl, rfl⟩ := hy
      have e : Pz.ofd (O ++ [⟨c', fd', m⟩]) c' fd' = (m : Int) := by
        rw [Pz.ofd_app, if_neg (show ¬ (0 : Int) ≤ Pz.ofd O c' fd' by omega), Pz.ofd, if_pos (And.intro rfl rfl)]
      rw [Maps.atKey_put_same (k := keyL c' fd') hT.isMap trivial, e, if_neg (show ¬ (m : Int) < 0 by omega), Int.toNat_natCast]
    · have e : Pz.ofd (O ++ [⟨c, fd, m⟩]) c' fd' = Pz.ofd O c' fd' := by
        rw [Pz.ofd_app, Pz.ofd, if_neg (show ¬ (c = c' ∧ fd = fd') from fun e => hy ⟨e.1.symm, e.2.symm⟩), Pz.ofd]
        have := Pz.ofd_ge (O := O) (c := c') (fd := fd')
        by_cases hl : 0 ≤ Pz.ofd O c' fd'
        · rw [if_pos hl]
        · rw [if_neg hl]; omega
      rw [Maps.atKey_put_other (fun e => hy (keyL_inj hc' hf' hc hf e)), h.1 c' fd' zd hc' hf', e]
  · have hh : Maps.has D (keyL c fd) = false := Maps.has_false_of_atKey fun z => by rw [h.1 c fd z hc hf, if_pos hno]
    rw [Maps.size_put hT, if_neg (by rw [hh]; decide), h.2, List.length_append, List.length_singleton]
theorem MapO.shut {D : DataW Unit} {β : Nat → Nat} {O : List Pz.Op} {c fd : Int} (h : MapO D β O) (hT : Maps.Tidy D) (hc : I64 c) (hf : I64 fd) (ho : O.Pairwise fun a b => ¬ (a.client = b.client ∧ a.fd = b.fd)) :
    MapO (D.del (keyL c fd)) β (Pz.shut O c fd) := by
  have hl := Pz.len_shut (c := c) (fd := fd) ho
  have hs := Maps.size_del (k := keyL c fd) hT
  refine ⟨fun c' fd' zd hc' hf' => ?_, ?_⟩
  · rw [Pz.ofd_shut]
    by_cases hy : c' = c ∧ fd' = fd
    · obtain ⟨rfl, rfl⟩ := hy
      rw [Maps.atKey_del_same, if_pos (And.intro rfl rfl), if_pos (show (-1 : Int) < 0 by omega)]
    · rw [Maps.atKey_del_other (fun e => hy (keyL_inj hc' hf' hc hf e)), h.1 c' fd' zd hc' hf', if_neg hy]
  · by_cases hl0 : 0 ≤ Pz.ofd O c fd
    · have hh : Maps.has D (keyL c fd) = true := Maps.has_true_of_atKey (y := .lit (.int .i64 (β (Pz.ofd O c fd).toNat))) fun z => by rw [h.1 c fd z hc hf, if_neg (by omega)]
      rw [if_pos hh, h.2] at hs
      rw [if_pos hl0] at hl
      omega
    · have hh : Maps.has D (keyL c fd) = false := Maps.has_false_of_atKey fun z => by rw [h.1 c fd z hc hf, if_pos (by omega)]
      rw [if_neg (by rw [hh]; decide), h.2] at hs
      rw [if_neg hl0] at hl
      omega

/-- one number more -/
def upd (β : Nat → Nat) (n g : Nat) (k : Nat) : Nat := if k = n then g else β k
theorem MapE.upd {D : DataW Unit} {β : Nat → Nat} {E : List Pz.En} {i n g : Nat} (h : MapE D β E i) (hE : ∀ e ∈ E, e.dir < n ∧ e.node < n) : MapE D (upd β n g) E i := by
  refine ⟨fun x zd => ?_, h.2⟩
  rw [h.1 x zd]
  by_cases hl : Pz.look E i x < 0
  · rw [if_pos hl, if_pos hl]
  · rw [if_neg hl, if_neg hl]
    have := Pz.look_lt (n := n) (i := i) (x := x) hE
    unfold Go.Proofs.YtbpejjmfdhkfhaaGreatDoor.upd
    rw [if_neg (by omega)]
theorem MapO.upd {D : DataW Unit} {β : Nat → Nat} {O : List Pz.Op} {n g : Nat} (h : MapO D β O) (hO : ∀ o ∈ O, o.node < n) : MapO D (upd β n g) O := by
  refine ⟨fun c fd zd hc hf => ?_, h.2⟩
  rw [h.1 c fd zd hc hf]
  by_cases hl : Pz.ofd O c fd < 0
  · rw [if_pos hl, if_pos hl]
  · rw [if_neg hl, if_neg hl]
    have := Pz.ofd_lt (n := n) (c := c) (fd := fd) hO
    unfold Go.Proofs.YtbpejjmfdhkfhaaGreatDoor.upd
    rw [if_neg (by omega)]

/-- a node more, in new blocks -/
theorem RealAt.newNode [Inhabited XBox] {w w' : World} {F : Nat → Prop} {r bo gm gb : Nat} {β μ : Nat → Nat} {S : Pz.Fil} {y : Pz.Nd} (h : RealAt w F r bo β μ S) (hO : Pz.Ok S) (hb : Below w.heap.size w w') (hgb : w.heap.size ≤ gb)
    (hn : w'.heap[gb]? = some (.cells #[.string ⟨y.data.toArray⟩, .int .i64 y.links, .map (if y.dir then some gm else none)] 105 (0, 0)))
    (hd : y.dir = true → w.heap.size ≤ gm ∧ w'.heap[gm]? = some (.map #[] 0)) :
    RealAt w' (Gr F w) r bo (upd β S.N.length gb) (upd μ S.N.length gm) { S with N := S.N ++ [y] } ∧ Only F w w' := by
  have h' := (RealAt.held r bo β μ S).below h hb
  have hlt := fun n (hn : n < S.N.length) => lt_of_get (h.node n hn)
  have hnew : ∀ k, k < S.N.length → Pz.nodeD (S.N ++ [y]) k = Pz.nodeD S.N k ∧ Pz.isDir (S.N ++ [y]) k = Pz.isDir S.N k := fun k hk => by
    unfold Pz.nodeD Pz.isDir
    rw [List.getElem?_append_left hk]
    exact ⟨rfl, rfl⟩
  have hlast : Pz.nodeD (S.N ++ [y]) S.N.length = y ∧ Pz.isDir (S.N ++ [y]) S.N.length = y.dir := by
    unfold Pz.nodeD Pz.isDir
    rw [List.getElem?_append_right (Nat.le_refl _)]
    simp
  have ub : ∀ k, k ≠ S.N.length → upd β S.N.length gb k = β k := fun k hk => if_neg hk
  have um : ∀ k, k ≠ S.N.length → upd μ S.N.length gm k = μ k := fun k hk => if_neg hk
  have ubl : upd β S.N.length gb S.N.length = gb := if_pos rfl
  have uml : upd μ S.N.length gm S.N.length = gm := if_pos rfl
  have hdl : ∀ i, Pz.isDir (S.N ++ [y]) i = true → (i = S.N.length ∧ y.dir = true) ∨ (i < S.N.length ∧ Pz.isDir S.N i = true) := by
    intro i hi
    have hil := isDir_lt hi
    rw [List.length_append, List.length_singleton] at hil
    by_cases he : i = S.N.length
    · subst he
      exact Or.inl ⟨rfl, by rw [← hlast.2]; exact hi⟩
    · have hil : i < S.N.length := by omega
      exact Or.inr ⟨hil, by rw [← (hnew i hil).2]; exact hi⟩
  have hml : ∀ i, Pz.isDir S.N i = true → μ i < w.heap.size := fun i hi => by obtain ⟨D, h1, _⟩ := h.dirs i hi; exact h1.lt
  refine ⟨{
    root := by rw [ub 0 (by have := hO.root; omega)]; exact h'.root
    node := fun n hn' => ?_
    dirs := fun i hi => ?_
    opn := ?_
    bInj := fun a b ha hb2 e => ?_
    mInj := fun a b ha hb2 e => ?_
    mo := fun a ha => ?_
    fr := Or.inl h.fr
    fo := Or.inl h.fo
    fb := fun a ha => ?_
    fm := fun a ha => ?_
    fx := Or.inl h.fx
    mx := h'.mx }, below_only hb F⟩
  · have hn2 : n < S.N.length + 1 := by simpa using hn'
    by_cases he : n = S.N.length
    · subst he
      show w'.heap[upd β S.N.length gb S.N.length]? = some (.cells #[.string ⟨(Pz.nodeD (S.N ++ [y]) S.N.length).data.toArray⟩, .int .i64 (Pz.nodeD (S.N ++ [y]) S.N.length).links, .map (if Pz.isDir (S.N ++ [y]) S.N.length then some (upd μ S.N.length gm S.N.length) else none)] _ (0, 0))
      rw [hlast.1, hlast.2, ubl, uml]
      exact hn
    · have hl : n < S.N.length := by omega
      show w'.heap[upd β S.N.length gb n]? = some (.cells #[.string ⟨(Pz.nodeD (S.N ++ [y]) n).data.toArray⟩, .int .i64 (Pz.nodeD (S.N ++ [y]) n).links, .map (if Pz.isDir (S.N ++ [y]) n then some (upd μ S.N.length gm n) else none)] _ (0, 0))
      rw [(hnew n hl).1, (hnew n hl).2, ub n he, um n he]
      exact h'.node n hl
  · rcases hdl i hi with ⟨rfl, hy⟩ | ⟨hil, hid⟩
    · obtain ⟨h1, h2⟩ := hd hy
      have hno : ∀ x, Pz.look S.E S.N.length x = -1 := by
        intro x
        have : ∀ (E : List Pz.En), (∀ e ∈ E, e.dir < S.N.length ∧ e.node < S.N.length) → Pz.look E S.N.length x = -1 := by
          intro E
          induction E with
          | nil => intro _; rfl
          | cons a r ih =>
            intro hE
            rw [Pz.look, if_neg (fun e => by have := (hE a (List.mem_cons_self ..)).1; omega)]
            exact ih fun e he => hE e (List.mem_cons_of_mem _ he)
        exact this S.E hO.ent
      have hc0 : Pz.count S.E S.N.length = 0 := by
        unfold Pz.count
        rw [List.filter_eq_nil_iff.2]
        · rfl
        · intro e he
          have := (hO.ent e he).1
          simp
          omega
      refine ⟨.map [], ?_, fun x zd => ?_, ?_⟩
      · rw [uml]
        show w'.ownsMap _ _ _ gm (Pz.count S.E S.N.length) _
        rw [hc0]
        exact ⟨#[], 0, h2, ⟨by simp, MapKept.stamped_empty 0, by simp⟩, Nat.le_refl _, rfl⟩
      · show DataW.atKey (.map []) _ zd = if Pz.look S.E S.N.length x < 0 then zd else _
        rw [hno x, if_pos (show (-1 : Int) < 0 by omega)]
        rfl
      · show Maps.size (.map []) = Pz.count S.E S.N.length
        rw [hc0]; rfl
    · obtain ⟨D, h1, h2⟩ := h'.dirs i hid
      exact ⟨D, by rw [um i (by omega)]; exact h1, h2.upd hO.ent⟩
  · obtain ⟨D, h1, h2⟩ := h'.opn
    exact ⟨D, h1, h2.upd hO.opn⟩
  · have ha2 : a < S.N.length + 1 := by simpa using ha
    have hb3 : b < S.N.length + 1 := by simpa using hb2
    by_cases h1 : a = S.N.length
    · by_cases h2 : b = S.N.length
      · rw [h1, h2]
      · rw [h1, ubl, ub b h2] at e
        have := hlt b (by omega)
        omega
    · by_cases h2 : b = S.N.length
      · rw [h2, ubl, ub a h1] at e
        have := hlt a (by omega)
        omega
      · rw [ub a h1, ub b h2] at e
        exact h.bInj a b (by omega) (by omega) e
  · rcases hdl a ha with ⟨rfl, hy⟩ | ⟨h1, h2⟩
    · rcases hdl b hb2 with ⟨rfl, _⟩ | ⟨h3, h4⟩
      · rfl
      · rw [uml, um b (by omega)] at e
        have := hml b h4
        have := (hd hy).1
        omega
    · rcases hdl b hb2 with ⟨rfl, hy⟩ | ⟨h3, h4⟩
      · rw [uml, um a (by omega)] at e
        have := hml a h2
        have := (hd hy).1
        omega
      · rw [um a (by omega), um b (by omega)] at e
        exact h.mInj a b h2 h4 e
  · have hbo : bo < w.heap.size := by obtain ⟨D, h1, _⟩ := h.opn; exact h1.lt
    rcases hdl a ha with ⟨rfl, hy⟩ | ⟨h1, h2⟩
    · rw [uml]
      have := (hd hy).1
      omega
    · rw [um a (by omega)]
      exact h.mo a h2
  · have ha2 : a < S.N.length + 1 := by simpa using ha
    by_cases h1 : a = S.N.length
    · rw [h1, ubl]; exact Or.inr hgb
    · rw [ub a h1]; exact Or.inl (h.fb a (by omega))
  · rcases hdl a ha with ⟨rfl, hy⟩ | ⟨h1, h2⟩
    · rw [uml]; exact Or.inr (hd hy).1
    · rw [um a (by omega)]; exact Or.inl (h.fm a h2)

theorem Fx.imp {I J : World → (Nat → Prop) → Prop} {F : Nat → Prop} {w0 w : World} {C : Array Value} (h : Fx I F w0 C w) (hIJ : ∀ w F, I w F → J w F) : Fx J F w0 C w :=
  ⟨⟨hIJ _ _ h.st.inv, h.st.only, h.st.size⟩, h.box, h.res⟩

end Go.Proofs.YtbpejjmfdhkfhaaGreatDoor
