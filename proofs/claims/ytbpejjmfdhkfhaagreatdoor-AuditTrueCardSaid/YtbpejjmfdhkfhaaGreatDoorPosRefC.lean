/- Which blocks a call may turn: those of a set, and new ones; what a call holds behind its beginning. -/
import Derived.Test.YtbpejjmfdhkfhaaGreatDoorPosRefA
import Derived.Maps.AppendAt
set_option linter.unusedVariables false
set_option linter.unusedSimpArgs false
namespace Go.Proofs.YtbpejjmfdhkfhaaGreatDoor
open Go.RowKit

/-- w' is w but for blocks of F, and new ones -/
structure Only (F : Nat → Prop) (w w' : World) : Prop where
  os : w'.os = w.os
  tape : w'.tape = w.tape
  output : w'.output = w.output
  size : w.heap.size ≤ w'.heap.size
  block : ∀ k, k < w.heap.size → ¬ F k → w'.heap[k]? = w.heap[k]?

theorem Only.refl (F : Nat → Prop) (w : World) : Only F w w := ⟨rfl, rfl, rfl, Nat.le_refl _, fun _ _ _ => rfl⟩
theorem Only.trans {F G : Nat → Prop} {a b c : World} (h : Only F a b) (k : Only G b c) (hG : ∀ j, j < a.heap.size → G j → F j) : Only F a c :=
  ⟨k.os.trans h.os, k.tape.trans h.tape, k.output.trans h.output, Nat.le_trans h.size k.size, fun j hj hn => (k.block j (Nat.lt_of_lt_of_le hj h.size) (fun e => hn (hG j hj e))).trans (h.block j hj hn)⟩
theorem Only.mono {F G : Nat → Prop} {w w' : World} (h : Only F w w') (hG : ∀ j, j < w.heap.size → F j → G j) : Only G w w' :=
  ⟨h.os, h.tape, h.output, h.size, fun j hj hn => h.block j hj fun e => hn (hG j hj e)⟩
theorem below_only {w w' : World} (h : Below w.heap.size w w') (F : Nat → Prop) : Only F w w' := ⟨h.os, h.tape, h.output, h.size, fun j hj _ => h.block j hj⟩
theorem grown_only {F : Nat → Prop} {w w' : World} {row : Option Nat} (h : w.grownBy w' row) (hr : ∀ k, row = some k → F k) : Only F w w' :=
  ⟨h.os, h.tape, h.output, h.size, fun j hj hn => h.block j hj fun e => hn (hr j e.symm)⟩
theorem Only.cell {F : Nat → Prop} {w w' : World} (h : Only F w w') {p : Addr} (hp : p.block < w.heap.size) (hn : ¬ F p.block) : w'.cell? p = w.cell? p := World.cell?_of_block (w := w) (h.block _ hp hn)
theorem Only.frozen {F : Nat → Prop} {w w' : World} (h : Only F w w') {p : Addr} (hp : p.block < w.heap.size) (hn : ¬ F p.block) : w'.frozen? p = w.frozen? p := World.frozen?_of_block (w := w) (h.block _ hp hn)
theorem Only.below {F : Nat → Prop} {B : Nat} {w w' : World} (h : Only F w w') (hB : B ≤ w.heap.size) (hn : ∀ k, k < B → ¬ F k) : Below B w w' :=
  ⟨h.os, h.tape, h.output, h.size, fun k hk => h.block k (Nat.lt_of_lt_of_le hk hB) (hn k hk)⟩
theorem only_setCell (w : World) (a : Addr) (u : Value) {F : Nat → Prop} (hF : F a.block) : Only F w (w.setCell a u) :=
  ⟨rfl, rfl, rfl, by simp [World.setCell], fun k _ hn => Below.heap_setCell w a u k (fun e => hn (e ▸ hF))⟩

/-- F, and what is new from w on -/
def Gr (F : Nat → Prop) (w : World) (k : Nat) : Prop := F k ∨ w.heap.size ≤ k

/-- a thing in memory that lies in blocks of a set -/
structure Held (I : World → (Nat → Prop) → Prop) : Prop where
  keep : ∀ {w w' : World} {F : Nat → Prop}, I w F → w.heap.size ≤ w'.heap.size → (∀ k, k < w.heap.size → F k → w'.heap[k]? = w.heap[k]?) → I w' F
  mono : ∀ {w : World} {F G : Nat → Prop}, I w F → (∀ k, k < w.heap.size → F k → G k) → I w G

theorem Held.below {I : World → (Nat → Prop) → Prop} (hH : Held I) {w w' : World} {F : Nat → Prop} (h : I w F) (hb : Below w.heap.size w w') : I w' F := hH.keep h hb.size fun k hk _ => hb.block k hk
/-- what another thing's call does does not turn it -/
theorem Held.apart {I : World → (Nat → Prop) → Prop} (hH : Held I) {w w' : World} {F G : Nat → Prop} (h : I w F) (ho : Only G w w') (hd : ∀ k, k < w.heap.size → F k → ¬ G k) : I w' F :=
  hH.keep h ho.size fun k hk hF => ho.block k hk (hd k hk hF)
/-- a change behind some blocks that the call laid ahead of it -/
theorem Held.back {I : World → (Nat → Prop) → Prop} (hH : Held I) {w wa w' : World} {F : Nat → Prop} (hb : Below w.heap.size w wa) (h : I w' (Gr F wa)) (ho : Only F wa w') : I w' (Gr F w) ∧ Only F w w' :=
  ⟨hH.mono h fun _ _ h => h.imp id fun e => Nat.le_trans hb.size e, (below_only hb F).trans ho fun _ _ h => h⟩

/-- F as it was when the call began, and what is new behind the call's own n blocks -/
def Ft (F : Nat → Prop) (w0 : World) (n : Nat) (k : Nat) : Prop := (F k ∧ k < w0.heap.size) ∨ w0.heap.size + n ≤ k
/-- what a call holds that laid n blocks of its own when it began -/
structure St (I : World → (Nat → Prop) → Prop) (F : Nat → Prop) (w0 : World) (n : Nat) (w : World) : Prop where
  inv : I w (Ft F w0 n)
  only : Only F w0 w
  size : w0.heap.size + n ≤ w.heap.size

theorem St.start {I : World → (Nat → Prop) → Prop} (hH : Held I) {w w' : World} {F : Nat → Prop} {n : Nat} (h : I w F) (hb : Below w.heap.size w w') (hs : w.heap.size + n ≤ w'.heap.size) : St I F w n w' :=
  ⟨hH.below (hH.mono h fun _ hk hF => Or.inl ⟨hF, hk⟩) hb, below_only hb F, hs⟩
theorem St.read {I : World → (Nat → Prop) → Prop} (hH : Held I) {w0 w w' : World} {F : Nat → Prop} {n : Nat} (h : St I F w0 n w) (hb : Below w.heap.size w w') : St I F w0 n w' :=
  ⟨hH.below h.inv hb, h.only.trans (below_only hb F) fun _ _ e => e, Nat.le_trans h.size hb.size⟩
theorem St.write {I J : World → (Nat → Prop) → Prop} (hJ : Held J) {w0 w w' : World} {F : Nat → Prop} {n : Nat} (h : St I F w0 n w) (hi : J w' (Gr (Ft F w0 n) w)) (ho : Only (Ft F w0 n) w w') : St J F w0 n w' :=
  ⟨hJ.mono hi fun _ _ e => e.elim id fun e => Or.inr (Nat.le_trans h.size e), h.only.trans ho fun j hj e => e.elim (fun e => e.1) fun e => absurd e (by omega), Nat.le_trans h.size ho.size⟩
theorem St.own {I : World → (Nat → Prop) → Prop} {w0 w w' : World} {F : Nat → Prop} {n : Nat} (h : St I F w0 n w) (ho : Only (Ft F w0 n) w w') {k : Nat} (h1 : w0.heap.size ≤ k) (h2 : k < w0.heap.size + n) : w'.heap[k]? = w.heap[k]? :=
  ho.block k (Nat.lt_of_lt_of_le h2 h.size) fun e => e.elim (fun e => absurd e.2 (by omega)) fun e => absurd e (by omega)
theorem St.fin {I : World → (Nat → Prop) → Prop} (hH : Held I) {w0 w w' : World} {F : Nat → Prop} {n : Nat} (h : St I F w0 n w) (ho : Only (fun k => w0.heap.size ≤ k ∧ k < w0.heap.size + n) w w') : I w' (Gr F w0) ∧ Only F w0 w' := by
  refine ⟨hH.mono (hH.apart h.inv ho fun k _ e he => ?_) fun k _ e => ?_, h.only.trans ho fun j hj e => absurd e.1 (by omega)⟩
  · rcases e with ⟨_, e⟩ | e <;> omega
  · rcases e with ⟨e, _⟩ | e
    · exact Or.inl e
    · exact Or.inr (by omega)

end Go.Proofs.YtbpejjmfdhkfhaaGreatDoor

/- The document's file system in memory, changed: a name more, a node more, a list anew; put, node. -/
namespace Go.Proofs.YtbpejjmfdhkfhaaGreatDoor
open Go.RowKit

theorem gset (w : World) (a : Addr) (u : Value) : w.grownBy (w.setCell a u) (some a.block) :=
  ⟨rfl, rfl, rfl, by simp [World.setCell], fun k _ hk => Below.heap_setCell w a u k (fun e => hk (by rw [e]))⟩
theorem gbut {w w' : World} {row : Option Nat} (h : w.grownBy w' none) : w.grownBy w' row := ⟨h.os, h.tape, h.output, h.size, fun k hk _ => h.block k hk (by simp)⟩
theorem gcell {w w' : World} {row : Option Nat} (h : w.grownBy w' row) {b j : Nat} (hb : b < w.heap.size) (hne : some b ≠ row) : w'.cell? ⟨b, j, none⟩ = w.cell? ⟨b, j, none⟩ :=
  World.cell?_of_block (w := w) (h.block b hb hne)
theorem gfrozen {w w' : World} {row : Option Nat} (h : w.grownBy w' row) {b j : Nat} (hb : b < w.heap.size) (hne : some b ≠ row) : w'.frozen? ⟨b, j, none⟩ = w.frozen? ⟨b, j, none⟩ :=
  World.frozen?_of_block (w := w) (h.block b hb hne)
theorem gbelow {w w' : World} {row : Option Nat} {B : Nat} (h : w.grownBy w' row) (hB : B ≤ w.heap.size) (hr : ∀ k, row = some k → B ≤ k) : Below B w w' := (Below.refl B w).grown h hB hr

/-- where a value that is laid anew may lie -/
def Lies (w : World) (v v' : Value) : Prop := v'.ownBlock = v.ownBlock ∨ v'.ownBlock = none ∨ ∃ k, w.heap.size ≤ k ∧ v'.ownBlock = some k

theorem apart_swap {a b : Option Nat} (h : a = none ∨ a ≠ b) : b = none ∨ b ≠ a := by
  cases b with
  | none => exact Or.inl rfl
  | some x =>
    right
    rcases h with e | e
    · rw [e]; simp
    · exact fun e2 => e e2.symm
theorem apart_new {w : World} {v v' x : Value} (hat : Lies w v v') (h : v.ownBlock = none ∨ v.ownBlock ≠ x.ownBlock) (hx : ∀ j, x.ownBlock = some j → j < w.heap.size) : v'.ownBlock = none ∨ v'.ownBlock ≠ x.ownBlock := by
  rcases hat with e | e | ⟨k, hk, e⟩
  · rw [e]; exact h
  · exact Or.inl e
  · right
    cases hv : x.ownBlock with
    | none => rw [e]; simp
    | some y => rw [e]; intro e2; have := Option.some.inj e2; have := hx y hv; omega
theorem apart_row {w : World} {v v' : Value} {r : Nat} (hat : Lies w v v') (h : v.ownBlock ≠ some r) (hr : r < w.heap.size) : v'.ownBlock ≠ some r := by
  rcases hat with e | e | ⟨k, hk, e⟩
  · rw [e]; exact h
  · rw [e]; simp
  · rw [e]; intro e2; have := Option.some.inj e2; omega

/-- a value's own block is one of F -/
def Inn (F : Nat → Prop) (v : Value) : Prop := ∀ k, v.ownBlock = some k → F k
/-- the document's file system lies at r, in blocks of F -/
def RefF (r : Nat) (S : Pz.Fil) (w : World) (F : Nat → Prop) : Prop := ∃ vN vE vO, RefAt w 0 r vN vE vO S ∧ F r ∧ Inn F vN ∧ Inn F vE ∧ Inn F vO
theorem RefF.is {r : Nat} {S : Pz.Fil} {w : World} {F : Nat → Prop} (h : RefF r S w F) : RefIs w 0 r S := by
  obtain ⟨vN, vE, vO, h, _⟩ := h
  exact ⟨vN, vE, vO, h⟩
theorem row_keep {w w' : World} {B e sz n : Nat} {v : Value} {xs : List Value} (h : w.ownsRow B e sz v n xs) (hb : ∀ k, v.ownBlock = some k → w'.heap[k]? = w.heap[k]?) : w'.ownsRow B e sz v n xs :=
  ⟨h.1, h.2.imp id fun ⟨g, cap, cur, a, b, c, d⟩ => ⟨g, cap, cur, a, b, (hb g (by rw [a]; rfl)).trans c, d⟩⟩
theorem RefF.held (r : Nat) (S : Pz.Fil) : Held (RefF r S) where
  keep := by
    rintro w w' F ⟨vN, vE, vO, h, hr, hN, hE, hO⟩ hs hb
    have e := hb r h.lt hr
    refine ⟨vN, vE, vO, { h with
      lt := Nat.lt_of_lt_of_le h.lt hs
      c0 := (World.cell?_of_block (w := w) (a := ⟨r, 0, none⟩) e).trans h.c0
      c1 := (World.cell?_of_block (w := w) (a := ⟨r, 1, none⟩) e).trans h.c1
      c2 := (World.cell?_of_block (w := w) (a := ⟨r, 2, none⟩) e).trans h.c2
      fr := fun j => (World.frozen?_of_block (w := w) (a := ⟨r, j, none⟩) e).trans (h.fr j)
      oN := row_keep h.oN fun k hk => hb k (h.oN.lt k hk).2 (hN k hk)
      oE := row_keep h.oE fun k hk => hb k (h.oE.lt k hk).2 (hE k hk)
      oO := row_keep h.oO fun k hk => hb k (h.oO.lt k hk).2 (hO k hk) }, hr, hN, hE, hO⟩
  mono := by
    rintro w F G ⟨vN, vE, vO, h, hr, hN, hE, hO⟩ hG
    exact ⟨vN, vE, vO, h, hG r h.lt hr, fun k hk => hG k (h.oN.lt k hk).2 (hN k hk), fun k hk => hG k (h.oE.lt k hk).2 (hE k hk), fun k hk => hG k (h.oO.lt k hk).2 (hO k hk)⟩
theorem inn_lies {w : World} {F : Nat → Prop} {v v' : Value} (h : Inn F v) (hat : Lies w v v') : Inn (Gr F w) v' := by
  intro k hk
  rcases hat with e | e | ⟨j, hj, e⟩
  · exact Or.inl (h k (e ▸ hk))
  · rw [e] at hk; cases hk
  · rw [e] at hk; cases hk; exact Or.inr hj

theorem RefAt.putN {w w1 : World} {r : Nat} {vN vE vO v' : Value} {S : Pz.Fil} {L : List Pz.Nd} {F : Nat → Prop} (h : RefAt w 0 r vN vE vO S) (hr : F r) (hN : Inn F vN) (hE : Inn F vE) (hO : Inn F vO) (hg : w.grownBy w1 vN.ownBlock) (hown : w1.ownsRow 0 79 3 v' L.length (cN L)) (hat : Lies w vN v') :
    RefF r { S with N := L } (w1.setCell ⟨r, 0, none⟩ v') (Gr F w) ∧ Only F w (w1.setCell ⟨r, 0, none⟩ v') := by
  have hre : some r ≠ vN.ownBlock := fun e => h.aN e.symm
  have hs := hg.size
  have c0 := (gcell (j := 0) hg h.lt hre).trans h.c0
  have c1 := (gcell (j := 1) hg h.lt hre).trans h.c1
  have c2 := (gcell (j := 2) hg h.lt hre).trans h.c2
  have haw := apart_row hat h.aN h.lt
  have g2 := gset w1 ⟨r, 0, none⟩ v'
  refine ⟨⟨v', vE, vO, {
    lo := h.lo
    lt := by rw [show (w1.setCell ⟨r, 0, none⟩ v').heap.size = w1.heap.size by simp [World.setCell]]; exact Nat.lt_of_lt_of_le h.lt hs
    c0 := World.cell?_setCell_same _ _ _ c0
    c1 := by rw [World.cell?_setCell_other (h := by simp)]; exact c1
    c2 := by rw [World.cell?_setCell_other (h := by simp)]; exact c2
    fr := fun j => by simpa using (gfrozen (j := j) hg h.lt hre).trans (h.fr j)
    oN := hown.kept g2 (Or.inr haw)
    oE := (h.oE.kept hg (apart_swap h.nE)).kept g2 (Or.inr h.aE)
    oO := (h.oO.kept hg (apart_swap h.nO)).kept g2 (Or.inr h.aO)
    aN := haw
    aE := h.aE
    aO := h.aO
    nE := apart_new hat h.nE (fun j hj => (h.oE.lt j hj).2)
    nO := apart_new hat h.nO (fun j hj => (h.oO.lt j hj).2)
    eO := h.eO }, Or.inl hr, inn_lies hN hat, fun k hk => Or.inl (hE k hk), fun k hk => Or.inl (hO k hk)⟩, ?_⟩
  exact (grown_only hg hN).trans (only_setCell w1 ⟨r, 0, none⟩ v' (F := F) hr) fun _ _ e => e

theorem RefAt.putE {w w1 : World} {r : Nat} {vN vE vO v' : Value} {S : Pz.Fil} {L : List Pz.En} {F : Nat → Prop} (h : RefAt w 0 r vN vE vO S) (hr : F r) (hN : Inn F vN) (hE : Inn F vE) (hO : Inn F vO) (hg : w.grownBy w1 vE.ownBlock) (hown : w1.ownsRow 0 116 3 v' L.length (cE L)) (hat : Lies w vE v') :
    RefF r { S with E := L } (w1.setCell ⟨r, 1, none⟩ v') (Gr F w) ∧ Only F w (w1.setCell ⟨r, 1, none⟩ v') := by
  have hre : some r ≠ vE.ownBlock := fun e => h.aE e.symm
  have hs := hg.size
  have c0 := (gcell (j := 0) hg h.lt hre).trans h.c0
  have c1 := (gcell (j := 1) hg h.lt hre).trans h.c1
  have c2 := (gcell (j := 2) hg h.lt hre).trans h.c2
  have haw := apart_row hat h.aE h.lt
  have g2 := gset w1 ⟨r, 1, none⟩ v'
  refine ⟨⟨vN, v', vO, {
    lo := h.lo
    lt := by rw [show (w1.setCell ⟨r, 1, none⟩ v').heap.size = w1.heap.size by simp [World.setCell]]; exact Nat.lt_of_lt_of_le h.lt hs
    c0 := by rw [World.cell?_setCell_other (h := by simp)]; exact c0
    c1 := World.cell?_setCell_same _ _ _ c1
    c2 := by rw [World.cell?_setCell_other (h := by simp)]; exact c2
    fr := fun j => by simpa using (gfrozen (j := j) hg h.lt hre).trans (h.fr j)
    oN := (h.oN.kept hg h.nE).kept g2 (Or.inr h.aN)
    oE := hown.kept g2 (Or.inr haw)
    oO := (h.oO.kept hg (apart_swap h.eO)).kept g2 (Or.inr h.aO)
    aN := h.aN
    aE := haw
    aO := h.aO
    nE := apart_swap (apart_new hat (apart_swap h.nE) (fun j hj => (h.oN.lt j hj).2))
    nO := h.nO
    eO := apart_new hat h.eO (fun j hj => (h.oO.lt j hj).2) }, Or.inl hr, fun k hk => Or.inl (hN k hk), inn_lies hE hat, fun k hk => Or.inl (hO k hk)⟩, ?_⟩
  exact (grown_only hg hE).trans (only_setCell w1 ⟨r, 1, none⟩ v' (F := F) hr) fun _ _ e => e

theorem RefAt.putO {w w1 : World} {r : Nat} {vN vE vO v' : Value} {S : Pz.Fil} {L : List Pz.Op} {F : Nat → Prop} (h : RefAt w 0 r vN vE vO S) (hr : F r) (hN : Inn F vN) (hE : Inn F vE) (hO : Inn F vO) (hg : w.grownBy w1 vO.ownBlock) (hown : w1.ownsRow 0 96 3 v' L.length (cO L)) (hat : Lies w vO v') :
    RefF r { S with O := L } (w1.setCell ⟨r, 2, none⟩ v') (Gr F w) ∧ Only F w (w1.setCell ⟨r, 2, none⟩ v') := by
  have hre : some r ≠ vO.ownBlock := fun e => h.aO e.symm
  have hs := hg.size
  have c0 := (gcell (j := 0) hg h.lt hre).trans h.c0
  have c1 := (gcell (j := 1) hg h.lt hre).trans h.c1
  have c2 := (gcell (j := 2) hg h.lt hre).trans h.c2
  have haw := apart_row hat h.aO h.lt
  have g2 := gset w1 ⟨r, 2, none⟩ v'
  refine ⟨⟨vN, vE, v', {
    lo := h.lo
    lt := by rw [show (w1.setCell ⟨r, 2, none⟩ v').heap.size = w1.heap.size by simp [World.setCell]]; exact Nat.lt_of_lt_of_le h.lt hs
    c0 := by rw [World.cell?_setCell_other (h := by simp)]; exact c0
    c1 := by rw [World.cell?_setCell_other (h := by simp)]; exact c1
    c2 := World.cell?_setCell_same _ _ _ c2
    fr := fun j => by simpa using (gfrozen (j := j) hg h.lt hre).trans (h.fr j)
    oN := (h.oN.kept hg h.nO).kept g2 (Or.inr h.aN)
    oE := (h.oE.kept hg h.eO).kept g2 (Or.inr h.aE)
    oO := hown.kept g2 (Or.inr haw)
    aN := h.aN
    aE := h.aE
    aO := haw
    nE := h.nE
    nO := apart_swap (apart_new hat (apart_swap h.nO) (fun j hj => (h.oN.lt j hj).2))
    eO := apart_swap (apart_new hat (apart_swap h.eO) (fun j hj => (h.oE.lt j hj).2)) }, Or.inl hr, fun k hk => Or.inl (hN k hk), fun k hk => Or.inl (hE k hk), inn_lies hO hat⟩, ?_⟩
  exact (grown_only hg hO).trans (only_setCell w1 ⟨r, 2, none⟩ v' (F := F) hr) fun _ _ e => e


theorem Tryz.infoE : (Tryz.prog.info? 116).map (fun i => (i.zero, i.size, i.bytes)) = some (some (.agg #[.int .i64 0, .string ByteArray.empty, .int .i64 0]), 3, 32) := by kernel_rfl
theorem Tryz.infoN : (Tryz.prog.info? 79).map (fun i => (i.zero, i.size, i.bytes)) = some (some (.agg #[.bool false, .string ByteArray.empty, .int .i64 0]), 3, 32) := by kernel_rfl
theorem Tryz.infoO : (Tryz.prog.info? 96).map (fun i => (i.zero, i.size, i.bytes)) = some (some (.agg #[.int .i64 0, .int .i64 0, .int .i64 0]), 3, 24) := by kernel_rfl

theorem cells_new3 (w : World) (x y z : Value) (t : TypeId) : ∀ j u, [x, y, z][j]? = some u → (w.alloc (.cells #[x, y, z] t)).cell? ((⟨w.heap.size, 0, none⟩ : Addr).add j) = some u := by
  intro j u hj
  match j, hj with
  | 0, hj => simp at hj; subst hj; simp [Addr.add]
  | 1, hj => simp at hj; subst hj; simp [Addr.add]
  | 2, hj => simp at hj; subst hj; simp [Addr.add]
theorem lies_at {w : World} {v v' : Value} (h : v'.ownBlock = v.ownBlock ∨ v'.ownBlock = some w.heap.size) : Lies w v v' := h.imp id fun e => Or.inr ⟨_, Nat.le_refl _, e⟩

set_option maxHeartbeats 2000000 in
set_option maxRecDepth 8192 in
theorem put_any (r : Nat) (S : Pz.Fil) (i n : Nat) (s : ByteArray) (w : World) (F : Nat → Prop) (hE : S.E.length ≤ 1000000) (hR : RefF r S w F) :
    Calls Tryz.prog 38 #[.pointer (some ⟨r, 0, none⟩), .int .i64 i, .string s, .int .i64 n] w fun e w' => e = .returned (.tuple #[]) ∧ RefF r { S with E := S.E ++ [⟨i, s.data.toList, n⟩] } w' (Gr F w) ∧ Only F w w' := by
  obtain ⟨vN, vE, vO, hA, hr, hiN, hiE, hiO⟩ := hR
  have HI := Lib.hid (And.intro hr (And.intro hiN (And.intro hiE hiO)))
  clear hr hiN hiE hiO
  have hc1 := hA.c1
  have hlt := hA.lt
  have hlo := hA.lo
  have hfr := hA.fr 1
  have HA := Lib.hid hA
  have hoE := hA.oE
  clear hA
  obtain ⟨i0, hi, hz0, hz1, hz2⟩ := info_parts Tryz.infoE
  have hsn : cE S.E ++ [.int .i64 i, .string s, .int .i64 n] = cE (S.E ++ [⟨i, s.data.toList, n⟩]) := by
    unfold cE
    rw [Pz.three_snoc]
  have Hsn := Lib.hid hsn
  clear hsn
  go_enter Tryz.func38, Tryz.ntmps38
  go_wp2_with (at_builtin; go_loud (refine wpList_append_own_at _ rfl _ _ 42 rfl 0 116 i0 _ 3 32 Tryz.underlying42 hi hz0 hz1 hz2 rfl (by decide) vE S.E.length (cE S.E) rfl (hoE.alloc _) ⟨w.heap.size, 0, none⟩ 1 1 [.int .i64 i, .string s, .int .i64 n] rfl rfl ?_ (by intro u hu; simp at hu; rcases hu with rfl | rfl | rfl <;> rfl) (by unfold maxLen; omega) (by omega) (Nat.zero_le _) ?_))
  · exact cells_new3 _ _ _ _ _
  intro v' w1 hown hgrow _ hat
  have hba := (Below.refl w.heap.size w).alloc (Nat.le_refl _) (.cells #[.int .i64 i, .string s, .int .i64 n] 116)
  have hA0 := HA.out.keep hba
  obtain ⟨hr, hiN, hiE, hiO⟩ := HI.out
  rw [Hsn.out, show S.E.length + 1 = (S.E ++ [(⟨i, s.data.toList, n⟩ : Pz.En)]).length by simp] at hown
  obtain ⟨A', c', rfl, _, _⟩ := row3 hown
  obtain ⟨hR', hb'⟩ := hA0.putE hr hiN hiE hiO hgrow hown (lies_at (by simpa using hat))
  have hre : some r ≠ vE.ownBlock := fun e => hA0.aE e.symm
  have c1' := (gcell (j := 1) hgrow hA0.lt hre).trans hA0.c1
  have f1' := (gfrozen (j := 1) hgrow hA0.lt hre).trans (hA0.fr 1)
  have hB2 := (RefF.held _ _).back hba hR' hb'
  rw [List.length_append, List.length_singleton] at hB2
  have HR' := Lib.hid hB2
  clear hR' hA0 hown hb' hat hB2 hr hiN hiE hiO
  go_wp2
  go_end0
  exact ⟨rfl, HR'.out⟩

set_option maxHeartbeats 2000000 in
set_option maxRecDepth 8192 in
theorem node_any (r : Nat) (S : Pz.Fil) (d : Bool) (w : World) (F : Nat → Prop) (hE : S.N.length ≤ 1000000) (hR : RefF r S w F) :
    Calls Tryz.prog 39 #[.pointer (some ⟨r, 0, none⟩), .bool d] w fun e w' => e = .returned (.int .i64 S.N.length) ∧ RefF r { S with N := S.N ++ [⟨d, [], 1⟩] } w' (Gr F w) ∧ Only F w w' := by
  obtain ⟨vN, vE, vO, hA, hr, hiN, hiE, hiO⟩ := hR
  have HI := Lib.hid (And.intro hr (And.intro hiN (And.intro hiE hiO)))
  clear hr hiN hiE hiO
  have hc1 := hA.c0
  have hlt := hA.lt
  have hlo := hA.lo
  have hfr := hA.fr 0
  have HA := Lib.hid hA
  have hoE := hA.oN
  clear hA
  obtain ⟨i0, hi, hz0, hz1, hz2⟩ := info_parts Tryz.infoN
  have hsn : cN S.N ++ [.bool d, .string ByteArray.empty, .int .i64 1] = cN (S.N ++ [⟨d, [], 1⟩]) := by
    unfold cN
    rw [Pz.three_snoc]
    rfl
  have Hsn := Lib.hid hsn
  clear hsn
  go_enter Tryz.func39, Tryz.ntmps39
  go_wp2_with (at_builtin; go_loud (refine wpList_append_own_at _ rfl _ _ 41 rfl 0 79 i0 _ 3 32 Tryz.underlying41 hi hz0 hz1 hz2 rfl (by decide) vN S.N.length (cN S.N) rfl (hoE.alloc _) ⟨w.heap.size, 0, none⟩ 1 1 [.bool d, .string ByteArray.empty, .int .i64 1] rfl rfl ?_ (by intro u hu; simp at hu; rcases hu with rfl | rfl | rfl <;> rfl) (by unfold maxLen; omega) (by omega) (Nat.zero_le _) ?_))
  · exact cells_new3 _ _ _ _ _
  intro v' w1 hown hgrow _ hat
  have hba := (Below.refl w.heap.size w).alloc (Nat.le_refl _) (.cells #[.bool d, .string ByteArray.empty, .int .i64 1] 79)
  have hA0 := HA.out.keep hba
  obtain ⟨hr, hiN, hiE, hiO⟩ := HI.out
  rw [Hsn.out, show S.N.length + 1 = (S.N ++ [(⟨d, [], 1⟩ : Pz.Nd)]).length by simp] at hown
  obtain ⟨A', c', rfl, _, _⟩ := row3 hown
  obtain ⟨hR', hb'⟩ := hA0.putN hr hiN hiE hiO hgrow hown (lies_at (by simpa using hat))
  have hre : some r ≠ vN.ownBlock := fun e => hA0.aN e.symm
  have c1' := (gcell (j := 0) hgrow hA0.lt hre).trans hA0.c0
  have f1' := (gfrozen (j := 0) hgrow hA0.lt hre).trans (hA0.fr 0)
  have hB2 := (RefF.held _ _).back hba hR' hb'
  rw [List.length_append, List.length_singleton] at hB2
  have HR' := Lib.hid hB2
  clear hR' hA0 hown hb' hat hB2 hr hiN hiE hiO
  have hc0' : (w1.setCell ⟨r, 0, none⟩ (.slice A' (S.N.length + 1) c')).cell? ⟨r, 0, none⟩ = some (.slice A' (S.N.length + 1) c') := World.cell?_setCell_same _ _ _ c1'
  go_wp2
  go_ret
  exact ⟨rfl, HR'.out⟩

end Go.Proofs.YtbpejjmfdhkfhaaGreatDoor
