/- A client in memory, beside variables of one's own. -/
import Derived.Test.YtiinponoeaihcaaGreatU05
import Derived.Test.YtiinponoeaihcaaGreatU01
import Derived.Test.YtiinponoeaihcaaGreatU03
import Derived.Maps.OwnSet
import Derived.Maps.RangeWalk
import Derived.IntWalk
import Derived.Test.YtiinponoeaihcaaGreatU02
set_option linter.unusedVariables false
set_option linter.unusedSimpArgs false
set_option linter.unusedSectionVars false
namespace Go.Proofs.YtiinponoeaihcaaGreat
open Go.RowKit Go.Shelf
open Go.Maps (Keyed)

/-- a call under way -/
structure Wk where
  kd : Int := 0
  p1 : ByteArray := ⟨#[]⟩
  p2 : ByteArray := ⟨#[]⟩
  fl : Int := 0
  fd : Int := 0
  off : Int := 0
  n : Int := 0
  d : ByteArray := ⟨#[]⟩
  gv : Value := .slice none 0 0
  got : List ByteArray := []
  rd : Bool := false
  ph : Int := 0
def wkC (K : Wk) : Array Value := #[.int .i64 K.kd, .string K.p1, .string K.p2, .int .i64 K.fl, .int .i64 K.fd, .int .i64 K.off, .int .i64 K.n, .string K.d, K.gv, .bool K.rd, .int .i64 K.ph]
/-- a lease, in its block -/
structure Hd where
  b : Nat
  own : Bool
  til : Int
  nk : Int
  nl : Int
  ns : Int
  b0 : Int
  b1 : Int
  b2 : Int
  b3 : Int
  o0 : Int
  o1 : Int
  o2 : Int
  o3 : Int
  o4 : Int
  o5 : Int
  o6 : Int
  o7 : Int
  rv : Value
  ov : List Gd.Rec
def hdC (H : Hd) : Array Value := #[.bool H.own, .int .i64 H.til, .int .i64 H.nk, .int .i64 H.nl, .int .i64 H.ns, .int .i64 H.b0, .int .i64 H.b1, .int .i64 H.b2, .int .i64 H.b3, .int .i64 H.o0, .int .i64 H.o1, .int .i64 H.o2, .int .i64 H.o3, .int .i64 H.o4, .int .i64 H.o5, .int .i64 H.o6, .int .i64 H.o7, H.rv]
/-- a client -/
structure Cs where
  cl : Int := 0
  up : Bool := false
  life : Int := 0
  cnt : Int := 0
  ep : Int := 0
  stale : Bool := false
  vs : Int := 0
  tail : Int := 0
  f : Nat → Int := fun _ => 0
  hm : Option Nat := none
  wm : Option Nat := none
  wk : Option Nat := none
  id : Int := 0
  out : Pk := {}
  waits : Bool := false
  sent : Int := 0
  asked : Int := 0
  pause : Int := 0
  te : Int := 0
  tf : Int := 0
  td : ByteArray := ⟨#[]⟩
  tn : Value := .slice none 0 0
  tk : Int := 0
  tl : Int := 0
  ts : Int := 0
  done : Bool := false
  hn : Nat := 0
  hold : Int → Option Hd := fun _ => none
  K : Wk := {}
def ptrV (o : Option Nat) : Value := .pointer (o.map fun b => ⟨b, 0, none⟩)
def clC (S : Cs) : Array Value := #[.int .i64 S.cl, .bool S.up, .int .i64 S.life, .int .i64 S.cnt, .int .i64 S.ep, .bool S.stale, .int .i64 S.vs, .int .i64 S.tail, .int .i64 (S.f 0), .int .i64 (S.f 1), .int .i64 (S.f 2), .int .i64 (S.f 3), .int .i64 (S.f 4), .int .i64 (S.f 5), .int .i64 (S.f 6), .int .i64 (S.f 7), .map S.hm, .map S.wm, ptrV S.wk, .int .i64 S.id, .int .i64 S.out.kd, .int .i64 S.out.cl, .int .i64 S.out.ep, .int .i64 S.out.sq, .int .i64 S.out.op, .int .i64 S.out.at_, .int .i64 S.out.n, .string S.out.d, .int .i64 S.out.old, .int .i64 S.out.new, .int .i64 S.out.ck, .string S.out.p1, .string S.out.p2, .int .i64 S.out.fl, .int .i64 S.out.fd, .int .i64 S.out.off, .int .i64 S.out.cn, .string S.out.cd, .int .i64 S.out.ino, .int .i64 S.out.er, .int .i64 S.out.re, .int .i64 S.out.rfd, .string S.out.rd, S.out.nv, .int .i64 S.out.ik, .int .i64 S.out.il, .int .i64 S.out.isz, .int .i64 S.out.wr, .int .i64 S.out.nk, .int .i64 S.out.nl, .int .i64 S.out.ns, .int .i64 S.out.b0, .int .i64 S.out.b1, .int .i64 S.out.b2, .int .i64 S.out.b3, .int .i64 S.out.o0, .int .i64 S.out.o1, .int .i64 S.out.o2, .int .i64 S.out.o3, .int .i64 S.out.o4, .int .i64 S.out.o5, .int .i64 S.out.o6, .int .i64 S.out.o7, .bool S.waits, .int .i64 S.sent, .int .i64 S.asked, .int .i64 S.pause, .int .i64 S.te, .int .i64 S.tf, .string S.td, S.tn, .int .i64 S.tk, .int .i64 S.tl, .int .i64 S.ts, .bool S.done]

/-! ### the map of leases -/
/-- how a pointer reads, as an element of a map: its block's number -/
def ptrE : Value → Option (DataW Unit × List MemPlace)
  | .pointer none => some (.lit (.int .i64 (-1)), [])
  | .pointer (some ⟨b, 0, none⟩) => some (.lit (.int .i64 b), [])
  | _ => none
theorem ptrE_inv {v : Value} {y : DataW Unit × List MemPlace} (h : ptrE v = some y) : (v = .pointer none ∧ y.1 = .lit (.int .i64 (-1))) ∨ ∃ b : Nat, v = .pointer (some ⟨b, 0, none⟩) ∧ y.1 = .lit (.int .i64 b) := by
  unfold ptrE at h
  split at h
  · cases h; exact Or.inl ⟨rfl, rfl⟩
  · cases h; exact Or.inr ⟨_, rfl, rfl⟩
  · cases h
def HdAt (w : World) (F : Nat → Prop) (H : Hd) : Prop :=
  w.heap[H.b]? = some (.cells (hdC H) 105 (0, 0)) ∧ F H.b ∧ w.ownsRow 0 112 5 H.rv H.ov.length (recsC H.ov) ∧ ∀ r, H.rv.ownBlock = some r → F r
/-- the map of leases in block m, at most n of them -/
structure HoldsAt (w : World) (F : Nat → Prop) (m n : Nat) (hold : Int → Option Hd) : Prop where
  f : F m
  own : ∃ D, w.ownsMap Tryz.prog 3 ptrE m n D ∧ ∀ i zd, I64 i → D.atKey (.int .i64 i) zd = match hold i with | none => zd | some H => .lit (.int .i64 H.b)
  at_ : ∀ i H, hold i = some H → HdAt w F H ∧ I64 i
  ne : ∀ i j H J, hold i = some H → hold j = some J → i ≠ j → H.b ≠ J.b ∧ ∀ r, H.rv.ownBlock = some r → J.rv.ownBlock ≠ some r
/-- no lease is wanted -/
def WantAt (w : World) (F : Nat → Prop) (m : Nat) : Prop := F m ∧ w.ownsMap (H := Unit) Tryz.prog 3 (plainElem Tryz.prog 4) m 0 (.map [])
def WorkAt (w : World) (F : Nat → Prop) (b : Nat) (K : Wk) : Prop :=
  w.heap[b]? = some (.cells (wkC K) 70 (0, 0)) ∧ F b ∧ w.ownsRow 0 9 1 K.gv K.got.length (K.got.map .string) ∧ ∀ r, K.gv.ownBlock = some r → F r
/-- a client in block cb, within F -/
structure Cl (cb : Nat) (S : Cs) (w : World) (F : Nat → Prop) : Prop where
  obj : w.heap[cb]? = some (.cells (clC S) 62 (0, 0))
  f : F cb
  tight : ∀ k, F k → k < w.heap.size
  hold : ∀ m, S.hm = some m → HoldsAt w F m S.hn S.hold
  want : ∀ m, S.wm = some m → WantAt w F m
  work : ∀ b, S.wk = some b → WorkAt w F b S.K
  mne : ∀ m n, S.hm = some m → S.wm = some n → m ≠ n
theorem row_keep {w w' : World} {B e sz n : Nat} {v : Value} {xs : List Value} (h : w.ownsRow B e sz v n xs) (hb : ∀ k, v.ownBlock = some k → w'.heap[k]? = w.heap[k]?) : w'.ownsRow B e sz v n xs :=
  ⟨h.1, h.2.imp id fun ⟨g, cap, cur, a, b, c, d⟩ => ⟨g, cap, cur, a, b, (hb g (by rw [a]; rfl)).trans c, d⟩⟩
theorem map_keep {P : Program} {k : TypeId} {R : Value → Option (DataW Unit × List MemPlace)} {w w' : World} {b n : Nat} {D : DataW Unit} (h : w.ownsMap P k R b n D) (hb : w'.heap[b]? = w.heap[b]?) : w'.ownsMap P k R b n D := by
  obtain ⟨es, clock, h1, h2⟩ := h
  exact ⟨es, clock, hb.trans h1, h2⟩
theorem HdAt.keep {w w' : World} {F G : Nat → Prop} {H : Hd} (h : HdAt w F H) (hb : ∀ k, F k → w'.heap[k]? = w.heap[k]?) (hG : ∀ k, F k → G k) : HdAt w' G H :=
  ⟨(hb _ h.2.1).trans h.1, hG _ h.2.1, row_keep h.2.2.1 fun k hk => hb k (h.2.2.2 k hk), fun r hr => hG r (h.2.2.2 r hr)⟩
theorem HoldsAt.keep {w w' : World} {F G : Nat → Prop} {m n : Nat} {hold : Int → Option Hd} (h : HoldsAt w F m n hold) (hb : ∀ k, F k → w'.heap[k]? = w.heap[k]?) (hG : ∀ k, F k → G k) : HoldsAt w' G m n hold := by
  obtain ⟨D, hD, hA⟩ := h.own
  exact ⟨hG m h.f, ⟨D, map_keep hD (hb m h.f), hA⟩, fun i H hi => ⟨(h.at_ i H hi).1.keep hb hG, (h.at_ i H hi).2⟩, h.ne⟩
theorem WantAt.keep {w w' : World} {F G : Nat → Prop} {m : Nat} (h : WantAt w F m) (hb : ∀ k, F k → w'.heap[k]? = w.heap[k]?) (hG : ∀ k, F k → G k) : WantAt w' G m := ⟨hG m h.1, map_keep h.2 (hb m h.1)⟩
theorem WorkAt.keep {w w' : World} {F G : Nat → Prop} {b : Nat} {K : Wk} (h : WorkAt w F b K) (hb : ∀ k, F k → w'.heap[k]? = w.heap[k]?) (hG : ∀ k, F k → G k) : WorkAt w' G b K :=
  ⟨(hb b h.2.1).trans h.1, hG b h.2.1, row_keep h.2.2.1 fun k hk => hb k (h.2.2.2 k hk), fun r hr => hG r (h.2.2.2 r hr)⟩
theorem Cl.keep {cb : Nat} {S : Cs} {w w' : World} {F : Nat → Prop} (h : Cl cb S w F) (hs : w.heap.size ≤ w'.heap.size) (hb : ∀ k, F k → w'.heap[k]? = w.heap[k]?) : Cl cb S w' F :=
  ⟨(hb cb h.f).trans h.obj, h.f, fun k hk => Nat.lt_of_lt_of_le (h.tight k hk) hs, fun m hm => (h.hold m hm).keep hb fun _ e => e, fun m hm => (h.want m hm).keep hb fun _ e => e, fun b hb' => (h.work b hb').keep hb fun _ e => e, h.mne⟩

/-- a client, and variables of one's own, behind w0 -/
def Ck (cb : Nat) (S : Cs) (w0 : World) (Ls : List (Nat × Obj)) (w : World) : Prop :=
  ∃ F, Cl cb S w F ∧ (∀ k, F k → w0.heap.size ≤ k) ∧ Below w0.heap.size w0 w ∧ ∀ p ∈ Ls, w0.heap.size ≤ p.1 ∧ ¬ F p.1 ∧ w.heap[p.1]? = some p.2
section
variable {cb : Nat} {S T : Cs} {w0 w w' : World} {Ls : List (Nat × Obj)}
theorem Ck.bl (h : Ck cb S w0 Ls w) : Below w0.heap.size w0 w := h.elim fun _ h => h.2.2.1
theorem Ck.obj (h : Ck cb S w0 Ls w) : w.heap[cb]? = some (.cells (clC S) 62 (0, 0)) := h.elim fun _ h => h.1.obj
theorem Ck.low (h : Ck cb S w0 Ls w) : w0.heap.size ≤ cb ∧ cb < w.heap.size := h.elim fun _ h => ⟨h.2.1 _ h.1.f, h.1.tight _ h.1.f⟩
theorem Ck.cell (h : Ck cb S w0 Ls w) (i : Nat) : w.cell? ⟨cb, i, none⟩ = (clC S)[i]? := cell_of_row w cb i _ _ _ h.obj
theorem Ck.fz (h : Ck cb S w0 Ls w) (i : Nat) : w.frozen? ⟨cb, i, none⟩ = false := frozen_of_row w cb i _ _ h.obj
theorem Ck.get (h : Ck cb S w0 Ls w) {k : Nat} {o : Obj} (hk : (k, o) ∈ Ls) : w.heap[k]? = some o := by
  obtain ⟨F, _, _, _, h2⟩ := h
  exact (h2 _ hk).2.2
theorem Ck.ge (h : Ck cb S w0 Ls w) {k : Nat} {o : Obj} (hk : (k, o) ∈ Ls) : w0.heap.size ≤ k ∧ k < w.heap.size := by
  obtain ⟨F, _, _, _, h2⟩ := h
  exact ⟨(h2 _ hk).1, lt_get (h2 _ hk).2.2⟩
/-- what is only read, or made -/
theorem Ck.below (h : Ck cb S w0 Ls w) (hb : Below w.heap.size w w') : Ck cb S w0 Ls w' := by
  obtain ⟨F, h1, h2, h3, h4⟩ := h
  refine ⟨F, h1.keep hb.size fun k hk => hb.block k (h1.tight k hk), h2, h3.trans (hb.mono h3.size), fun p hp => ?_⟩
  obtain ⟨q1, q2, q3⟩ := h4 p hp
  exact ⟨q1, q2, (hb.block _ (lt_get q3)).trans q3⟩
theorem Ck.new (h : Ck cb S w0 Ls w) (hb : Below w.heap.size w w') {k : Nat} {o : Obj} (hk : w.heap.size ≤ k) (ho : w'.heap[k]? = some o) : Ck cb S w0 ((k, o) :: Ls) w' := by
  obtain ⟨F, h1, h2, h3, h4⟩ := h
  refine ⟨F, h1.keep hb.size fun k hk => hb.block k (h1.tight k hk), h2, h3.trans (hb.mono h3.size), fun p hp => ?_⟩
  rcases List.mem_cons.1 hp with rfl | hp
  · refine ⟨Nat.le_trans h3.size hk, fun e => ?_, ho⟩
    have := h1.tight _ e
    dsimp only at this
    omega
  · obtain ⟨q1, q2, q3⟩ := h4 p hp
    exact ⟨q1, q2, (hb.block _ (lt_get q3)).trans q3⟩
theorem Ck.box (h : Ck cb S w0 Ls w) (C : Array Value) (t : TypeId) : Ck cb S w0 ((w.heap.size, .cells C t (0, 0)) :: Ls) (w.alloc (.cells C t)) := h.new ((Below.refl _ _).alloc (Nat.le_refl _) _) (Nat.le_refl _) (heap_alloc_new _ _)
theorem Ck.drew (h : Ck cb S w0 Ls w) : Ck cb S w0 Ls w.drew := h.below (Below.refl _ _).drew
theorem Ck.less (h : Ck cb S w0 Ls w) {Ls' : List (Nat × Obj)} (hL : ∀ p ∈ Ls', p ∈ Ls) : Ck cb S w0 Ls' w := by
  obtain ⟨F, h1, h2, h3, h4⟩ := h
  exact ⟨F, h1, h2, h3, fun p hp => h4 p (hL p hp)⟩
theorem Ck.tl (h : Ck cb S w0 Ls w) {p : Nat × Obj} {Ls' : List (Nat × Obj)} (hL : Ls = p :: Ls') : Ck cb S w0 Ls' w := h.less fun q hq => by rw [hL]; exact List.mem_cons_of_mem _ hq
/-- a variable of one's own is turned -/
theorem Ck.put (h : Ck cb S w0 Ls w) {k : Nat} {o : Obj} (hk : (k, o) ∈ Ls) (hO : Only (fun i => i = k) w w') (Ls' : List (Nat × Obj)) (hL : ∀ p ∈ Ls', (p.1 = k ∧ w'.heap[k]? = some p.2) ∨ (p ∈ Ls ∧ p.1 ≠ k)) : Ck cb S w0 Ls' w' := by
  obtain ⟨F, h1, h2, h3, h4⟩ := h
  obtain ⟨k1, k2, k3⟩ := h4 _ hk
  dsimp only at k1 k2 k3
  have hoth : ∀ i, i < w.heap.size → i ≠ k → w'.heap[i]? = w.heap[i]? := fun i hi hne => hO.block i hi hne
  refine ⟨F, h1.keep hO.size fun i hi => hoth i (h1.tight i hi) fun e => k2 (e ▸ hi), h2, h3.trans (hO.below h3.size fun i hi e => by omega), fun p hp => ?_⟩
  rcases hL p hp with ⟨e1, e2⟩ | ⟨hp, hne⟩
  · exact ⟨by omega, by rw [e1]; exact k2, by rw [e1]; exact e2⟩
  · obtain ⟨q1, q2, q3⟩ := h4 p hp
    exact ⟨q1, q2, (hoth _ (lt_get q3) hne).trans q3⟩
/-- the head of one's own variables: one cell is turned; no other one lies there -/
theorem Ck.set (h : Ck cb S w0 Ls w) {k j : Nat} {C : Array Value} {ty : TypeId} {v : Value} {Lr : List (Nat × Obj)} (hL : Ls = (k, Obj.cells C ty (0, 0)) :: Lr) (hne : ∀ p ∈ Lr, p.1 ≠ k) :
    Ck cb S w0 ((k, Obj.cells (C.setIfInBounds j v) ty (0, 0)) :: Lr) (w.setCell ⟨k, j, none⟩ v) := by
  subst hL
  have hk : (k, Obj.cells C ty (0, 0)) ∈ (k, Obj.cells C ty (0, 0)) :: Lr := List.mem_cons_self
  refine h.put hk (only_setCell _ _ _ rfl) _ fun p hp => ?_
  rcases List.mem_cons.1 hp with rfl | hp
  · exact Or.inl ⟨rfl, Go.heap_setCell_same w k j _ _ _ (h.get hk)⟩
  · exact Or.inr ⟨List.mem_cons_of_mem _ hp, hne p hp⟩
/-- no variable of one's own lies behind the memory -/
theorem Ck.fresh (h : Ck cb S w0 Ls w) : ∀ p ∈ Ls, p.1 ≠ w.heap.size := fun p hp e => by
  have := (h.ge (k := p.1) (o := p.2) hp).2
  omega
/-- the client itself is turned -/
theorem Ck.turn (h : Ck cb S w0 Ls w) (hT : ∀ F, Cl cb S w F → ∃ G, Cl cb T w' G ∧ Only F w w' ∧ ∀ k, G k → F k ∨ w.heap.size ≤ k) : Ck cb T w0 Ls w' := by
  obtain ⟨F, h1, h2, h3, h4⟩ := h
  obtain ⟨G, g1, g2, g3⟩ := hT F h1
  refine ⟨G, g1, fun k hk => (g3 k hk).elim (h2 k) fun e => Nat.le_trans h3.size e, h3.trans (g2.below h3.size fun k hk e => by have := h2 k e; omega), fun p hp => ?_⟩
  obtain ⟨q1, q2, q3⟩ := h4 p hp
  exact ⟨q1, fun e => (g3 _ e).elim q2 fun e => by have := lt_get q3; omega, (g2.block _ (lt_get q3) q2).trans q3⟩
/-- what of a client lies in other blocks -/
structure Alike (S T : Cs) : Prop where
  hm : T.hm = S.hm
  wm : T.wm = S.wm
  wk : T.wk = S.wk ∨ T.wk = none
  hn : T.hn = S.hn
  hold : T.hold = S.hold
  K : T.K = S.K
theorem Alike.refl (S : Cs) : Alike S S := ⟨rfl, rfl, Or.inl rfl, rfl, rfl, rfl⟩
theorem lc_ne {w : World} {b c : Nat} {C D : Array Value} {t u : TypeId} {f g : Nat × Nat} (h1 : w.heap[b]? = some (.cells C t f)) (h2 : w.heap[c]? = some (.cells D u g)) (hne : t ≠ u) : b ≠ c := fun e => by
  subst e
  rw [h1] at h2
  cases h2
  exact hne rfl
theorem row_ne {w : World} {b : Nat} {C : Array Value} {t : TypeId} {f : Nat × Nat} {B e s n : Nat} {v : Value} {xs : List Value} (h : w.ownsRow B e s v n xs) (hb : w.heap[b]? = some (.cells C t f)) (hne : e ≠ t) : ∀ r, v.ownBlock = some r → r ≠ b := fun r hr => by
  rcases h.2 with ⟨rfl, _⟩ | ⟨g, cap, cur, rfl, _, hg, _⟩
  · cases hr
  · cases hr
    exact lc_ne hg hb hne
theorem map_ne {w : World} {b m : Nat} {C : Array Value} {t : TypeId} {f : Nat × Nat} {es : Array MapEntry} {k : Nat} (h1 : w.heap[b]? = some (.cells C t f)) (h2 : w.heap[m]? = some (.map es k)) : m ≠ b := fun e => by
  subst e
  rw [h1] at h2
  cases h2
/-- cells of the client's own block are turned -/
theorem Cl.own {F : Nat → Prop} (h : Cl cb S w F) (hO : Only (fun k => k = cb) w w') (hc : w'.heap[cb]? = some (.cells (clC T) 62 (0, 0))) (hA : Alike S T) : Cl cb T w' F := by
  have hoth : ∀ k, F k → k ≠ cb → w'.heap[k]? = w.heap[k]? := fun k hk hne => hO.block k (h.tight k hk) hne
  refine ⟨hc, h.f, fun k hk => Nat.lt_of_lt_of_le (h.tight k hk) hO.size, fun m hm => ?_, fun m hm => ?_, fun b hb => ?_, fun m n hm hn => h.mne m n (by rw [← hA.hm]; exact hm) (by rw [← hA.wm]; exact hn)⟩
  · rw [hA.hm] at hm
    rw [hA.hn, hA.hold]
    have hH := h.hold m hm
    obtain ⟨D, hD, hDa⟩ := hH.own
    refine ⟨hH.f, ⟨D, map_keep hD (hoth m hH.f ?_), hDa⟩, fun i H hi => ⟨?_, (hH.at_ i H hi).2⟩, hH.ne⟩
    · obtain ⟨es, ck, he, _⟩ := hD
      exact map_ne h.obj he
    · obtain ⟨⟨a1, a2, a3, a4⟩, -⟩ := hH.at_ i H hi
      exact ⟨(hoth _ a2 (lc_ne a1 h.obj (by decide))).trans a1, a2, row_keep a3 fun k hk => hoth k (a4 k hk) (row_ne a3 h.obj (by decide) k hk), a4⟩
  · rw [hA.wm] at hm
    obtain ⟨a1, a2⟩ := h.want m hm
    refine ⟨a1, map_keep a2 (hoth m a1 ?_)⟩
    obtain ⟨es, ck, he, _⟩ := a2
    exact map_ne h.obj he
  · rw [hA.K]
    rcases hA.wk with e | e
    · rw [e] at hb
      obtain ⟨a1, a2, a3, a4⟩ := h.work b hb
      exact ⟨(hoth _ a2 (lc_ne a1 h.obj (by decide))).trans a1, a2, row_keep a3 fun k hk => hoth k (a4 k hk) (row_ne a3 h.obj (by decide) k hk), a4⟩
    · rw [e] at hb
      cases hb
theorem Ck.own (h : Ck cb S w0 Ls w) (hO : Only (fun k => k = cb) w w') (hc : w'.heap[cb]? = some (.cells (clC T) 62 (0, 0))) (hA : Alike S T) : Ck cb T w0 Ls w' :=
  h.turn fun F hF => ⟨F, hF.own hO hc hA, hO.mono fun k _ e => by subst e; exact hF.f, fun _ e => Or.inl e⟩
/-- one cell of the client -/
theorem Ck.st (h : Ck cb S w0 Ls w) {i : Nat} {v : Value} (hC : clC T = (clC S).setIfInBounds i v) (hA : Alike S T) : Ck cb T w0 Ls (w.setCell ⟨cb, i, none⟩ v) :=
  h.own (only_setCell _ _ _ rfl) (by rw [hC]; exact Go.heap_setCell_same w cb i _ _ _ h.obj) hA
theorem only_setCells (b : Nat) : ∀ (vs : List Value) (o : Nat) (w : World), Only (fun k => k = b) w (w.setCells b o vs)
  | [], _, w => Only.refl _ w
  | v :: r, o, w => by
    rw [World.setCells]
    exact (only_setCell (F := fun k => k = b) w ⟨b, o, none⟩ v rfl).trans (only_setCells b r (o + 1) _) fun _ _ e => e
/-- so many cells of the client -/
theorem Ck.sts (h : Ck cb S w0 Ls w) {o : Nat} {vs : List Value} (hC : clC T = putCells2 (clC S) o vs) (hA : Alike S T) : Ck cb T w0 Ls (w.setCells cb o vs) :=
  h.own (only_setCells cb vs o w) (by rw [hC]; exact setCells_heap2 cb _ vs o w _ h.obj) hA
/-- cells of the client are there -/
theorem Ck.there (h : Ck cb S w0 Ls w) (o n : Nat) (ho : o + n ≤ 75) : w.there cb o n := fun j hj => by
  refine ⟨?_, h.fz _⟩
  rw [h.cell, Array.getElem?_eq_getElem (show o + j < (clC S).size by show o + j < 75; omega)]
  rfl
theorem row_rangeK {b t : Nat} {C : Array Value} (h : w.heap[b]? = some (.cells C t (0, 0))) : w.rangeAt b 0 C.toList := fun j v hj => by
  rw [Nat.zero_add]
  exact (cell_of_row w b j _ _ _ h).trans (by simpa using hj)
end
end Go.Proofs.YtiinponoeaihcaaGreat

/- A client: numbers, inodes, what is told. -/
namespace Go.Proofs.YtiinponoeaihcaaGreat
open Go.RowKit Go.Shelf

attribute [local go_sem] Oper.semAt_some

theorem Ck.drewN {cb : Nat} {S : Cs} {w0 w : World} {Ls : List (Nat × Obj)} (h : Ck cb S w0 Ls w) (n : Nat) : Ck cb S w0 Ls (w.drewN n) := h.below (below_drewN (Below.refl _ _) n)
abbrev pC (cb : Nat) : Value := .pointer (some ⟨cb, 0, none⟩)
section
variable {cb : Nat} {S : Cs} {w0 : World} {Ls : List (Nat × Obj)}
set_option maxHeartbeats 4000000 in
set_option maxRecDepth 100000 in
theorem cid_any (w : World) (h : Ck cb S w0 Ls w) : Calls Tryz.prog 7 #[pC cb] w fun e w' => e = .returned (.int .i64 S.id) ∧ w' = w := by
  have c19 : w.cell? ⟨cb, 19, none⟩ = some (.int .i64 S.id) := h.cell 19
  go_enter Tryz.func7, Tryz.ntmps7
  go_wp2_with fail
  go_ret
  exact ⟨rfl, rfl⟩
set_option maxHeartbeats 4000000 in
set_option maxRecDepth 100000 in
theorem cbusy_any (w : World) (h : Ck cb S w0 Ls w) : Calls Tryz.prog 11 #[pC cb] w fun e w' => e = .returned (.bool S.wk.isSome) ∧ w' = w := by
  have c18 : w.cell? ⟨cb, 18, none⟩ = some (ptrV S.wk) := h.cell 18
  unfold ptrV at c18
  cases hk : S.wk with
  | none =>
    rw [hk] at c18
    dsimp only [Option.map_none] at c18
    go_enter Tryz.func11, Tryz.ntmps11
    go_wp2_with fail
    go_ret
    exact ⟨rfl, rfl⟩
  | some b =>
    rw [hk] at c18
    dsimp only [Option.map_some] at c18
    go_enter Tryz.func11, Tryz.ntmps11
    go_wp2_with fail
    go_ret
    exact ⟨rfl, rfl⟩
set_option maxHeartbeats 4000000 in
set_option maxRecDepth 100000 in
theorem cinode_any (fd : Int) (hf : I64 fd) (w : World) (h : Ck cb S w0 Ls w) : Calls Tryz.prog 53 #[pC cb, .int .i64 fd] w fun e w' => e = .returned (.int .i64 (if 0 ≤ fd ∧ fd < 8 then S.f fd.toNat else 0)) ∧ w' = w := by
  by_cases h1 : 0 ≤ fd ∧ fd < 8
  · rw [if_pos h1]
    obtain ⟨k, rfl⟩ : ∃ k : Nat, fd = k := ⟨fd.toNat, by omega⟩
    have hk : k < 8 := by omega
    have c0 : w.cell? ⟨cb, 8 + k, none⟩ = some (.int .i64 (S.f k)) := by
      rcases (by omega : k = 0 ∨ k = 1 ∨ k = 2 ∨ k = 3 ∨ k = 4 ∨ k = 5 ∨ k = 6 ∨ k = 7) with rfl | rfl | rfl | rfl | rfl | rfl | rfl | rfl
      · exact h.cell 8
      · exact h.cell 9
      · exact h.cell 10
      · exact h.cell 11
      · exact h.cell 12
      · exact h.cell 13
      · exact h.cell 14
      · exact h.cell 15
    have h2 : (k : Int) < 8 := by omega
    have h3 : (0 : Int) ≤ k := by omega
    clear h h1 hf
    go_enter Tryz.func53, Tryz.ntmps53
    go_wp2_with fail
    go_ret
    exact ⟨rfl, rfl⟩
  · rw [if_neg h1]
    by_cases h2 : fd < 0
    · go_enter Tryz.func53, Tryz.ntmps53
      go_wp2_with fail
      go_ret
      exact ⟨rfl, rfl⟩
    · have h3 : (8 : Int) ≤ fd := by omega
      clear h1
      go_enter Tryz.func53, Tryz.ntmps53
      go_wp2_with fail
      go_ret
      exact ⟨rfl, rfl⟩
set_option maxHeartbeats 4000000 in
set_option maxRecDepth 100000 in
theorem number_any (h0 : 0 ≤ S.life ∧ S.life < 1048576) (h1 : 0 ≤ S.cnt ∧ S.cnt ≤ 1000000) (w : World) (h : Ck cb S w0 Ls w) :
    Calls Tryz.prog 22 #[pC cb] w fun e w' => e = .returned (.int .i64 (S.life * 1048576 + (S.cnt + 1))) ∧ Ck cb { S with cnt := S.cnt + 1 } w0 Ls w' := by
  have c3 : w.cell? ⟨cb, 3, none⟩ = some (.int .i64 S.cnt) := h.cell 3
  have f3 := h.fz 3
  have H := Lib.hid h
  obtain ⟨h01, h02⟩ := h0
  obtain ⟨h11, h12⟩ := h1
  have hw1 : IntKind.i64.wrap (S.cnt + 1) = S.cnt + 1 := IntWalk.i64_in _ (by omega)
  have hw2 : IntKind.i64.wrap (S.life * 1048576) = S.life * 1048576 := IntWalk.i64_in _ (by omega)
  have hw3 : IntKind.i64.wrap (S.life * 1048576 + (S.cnt + 1)) = S.life * 1048576 + (S.cnt + 1) := IntWalk.i64_in _ (by omega)
  clear h
  go_enter Tryz.func22, Tryz.ntmps22
  go_upto_region 2 with fail
  obtain ⟨w1, hw⟩ : ∃ u, u = w.setCell ⟨cb, 3, none⟩ (.int .i64 (S.cnt + 1)) := ⟨_, rfl⟩
  rw [← hw]
  have H1 : Hid (Ck cb { S with cnt := S.cnt + 1 } w0 Ls w1) := Lib.hid (by rw [hw]; exact H.out.st rfl ⟨rfl, rfl, .inl rfl, rfl, rfl, rfl⟩)
  have c2' : w1.cell? ⟨cb, 2, none⟩ = some (.int .i64 S.life) := H1.out.cell 2
  have c3' : w1.cell? ⟨cb, 3, none⟩ = some (.int .i64 (S.cnt + 1)) := H1.out.cell 3
  clear hw c3 f3 H
  go_wp2
  go_quiet (fail)
  go_wp2
  go_ret
  exact ⟨rfl, H1.out.drewN _⟩
end
end Go.Proofs.YtiinponoeaihcaaGreat

/- A client: send. -/
namespace Go.Proofs.YtiinponoeaihcaaGreat
open Go.RowKit Go.Shelf

attribute [local go_sem] Oper.semAt_some
section
variable {cb : Nat} {S : Cs} {w0 : World} {Ls : List (Nat × Obj)}
theorem pk_one (p : Pk) (hp : p.nv.oneCell' = true) : (pkC p).toList.toArray.all (·.oneCell') = true := by
  rw [Array.toArray_toList, ← Array.all_toList]
  unfold pkC
  simp only [List.all_cons, List.all_nil, hp]
  rfl
theorem put_out (S : Cs) (q : Pk) : putCells2 (clC S) 20 (pkC q).toList.toArray.toList = clC { S with out := q } := by kernel_rfl
theorem pk_len (q : Pk) : (Tryz.prog.info? 41).map (fun i => i.size) = some (pkC q).toList.length := Tryz.sizePk
theorem pk_size (q : Pk) : (Tryz.prog.info? 41).map (fun i => i.size) = some (pkC q).toList.toArray.size := Tryz.sizePk
theorem laid_pk (q : Pk) : Array.foldl (fun cs (x : Value × Nat) => cs.setIfInBounds x.snd x.fst) #[.int .i64 0, .int .i64 0, .int .i64 0, .int .i64 0, .int .i64 0, .int .i64 0, .int .i64 0, .string ⟨#[]⟩, .int .i64 0, .int .i64 0, .int .i64 0, .string ⟨#[]⟩, .string ⟨#[]⟩, .int .i64 0, .int .i64 0, .int .i64 0, .int .i64 0, .string ⟨#[]⟩, .int .i64 0, .int .i64 0, .int .i64 0, .int .i64 0, .string ⟨#[]⟩, .slice none 0 0, .int .i64 0, .int .i64 0, .int .i64 0, .int .i64 0, .int .i64 0, .int .i64 0, .int .i64 0, .int .i64 0, .int .i64 0, .int .i64 0, .int .i64 0, .int .i64 0, .int .i64 0, .int .i64 0, .int .i64 0, .int .i64 0, .int .i64 0, .int .i64 0, .int .i64 0] (pkC q).zipIdx 0 43 = pkC q := by kernel_rfl
/-- the packet that is sent -/
def sentP (S : Cs) (p : Pk) : Pk := { p with cl := S.cl, ep := S.ep }
set_option maxHeartbeats 4000000 in
set_option maxRecDepth 100000 in
theorem csend_any (p : Pk) (hp : p.nv.oneCell' = true) (now : Int) (w : World) (h : Ck cb S w0 Ls w) :
    Calls Tryz.prog 50 #[pC cb, .agg (pkC p), .int .i64 now] w fun e w' => ∃ b, e = .returned (.slice (some ⟨b, 0, none⟩) 1 1) ∧ w.heap.size ≤ b ∧ w'.rangeAt b 0 (pkC (sentP S p)).toList ∧ Ck cb { S with out := sentP S p, waits := true, sent := now, asked := now } w0 Ls w' := by
  have H := Lib.hid h
  clear h
  go_enter Tryz.func50, Tryz.ntmps50
  go_upto_region 1 with fail
  obtain ⟨w1, hw⟩ : ∃ u, u = w.alloc (.cells (pkC p) 41) := ⟨_, rfl⟩
  obtain ⟨n0, hn⟩ : ∃ u, u = w.heap.size := ⟨_, rfl⟩
  rw [← hw, ← hn]
  have H1 : Hid (Ck cb S w0 ((n0, .cells (pkC p) 41 (0, 0)) :: Ls) w1) := Lib.hid (by rw [hw, hn]; exact H.out.box _ _)
  have c0 : w1.cell? ⟨cb, 0, none⟩ = some (.int .i64 S.cl) := H1.out.cell 0
  have c4 : w1.cell? ⟨cb, 4, none⟩ = some (.int .i64 S.ep) := H1.out.cell 4
  have hb := H1.out.get (k := n0) List.mem_cons_self
  have d1 : w1.cell? ⟨n0, 1, none⟩ = some (.int .i64 p.cl) := cell_of_row w1 n0 1 _ _ _ hb
  have d2 : w1.cell? ⟨n0, 2, none⟩ = some (.int .i64 p.ep) := cell_of_row w1 n0 2 _ _ _ hb
  have g1 := frozen_of_row w1 n0 1 _ _ hb
  have g2 := frozen_of_row w1 n0 2 _ _ hb
  have Hw := Lib.hid hw
  have Hn := Lib.hid hn
  clear hw hn hb
  go_region
  obtain ⟨w2, hw2⟩ : ∃ u, u = ((w1.setCell ⟨n0, 1, none⟩ (.int .i64 S.cl)).setCell ⟨n0, 2, none⟩ (.int .i64 S.ep)).drew := ⟨_, rfl⟩
  rw [← hw2]
  obtain ⟨q, hq⟩ : ∃ q, q = sentP S p := ⟨_, rfl⟩
  have H2 : Hid (Ck cb S w0 ((n0, .cells (pkC q) 41 (0, 0)) :: Ls) w2) := Lib.hid (by
    have hne : ∀ r ∈ Ls, r.1 ≠ n0 := fun r hr => by rw [Hn.out]; exact H.out.fresh r hr
    rw [hw2, hq]
    exact ((H1.out.set rfl hne).set rfl hne).drew)
  have Hge : Hid (w.heap.size ≤ n0 ∧ n0 < w2.heap.size) := Lib.hid ⟨by rw [Hn.out]; exact Nat.le_refl _, (H2.out.ge (k := n0) List.mem_cons_self).2⟩
  have hrg := row_rangeK (H2.out.get (k := n0) List.mem_cons_self)
  have hth : w2.there cb 20 (pkC q).toList.toArray.size := H2.out.there 20 43 (by omega)
  have Hq := Lib.hid hq
  have HNv : Hid (q.nv.oneCell' = true) := Lib.hid (by rw [hq]; exact hp)
  clear hw2 hq hp c0 c4 d1 d2 g1 g2 H1 H Hn Hw
  go_upto_region 3 with (first | (refine wpList_load_mid rfl 41 _ rfl n0 0 rfl (pkC q).toList _ hrg Tryz.underlying41 rfl (pk_len q) ?_) | (refine wpList_store_mid rfl 41 _ _ rfl cb 20 (pkC q).toList.toArray rfl rfl hth (pk_size q) (pk_one q HNv.out) ?_; generalize hwe : (World.setCells _ _ _ _) = we; have HE : Hid (Ck cb { S with out := q } w0 ((n0, .cells (pkC q) 41 (0, 0)) :: Ls) we) := Lib.hid (by rw [← hwe]; exact H2.out.sts (put_out S q).symm ⟨rfl, rfl, .inl rfl, rfl, rfl, rfl⟩); clear hwe hrg hth; have c63 : we.cell? ⟨cb, 63, none⟩ = some (.bool S.waits) := HE.out.cell 63; have c64 : we.cell? ⟨cb, 64, none⟩ = some (.int .i64 S.sent) := HE.out.cell 64; have c65 : we.cell? ⟨cb, 65, none⟩ = some (.int .i64 S.asked) := HE.out.cell 65; have g63 := HE.out.fz 63; have g64 := HE.out.fz 64; have g65 := HE.out.fz 65))
  obtain ⟨w4, hw4⟩ : ∃ u, u = ((we.setCell ⟨cb, 63, none⟩ (.bool true)).setCell ⟨cb, 64, none⟩ (.int .i64 now)).setCell ⟨cb, 65, none⟩ (.int .i64 now) := ⟨_, rfl⟩
  rw [← hw4]
  have H4 : Hid (Ck cb { S with out := q, waits := true, sent := now, asked := now } w0 ((n0, .cells (pkC q) 41 (0, 0)) :: Ls) w4) := Lib.hid (by
    rw [hw4]
    have a1 := HE.out.st (T := { S with out := q, waits := true }) (i := 63) (v := .bool true) rfl ⟨rfl, rfl, .inl rfl, rfl, rfl, rfl⟩
    have a2 := a1.st (T := { S with out := q, waits := true, sent := now }) (i := 64) (v := .int .i64 now) rfl ⟨rfl, rfl, .inl rfl, rfl, rfl, rfl⟩
    exact a2.st (T := { S with out := q, waits := true, sent := now, asked := now }) (i := 65) (v := .int .i64 now) rfl ⟨rfl, rfl, .inl rfl, rfl, rfl, rfl⟩)
  have hrg := row_rangeK (H4.out.get (k := n0) List.mem_cons_self)
  have hsz : (pkC q).size = 43 := rfl
  have HL : Hid (w.heap.size ≤ w4.heap.size) := Lib.hid (Nat.le_of_lt (Nat.lt_of_le_of_lt Hge.out.1 (H4.out.ge (k := n0) List.mem_cons_self).2))
  clear hw4 c63 c64 c65 g63 g64 g65 HE
  go_wp2_with (refine wpList_load_mid rfl 41 _ rfl n0 0 rfl (pkC q).toList _ hrg Tryz.underlying41 rfl (pk_len q) ?_)
  rw [laid_pk q]
  go_ret
  refine ⟨_, rfl, HL.out, ?_, ?_⟩
  · rw [← Hq.out]
    exact row_rangeK (heap_alloc_new w4 _)
  · rw [← Hq.out]
    exact (H4.out.tl rfl).below ((Below.refl _ _).alloc (Nat.le_refl _) _)
end
end Go.Proofs.YtiinponoeaihcaaGreat

/- A client: ask, verb, own, finish, fails, anew, Told; slices of numbers. -/
namespace Go.Proofs.YtiinponoeaihcaaGreat
open Go.RowKit Go.Shelf

attribute [local go_sem] Oper.semAt_some
/-- a packet is sent -/
def Sends (cb : Nat) (S : Cs) (p : Pk) (now : Int) (w0 : World) (Ls : List (Nat × Obj)) (e : Ending) (w' : World) : Prop :=
  ∃ b, e = .returned (.slice (some ⟨b, 0, none⟩) 1 1) ∧ w'.rangeAt b 0 (pkC (sentP S p)).toList ∧ Ck cb { S with out := sentP S p, waits := true, sent := now, asked := now } w0 Ls w'
def callP (op id ino ck : Int) (p1 p2 : ByteArray) (fl fd off n : Int) (d : ByteArray) : Pk := { kd := 3, sq := id, op := op, ino := ino, ck := ck, p1 := p1, p2 := p2, fl := fl, fd := fd, off := off, cn := n, cd := d }
section
variable {cb : Nat} {S : Cs} {w0 : World} {Ls : List (Nat × Obj)}
set_option maxHeartbeats 4000000 in
set_option maxRecDepth 100000 in
theorem cask_any (op id ino ck : Int) (p1 p2 : ByteArray) (fl fd off n : Int) (d : ByteArray) (now : Int) (w : World) (h : Ck cb S w0 Ls w) :
    Calls Tryz.prog 21 #[pC cb, .int .i64 op, .int .i64 id, .int .i64 ino, .agg #[.int .i64 ck, .string p1, .string p2, .int .i64 fl, .int .i64 fd, .int .i64 off, .int .i64 n, .string d], .int .i64 now] w (Sends cb S (callP op id ino ck p1 p2 fl fd off n d) now w0 Ls) := by
  have H := Lib.hid h
  clear h
  go_enter Tryz.func21, Tryz.ntmps21
  go_upto_region 1 with fail
  obtain ⟨w1, hw⟩ : ∃ u, u = w.alloc (.cells #[.int .i64 ck, .string p1, .string p2, .int .i64 fl, .int .i64 fd, .int .i64 off, .int .i64 n, .string d] 30) := ⟨_, rfl⟩
  obtain ⟨n0, hn⟩ : ∃ u, u = w.heap.size := ⟨_, rfl⟩
  rw [← hw, ← hn]
  have H1 : Hid (Ck cb S w0 ((n0, .cells #[.int .i64 ck, .string p1, .string p2, .int .i64 fl, .int .i64 fd, .int .i64 off, .int .i64 n, .string d] 30 (0, 0)) :: Ls) w1) := Lib.hid (by rw [hw, hn]; exact H.out.box _ _)
  have hb := H1.out.get (k := n0) List.mem_cons_self
  have d0 := cell_of_row w1 n0 0 _ _ _ hb
  have d1 := cell_of_row w1 n0 1 _ _ _ hb
  have d2 := cell_of_row w1 n0 2 _ _ _ hb
  have d3 := cell_of_row w1 n0 3 _ _ _ hb
  have d4 := cell_of_row w1 n0 4 _ _ _ hb
  have d5 := cell_of_row w1 n0 5 _ _ _ hb
  have d6 := cell_of_row w1 n0 6 _ _ _ hb
  have d7 := cell_of_row w1 n0 7 _ _ _ hb
  have HS := Lib.hid (csend_any (callP op id ino ck p1 p2 fl fd off n d) rfl now w1 H1.out)
  clear hw hn hb
  dsimp at d0 d1 d2 d3 d4 d5 d6 d7
  go_wp2_with (refine HS.out.mono ?_; rintro e w' ⟨b, rfl, hb1, hb2, hb3⟩; have HB := Lib.hid (And.intro hb2 hb3))
  go_ret
  exact ⟨b, rfl, HB.out.1, HB.out.2.tl rfl⟩
set_option maxHeartbeats 4000000 in
set_option maxRecDepth 100000 in
theorem cverb_any (p : Pk) (hp : p.nv.oneCell' = true) (now : Int) (h1 : 0 ≤ S.vs ∧ S.vs ≤ 1000000) (w : World) (h : Ck cb S w0 Ls w) :
    Calls Tryz.prog 58 #[pC cb, .agg (pkC p), .int .i64 now] w (Sends cb S { p with kd := 1, sq := S.vs + 1 } now w0 Ls) := by
  have H := Lib.hid h
  obtain ⟨h01, h02⟩ := h1
  have hw1 : IntKind.i64.wrap (S.vs + 1) = S.vs + 1 := IntWalk.i64_in _ (by omega)
  clear h
  go_enter Tryz.func58, Tryz.ntmps58
  go_upto_region 1 with fail
  obtain ⟨w1, hw⟩ : ∃ u, u = w.alloc (.cells (pkC p) 41) := ⟨_, rfl⟩
  obtain ⟨n0, hn⟩ : ∃ u, u = w.heap.size := ⟨_, rfl⟩
  rw [← hw, ← hn]
  have H1 : Hid (Ck cb S w0 ((n0, .cells (pkC p) 41 (0, 0)) :: Ls) w1) := Lib.hid (by rw [hw, hn]; exact H.out.box _ _)
  have c6 : w1.cell? ⟨cb, 6, none⟩ = some (.int .i64 S.vs) := H1.out.cell 6
  have hb := H1.out.get (k := n0) List.mem_cons_self
  have d0 : w1.cell? ⟨n0, 0, none⟩ = some (.int .i64 p.kd) := cell_of_row w1 n0 0 _ _ _ hb
  have d3 : w1.cell? ⟨n0, 3, none⟩ = some (.int .i64 p.sq) := cell_of_row w1 n0 3 _ _ _ hb
  have g0 := frozen_of_row w1 n0 0 _ _ hb
  have g3 := frozen_of_row w1 n0 3 _ _ hb
  have Hn := Lib.hid hn
  clear hw hn hb
  go_region
  obtain ⟨w2, hw2⟩ : ∃ u, u = ((w1.setCell ⟨n0, 0, none⟩ (.int .i64 1)).setCell ⟨n0, 3, none⟩ (.int .i64 (S.vs + 1))).drew := ⟨_, rfl⟩
  rw [← hw2]
  obtain ⟨q, hq⟩ : ∃ q, q = { p with kd := 1, sq := S.vs + 1 } := ⟨_, rfl⟩
  have H2 : Hid (Ck cb S w0 ((n0, .cells (pkC q) 41 (0, 0)) :: Ls) w2) := Lib.hid (by
    have hne : ∀ r ∈ Ls, r.1 ≠ n0 := fun r hr => by rw [Hn.out]; exact H.out.fresh r hr
    rw [hw2, hq]
    exact ((H1.out.set rfl hne).set rfl hne).drew)
  have hrg := row_rangeK (H2.out.get (k := n0) List.mem_cons_self)
  have HS := Lib.hid (csend_any q (by rw [hq]; exact hp) now w2 H2.out)
  have Hq := Lib.hid hq
  clear hw2 hq hp c6 d0 d3 g0 g3 H1 H Hn
  go_wp2_with (first | (refine wpList_load_mid rfl 41 _ rfl n0 0 rfl (pkC q).toList _ hrg Tryz.underlying41 rfl (pk_len q) ?_) | (refine HS.out.mono ?_; rintro e w' ⟨b, rfl, hb1, hb2, hb3⟩; have HB := Lib.hid (And.intro hb2 hb3)))
  go_ret
  rw [← Hq.out]
  exact ⟨b, rfl, HB.out.1, HB.out.2.tl rfl⟩
end
end Go.Proofs.YtiinponoeaihcaaGreat

/- A client: own, finish, fails, anew, log, Told. -/
namespace Go.Proofs.YtiinponoeaihcaaGreat
open Go.RowKit Go.Shelf

attribute [local go_sem] Oper.semAt_some
def ownS (S : Cs) : Cs := if S.id = 0 then { S with cnt := S.cnt + 1, id := S.life * 1048576 + (S.cnt + 1) } else S
section
variable {cb : Nat} {S : Cs} {w0 : World} {Ls : List (Nat × Obj)}
set_option maxHeartbeats 4000000 in
set_option maxRecDepth 100000 in
theorem cown_any (h0 : 0 ≤ S.life ∧ S.life < 1048576) (h1 : 0 ≤ S.cnt ∧ S.cnt ≤ 1000000) (w : World) (h : Ck cb S w0 Ls w) :
    Calls Tryz.prog 52 #[pC cb] w fun e w' => e = .returned (.int .i64 (ownS S).id) ∧ Ck cb (ownS S) w0 Ls w' := by
  have c19 : w.cell? ⟨cb, 19, none⟩ = some (.int .i64 S.id) := h.cell 19
  have HN := Lib.hid (number_any h0 h1 w h)
  have H := Lib.hid h
  by_cases hz : S.id = 0
  · have hS : ownS S = { S with cnt := S.cnt + 1, id := S.life * 1048576 + (S.cnt + 1) } := if_pos hz
    rw [hz] at c19
    rw [hS]
    clear h hS hz h0 h1
    go_enter Tryz.func52, Tryz.ntmps52
    go_upto_region 3 with ((with_reducible refine HN.out.mono ?_); rintro e w1 ⟨rfl, hk⟩; have HK := Lib.hid hk; have d19 : w1.cell? ⟨cb, 19, none⟩ = some (.int .i64 S.id) := hk.cell 19; have g19 := hk.fz 19; clear hk)
    obtain ⟨w2, hw⟩ : ∃ u, u = w1.setCell ⟨cb, 19, none⟩ (.int .i64 (S.life * 1048576 + (S.cnt + 1))) := ⟨_, rfl⟩
    rw [← hw]
    have H2 : Hid (Ck cb { S with cnt := S.cnt + 1, id := S.life * 1048576 + (S.cnt + 1) } w0 Ls w2) := Lib.hid (by rw [hw]; exact HK.out.st rfl ⟨rfl, rfl, .inl rfl, rfl, rfl, rfl⟩)
    have e19 : w2.cell? ⟨cb, 19, none⟩ = some (.int .i64 (S.life * 1048576 + (S.cnt + 1))) := H2.out.cell 19
    clear hw d19 g19 c19 HK H HN
    go_wp2_with fail
    go_ret
    exact ⟨rfl, H2.out⟩
  · have hS : ownS S = S := if_neg hz
    rw [hS]
    clear h hS h0 h1 HN
    go_enter Tryz.func52, Tryz.ntmps52
    go_wp2_with fail
    go_ret
    exact ⟨rfl, H.out⟩
/-- the call is answered -/
def finS (S : Cs) (te tf : Int) (td : ByteArray) (tn : Value) (tk tl ts : Int) : Cs := { S with wk := none, te := te, tf := tf, td := td, tn := tn, tk := tk, tl := tl, ts := ts, done := true }
set_option maxHeartbeats 4000000 in
set_option maxRecDepth 100000 in
theorem cfinish_any (te tf : Int) (td : ByteArray) (A : Option Addr) (m c : Nat) (tk tl ts : Int) (w : World) (h : Ck cb S w0 Ls w) :
    Calls Tryz.prog 74 #[pC cb, .agg #[.int .i64 te, .int .i64 tf, .string td, .slice A m c, .int .i64 tk, .int .i64 tl, .int .i64 ts]] w fun e w' => e = .returned (.tuple #[]) ∧ Ck cb (finS S te tf td (.slice A m c) tk tl ts) w0 Ls w' := by
  have H := Lib.hid h
  clear h
  go_enter Tryz.func74, Tryz.ntmps74
  go_upto_region 1 with fail
  obtain ⟨w1, hw⟩ : ∃ u, u = w.alloc (.cells #[.int .i64 te, .int .i64 tf, .string td, .slice A m c, .int .i64 tk, .int .i64 tl, .int .i64 ts] 35) := ⟨_, rfl⟩
  obtain ⟨n0, hn0⟩ : ∃ u, u = w.heap.size := ⟨_, rfl⟩
  rw [← hw, ← hn0]
  have H1 : Hid (Ck cb S w0 ((n0, .cells #[.int .i64 te, .int .i64 tf, .string td, .slice A m c, .int .i64 tk, .int .i64 tl, .int .i64 ts] 35 (0, 0)) :: Ls) w1) := Lib.hid (by rw [hw, hn0]; exact H.out.box _ _)
  have hb := H1.out.get (k := n0) List.mem_cons_self
  have d0 : w1.cell? ⟨n0, 0, none⟩ = some (.int .i64 te) := cell_of_row w1 n0 0 _ _ _ hb
  have d1 : w1.cell? ⟨n0, 1, none⟩ = some (.int .i64 tf) := cell_of_row w1 n0 1 _ _ _ hb
  have d2 : w1.cell? ⟨n0, 2, none⟩ = some (.string td) := cell_of_row w1 n0 2 _ _ _ hb
  have d3 : w1.cell? ⟨n0, 3, none⟩ = some (.slice A m c) := cell_of_row w1 n0 3 _ _ _ hb
  have d4 : w1.cell? ⟨n0, 4, none⟩ = some (.int .i64 tk) := cell_of_row w1 n0 4 _ _ _ hb
  have d5 : w1.cell? ⟨n0, 5, none⟩ = some (.int .i64 tl) := cell_of_row w1 n0 5 _ _ _ hb
  have d6 : w1.cell? ⟨n0, 6, none⟩ = some (.int .i64 ts) := cell_of_row w1 n0 6 _ _ _ hb
  have c18 : w1.cell? ⟨cb, 18, none⟩ = some (ptrV S.wk) := H1.out.cell 18
  have c67 : w1.cell? ⟨cb, 67, none⟩ = some (.int .i64 S.te) := H1.out.cell 67
  have c68 : w1.cell? ⟨cb, 68, none⟩ = some (.int .i64 S.tf) := H1.out.cell 68
  have c69 : w1.cell? ⟨cb, 69, none⟩ = some (.string S.td) := H1.out.cell 69
  have c70 : w1.cell? ⟨cb, 70, none⟩ = some S.tn := H1.out.cell 70
  have c71 : w1.cell? ⟨cb, 71, none⟩ = some (.int .i64 S.tk) := H1.out.cell 71
  have c72 : w1.cell? ⟨cb, 72, none⟩ = some (.int .i64 S.tl) := H1.out.cell 72
  have c73 : w1.cell? ⟨cb, 73, none⟩ = some (.int .i64 S.ts) := H1.out.cell 73
  have c74 : w1.cell? ⟨cb, 74, none⟩ = some (.bool S.done) := H1.out.cell 74
  have g := fun i => H1.out.fz i
  clear hw hn0 hb
  go_region
  have H3 : Hid (Ck cb (finS S te tf td (.slice A m c) tk tl ts) w0 Ls (((((((((w1.setCell ⟨cb, 18, none⟩ (.pointer none)).setCell ⟨cb, 67, none⟩ (.int .i64 te)).setCell ⟨cb, 68, none⟩ (.int .i64 tf)).setCell ⟨cb, 69, none⟩ (.string td)).setCell ⟨cb, 70, none⟩ (.slice A m c)).setCell ⟨cb, 71, none⟩ (.int .i64 tk)).setCell ⟨cb, 72, none⟩ (.int .i64 tl)).setCell ⟨cb, 73, none⟩ (.int .i64 ts)).setCell ⟨cb, 74, none⟩ (.bool true)).drew) := Lib.hid (by
    have a1 := H1.out.st (T := { S with wk := none }) (i := 18) (v := .pointer none) rfl ⟨rfl, rfl, .inr rfl, rfl, rfl, rfl⟩
    have a2 := a1.sts (T := { S with wk := none, te := te, tf := tf, td := td, tn := .slice A m c, tk := tk, tl := tl, ts := ts }) (o := 67) (vs := [.int .i64 te, .int .i64 tf, .string td, .slice A m c, .int .i64 tk, .int .i64 tl, .int .i64 ts]) (by kernel_rfl) ⟨rfl, rfl, .inl rfl, rfl, rfl, rfl⟩
    have a3 := a2.st (T := finS S te tf td (.slice A m c) tk tl ts) (i := 74) (v := .bool true) rfl ⟨rfl, rfl, .inl rfl, rfl, rfl, rfl⟩
    exact (a3.tl rfl).drew)
  clear c18 c67 c68 c69 c70 c71 c72 c73 c74 d0 d1 d2 d3 d4 d5 d6 g H1
  go_wp2
  go_end0
  exact ⟨rfl, H3.out⟩
set_option maxHeartbeats 4000000 in
set_option maxRecDepth 100000 in
theorem cfails_any (te : Int) (w : World) (h : Ck cb S w0 Ls w) :
    Calls Tryz.prog 49 #[pC cb, .int .i64 te] w fun e w' => e = .returned (.tuple #[]) ∧ Ck cb (finS S te 0 ⟨#[]⟩ (.slice none 0 0) 0 0 0) w0 Ls w' := by
  have HF := Lib.hid (cfinish_any te 0 ⟨#[]⟩ none 0 0 0 0 0 w h)
  clear h
  go_enter Tryz.func49, Tryz.ntmps49
  go_wp2_with (refine HF.out.mono ?_; rintro e w1 ⟨rfl, hk⟩; have HK := Lib.hid hk; clear hk)
  go_end0
  exact ⟨rfl, HK.out⟩
def anewS (S : Cs) (ep : Int) : Cs := { S with ep := ep, stale := false, vs := 0, tail := 0 }
set_option maxHeartbeats 4000000 in
set_option maxRecDepth 100000 in
theorem canew_any (ep : Int) (w : World) (h : Ck cb S w0 Ls w) :
    Calls Tryz.prog 43 #[pC cb, .int .i64 ep] w fun e w' => e = .returned (.tuple #[]) ∧ Ck cb (anewS S ep) w0 Ls w' := by
  have c4 : w.cell? ⟨cb, 4, none⟩ = some (.int .i64 S.ep) := h.cell 4
  have c5 : w.cell? ⟨cb, 5, none⟩ = some (.bool S.stale) := h.cell 5
  have c6 : w.cell? ⟨cb, 6, none⟩ = some (.int .i64 S.vs) := h.cell 6
  have c7 : w.cell? ⟨cb, 7, none⟩ = some (.int .i64 S.tail) := h.cell 7
  have g := fun i => h.fz i
  have H3 : Hid (Ck cb (anewS S ep) w0 Ls ((((w.setCell ⟨cb, 4, none⟩ (.int .i64 ep)).setCell ⟨cb, 5, none⟩ (.bool false)).setCell ⟨cb, 6, none⟩ (.int .i64 0)).setCell ⟨cb, 7, none⟩ (.int .i64 0))) := Lib.hid (h.sts (T := anewS S ep) (o := 4) (vs := [.int .i64 ep, .bool false, .int .i64 0, .int .i64 0]) (by kernel_rfl) ⟨rfl, rfl, .inl rfl, rfl, rfl, rfl⟩)
  clear h
  go_enter Tryz.func43, Tryz.ntmps43
  go_wp2_with fail
  go_end0
  exact ⟨rfl, H3.out⟩
theorem part_cells (k m : Int) : ∃ (q1 q2 a s : Int), ptO (Gd.ptAt k m) = .agg #[.int .i64 q1, .int .i64 q2, .int .i64 a, .int .i64 s] ∧ 0 ≤ a ∧ a ≤ 30000 := by
  cases h : Gd.ptAt k m with
  | none => exact ⟨0, 0, 0, 0, rfl, by omega, by omega⟩
  | some p =>
    rw [← Gd.findP_at] at h
    have hm := List.mem_of_find?_eq_some h
    have : ∀ p ∈ Gd.partsL, p.a ≤ 30000 := by decide +kernel
    have := this p hm
    exact ⟨p.k, p.n, p.a, p.s, rfl, by omega, by omega⟩
set_option maxHeartbeats 4000000 in
set_option maxRecDepth 100000 in
theorem clog_any (w : World) (h : Ck cb S w0 Ls w) :
    Calls Tryz.prog 59 #[pC cb] w fun e w' => ∃ a : Int, e = .returned (.int .i64 a) ∧ 0 ≤ a ∧ a ≤ 30000 ∧ Below w.heap.size w w' := by
  have c0 : w.cell? ⟨cb, 0, none⟩ = some (.int .i64 S.cl) := h.cell 0
  have HF := Lib.hid (find_any5 6 S.cl w)
  obtain ⟨q1, q2, a, s, hp, ha⟩ := part_cells 6 S.cl
  obtain ⟨is, his⟩ : ∃ is, is = (Gd.ptAt 6 S.cl).isSome := ⟨_, rfl⟩
  rw [hp, ← his] at HF
  have Ha := Lib.hid ha
  clear h hp his ha
  go_enter Tryz.func59, Tryz.ntmps59
  go_upto_region 2 with ((with_reducible refine HF.out.mono ?_); rintro e w1 ⟨rfl, hb⟩; have HB := Lib.hid hb; clear hb)
  obtain ⟨w2, hw⟩ : ∃ u, u = w1.alloc (.cells #[.int .i64 q1, .int .i64 q2, .int .i64 a, .int .i64 s] 107) := ⟨_, rfl⟩
  obtain ⟨n1, hn1⟩ : ∃ u, u = w1.heap.size := ⟨_, rfl⟩
  rw [← hw, ← hn1]
  have d2 : w2.cell? ⟨n1, 2, none⟩ = some (.int .i64 a) := by rw [hw, hn1]; exact cell_of_row _ _ 2 _ _ _ (heap_alloc_new w1 _)
  have HB2 : Hid (Below w.heap.size w w2) := Lib.hid (by rw [hw]; exact HB.out.alloc HB.out.size _)
  clear hw hn1 HB
  go_wp2_with fail
  go_ret
  exact ⟨a, rfl, Ha.out.1, Ha.out.2, HB2.out⟩
end
end Go.Proofs.YtiinponoeaihcaaGreat

/- A client: slices of numbers; free. -/
namespace Go.Proofs.YtiinponoeaihcaaGreat
open Go.RowKit Go.Shelf

attribute [local go_sem] Oper.semAt_some
section
variable {cb : Nat} {S : Cs} {w0 : World} {Ls : List (Nat × Obj)}
/-- slices of numbers -/
def NumsAt (w : World) (b o n : Nat) : Prop := b < w.heap.size ∧ ∀ j, j < n → ∃ x : Int, w.cell? ⟨b, o + j, none⟩ = some (.int .i64 x)
theorem NumsAt.keep {w w' : World} {b o n : Nat} (h : NumsAt w b o n) (hb : Below w.heap.size w w') : NumsAt w' b o n :=
  ⟨Nat.lt_of_lt_of_le h.1 hb.size, fun j hj => (h.2 j hj).imp fun x hx => (hb.cell (p := ⟨b, o + j, none⟩) h.1).trans hx⟩
set_option maxHeartbeats 4000000 in
set_option maxRecDepth 100000 in
theorem sindex_any (b o n c : Nat) (x : Int) (hn : n ≤ 1000) (w : World) (h : NumsAt w b o n) :
    Calls Tryz.prog 75 #[.slice (some ⟨b, o, none⟩) n c, .int .i64 x] w fun e w' => ∃ r : Int, e = .returned (.int .i64 r) ∧ -1 ≤ r ∧ r < n ∧ Below w.heap.size w w' := by
  have H := Lib.hid h
  clear h
  go_enter Tryz.func75, Tryz.ntmps75
  go_upto_region 2 with fail
  go_loopw [8] (fun z wr => ∃ i : Nat, z = .int .i64 i ∧ i ≤ n ∧ Hid (Below w.heap.size w wr)) (fun z _ => n - (intOf z).toNat)
  case atStart => exact ⟨0, rfl, by omega, Lib.hid (Below.refl _ _)⟩
  case round =>
    obtain ⟨i, rfl, hi, HB⟩ := hrel
    by_cases hlt : i < n
    · obtain ⟨y, hy⟩ := (H.out.keep HB.out).2 i hlt
      have h1 : (i : Int) < n := by omega
      by_cases he : x = y
      · subst he
        go_wp2_with fail
        go_ret
        exact ⟨_, rfl, by omega, h1, HB.out⟩
      · go_wp2_with fail
        go_roundw
        case rel => exact ⟨i + 1, by go_num, by omega, HB⟩
        case measure => simp [intOf]; omega
    · have h1 : ¬ (i : Int) < n := by omega
      go_wp2_with fail
      go_ret
      exact ⟨_, rfl, by omega, by omega, HB.out⟩
set_option maxHeartbeats 4000000 in
set_option maxRecDepth 100000 in
theorem scontains_any (b o n c : Nat) (x : Int) (hn : n ≤ 1000) (w : World) (h : NumsAt w b o n) :
    Calls Tryz.prog 55 #[.slice (some ⟨b, o, none⟩) n c, .int .i64 x] w fun e w' => ∃ q : Bool, e = .returned (.bool q) ∧ Below w.heap.size w w' := by
  have HI := Lib.hid (sindex_any b o n c x hn w h)
  clear h
  go_enter Tryz.func55, Tryz.ntmps55
  go_upto_region 1 with fail
  go_wp2_with ((with_reducible refine HI.out.mono ?_); rintro e w1 ⟨r, rfl, hr1, hr2, hb⟩; have HB := Lib.hid hb; clear hb hr1 hr2)
  go_ret
  exact ⟨_, rfl, HB.out⟩
set_option maxHeartbeats 4000000 in
set_option maxRecDepth 100000 in
theorem cfree_any (w : World) (h : Ck cb S w0 Ls w) :
    Calls Tryz.prog 51 #[pC cb] w fun e w' => ∃ (r : Int) (q : Bool), e = .returned (.tuple #[.int .i64 r, .bool q]) ∧ (q = true → 0 ≤ r ∧ r < 8) ∧ Below w.heap.size w w' := by
  have HI := Lib.hid (sindex_any cb 8 8 8 0 (by omega) w ⟨h.low.2, fun j hj => by
    rcases (by omega : j = 0 ∨ j = 1 ∨ j = 2 ∨ j = 3 ∨ j = 4 ∨ j = 5 ∨ j = 6 ∨ j = 7) with rfl | rfl | rfl | rfl | rfl | rfl | rfl | rfl
    · exact ⟨_, h.cell 8⟩
    · exact ⟨_, h.cell 9⟩
    · exact ⟨_, h.cell 10⟩
    · exact ⟨_, h.cell 11⟩
    · exact ⟨_, h.cell 12⟩
    · exact ⟨_, h.cell 13⟩
    · exact ⟨_, h.cell 14⟩
    · exact ⟨_, h.cell 15⟩⟩)
  clear h
  go_enter Tryz.func51, Tryz.ntmps51
  go_upto_region 2 with ((with_reducible refine HI.out.mono ?_); rintro e w1 ⟨r, rfl, hr1, hr2, hb⟩; have HB := Lib.hid hb; clear hb)
  have HR := Lib.hid (And.intro hr1 hr2)
  clear hr1 hr2
  go_wp2_with fail
  go_ret2
  refine ⟨r, _, rfl, fun hq => ?_, HB.out⟩
  have h1 : 0 ≤ r := by simpa using hq
  exact ⟨h1, by have := HR.out.2; omega⟩
end
end Go.Proofs.YtiinponoeaihcaaGreat
