/- The program's file system in memory: a struct, a block for each node, a map for each directory and one for the descriptors. -/
import Derived.Test.YtbpejjmfdhkfhaaGreatDoorPosRefD
import Derived.Test.YtbpejjmfdhkfhaaGreatDoorPosBase
import Derived.Maps.OwnSet
import Derived.Maps.RangeWalk
import Derived.DeepKeys4
set_option linter.unusedVariables false
set_option linter.unusedSimpArgs false
namespace Go.Proofs.YtbpejjmfdhkfhaaGreatDoor
open Go.RowKit
open Go.Maps (Keyed string_keyed)

/-- how a pointer reads, as an element of a map: its block's number -/
def ptrE : Value → Option (DataW Unit × List MemPlace)
  | .pointer none => some (.lit (.int .i64 (-1)), [])
  | .pointer (some ⟨b, 0, none⟩) => some (.lit (.int .i64 b), [])
  | _ => none
theorem ptrE_inv {v : Value} {y : DataW Unit × List MemPlace} (h : ptrE v = some y) : (v = .pointer none ∧ y.1 = .lit (.int .i64 (-1))) ∨ ∃ b : Nat, v = .pointer (some ⟨b, 0, none⟩) ∧ y.1 = .lit (.int .i64 b) := by
  unfold ptrE at h
  split at h
  · cases h; exact Or.inl ⟨rfl, rfl⟩
  · cases h; exact Or.inr ⟨_, rfl, rfl⟩
  · cases h

theorem lookup_nil {P : Program} {w : World} {ops : Array Oper} {rest : List Oper} {o : Oper} {a : Act} {Q : Exit → Act → World → Prop}
    (hg : o.guard = none) (m x : Operand) (t : TypeId) (hop : o.op = Op.lookup t m x false)
    (k e : TypeId) (K : Keyed P k) (ht : P.underlying t = some (.map k e)) (hz : (zeroValue e).run P w = .ok (.pointer none) w) (b n : Nat) (D : DataW Unit)
    (hm : a.eval m = .map (some b)) (hown : w.ownsMap P k ptrE b n D) (key : Value) (kl : Lit) (hx : a.eval x = key) (hkey : keyOf P k key = some kl)
    (hat : ∀ zd, D.atKey kl zd = zd) (hK : wpList P ops Q rest (a.put o.dst (.pointer none)) w) :
    wpList P ops Q (o :: rest) a w := by
  refine wpList_plain hg fun K' hK' => ?_
  obtain ⟨v, ps, hrun, hv⟩ := hown.lookup K ht hz (zd := .lit (.int .i64 (-1))) (zp := []) rfl hkey
  rw [hat] at hv
  obtain ⟨rfl, _⟩ | ⟨c, _, hc⟩ := ptrE_inv hv
  · unfold Oper.wp
    simp [execOp, hop, hm, hx, hrun, Result.andThen]
    exact hK' _ _ hK
  · simp at hc
theorem lookup_at {P : Program} {w : World} {ops : Array Oper} {rest : List Oper} {o : Oper} {a : Act} {Q : Exit → Act → World → Prop}
    (hg : o.guard = none) (m x : Operand) (t : TypeId) (hop : o.op = Op.lookup t m x false)
    (k e : TypeId) (K : Keyed P k) (ht : P.underlying t = some (.map k e)) (hz : (zeroValue e).run P w = .ok (.pointer none) w) (b n : Nat) (D : DataW Unit)
    (hm : a.eval m = .map (some b)) (hown : w.ownsMap P k ptrE b n D) (key : Value) (kl : Lit) (hx : a.eval x = key) (hkey : keyOf P k key = some kl)
    (bb : Nat) (hat : ∀ zd, D.atKey kl zd = .lit (.int .i64 bb)) (hK : wpList P ops Q rest (a.put o.dst (.pointer (some ⟨bb, 0, none⟩))) w) :
    wpList P ops Q (o :: rest) a w := by
  refine wpList_plain hg fun K' hK' => ?_
  obtain ⟨v, ps, hrun, hv⟩ := hown.lookup K ht hz (zd := .lit (.int .i64 (-1))) (zp := []) rfl hkey
  rw [hat] at hv
  obtain ⟨_, hc⟩ | ⟨c, rfl, hc⟩ := ptrE_inv hv
  · simp at hc
  · have hcb : bb = c := by simp at hc; omega
    subst hcb
    unfold Oper.wp
    simp [execOp, hop, hm, hx, hrun, Result.andThen]
    exact hK' _ _ hK

/-! the keys -/
theorem Tryz.strLaw : Keyed Tryz.prog 9 := string_keyed Tryz.underlying9
theorem Tryz.laidOut : laidOutB Tryz.prog = true := by kernel_rfl
theorem Tryz.keyRow : (67 : TypeId) < Tryz.prog.types.size := of_decide_eq_true (by kernel_rfl)
theorem Tryz.keyWide : (match Tryz.prog.underlying 67 with | some (.array _ _) | some (.struct _) => true | _ => false) = true := by kernel_rfl
set_option maxRecDepth 16384 in
theorem Tryz.keyLaw : Keyed Tryz.prog 67 := Keyed.of_law (deep_law_laid Tryz.laidOut (m := 2) (by omega) Tryz.keyRow (by kernel_rfl) Tryz.keyWide)
theorem Tryz.zeroP (w : World) : (zeroValue 62).run Tryz.prog w = .ok (.pointer none) w := by kernel_rfl
theorem Tryz.keyIs : Tryz.prog.keyType 67 = true := by kernel_rfl
theorem Tryz.keyCells : Tryz.prog.cellsOf 67 = 2 := by kernel_rfl
theorem Tryz.intCells : Tryz.prog.cellsOf 3 = 1 := by kernel_rfl

/-- a number that a 64 bit integer holds -/
def I64 (z : Int) : Prop := (Lit.int .i64 z).wf = true
/-- what a descriptor's key reads as -/
def keyL (c fd : Int) : Lit := .string (keyBytes [.int .i64 c, .int .i64 fd])
theorem key_read {c fd : Int} (hc : I64 c) (hf : I64 fd) : keyOf Tryz.prog 67 (.agg #[.int .i64 c, .int .i64 fd]) = some (keyL c fd) := by
  have hfo : (Value.agg #[.int .i64 c, .int .i64 fd]).formed Tryz.prog 67 = true := by
    simp [Value.formed, Tryz.underlying67, Tryz.keyCells]
  have hl : Tryz.prog.keyLits (Tryz.prog.types.size + 1) 67 [.int .i64 c, .int .i64 fd] = some [.int .i64 c, .int .i64 fd] := by
    obtain ⟨z, hz⟩ : ∃ z, Tryz.prog.types.size = z + 1 := Nat.exists_eq_succ_of_ne_zero (Nat.ne_of_gt (Nat.lt_of_le_of_lt (Nat.zero_le _) Tryz.keyRow))
    rw [hz]
    unfold I64 at hc hf
    simp [Program.keyLits, Tryz.underlying67, Tryz.keyCells, Tryz.underlying3, Tryz.intCells, hc, hf]
  unfold keyOf
  simp only [Tryz.underlying67, Tryz.keyIs, hfo, Bool.and_self, if_true]
  show Option.map _ (Tryz.prog.keyLits _ _ [.int .i64 c, .int .i64 fd]) = _
  rw [hl]
  rfl
theorem keyL_inj {c fd c' fd' : Int} (hc : I64 c) (hf : I64 fd) (hc' : I64 c') (hf' : I64 fd') (h : keyL c fd = keyL c' fd') : c = c' ∧ fd = fd' := by
  have := Tryz.keyLaw.inj (key_read hc hf) (h ▸ key_read hc' hf')
  simpa using this

end Go.Proofs.YtbpejjmfdhkfhaaGreatDoor

/- The program's file system in memory: what lies where. -/
namespace Go.Proofs.YtbpejjmfdhkfhaaGreatDoor
open Go.RowKit

/-- what the block of the library's greatest length holds: whatever it is, no call turns it -/
def XBox : Type := Option Obj

/-- a directory's map reads as its names -/
def MapE (D : DataW Unit) (β : Nat → Nat) (E : List Pz.En) (i : Nat) : Prop :=
  (∀ x zd, D.atKey (.string x) zd = if Pz.look E i x < 0 then zd else .lit (.int .i64 (β (Pz.look E i x).toNat))) ∧ Maps.size D = Pz.count E i
/-- the map of descriptors reads as they are -/
def MapO (D : DataW Unit) (β : Nat → Nat) (O : List Pz.Op) : Prop :=
  (∀ c fd zd, I64 c → I64 fd → D.atKey (keyL c fd) zd = if Pz.ofd O c fd < 0 then zd else .lit (.int .i64 (β (Pz.ofd O c fd).toNat))) ∧ Maps.size D = O.length
def maxB : Nat := 0
def theX [Inhabited XBox] : Option Obj := (default : XBox)
def MxX [Inhabited XBox] (w : World) : Prop := Mx w ∧ w.heap[maxB]? = theX
/-- the program's file system lies at r, its descriptors' map at bo, a node's block at β, a directory's map at μ -/
structure RealAt [Inhabited XBox] (w : World) (F : Nat → Prop) (r bo : Nat) (β μ : Nat → Nat) (S : Pz.Fil) : Prop where
  root : w.heap[r]? = some (.cells #[.pointer (some ⟨β 0, 0, none⟩), .map (some bo)] 65 (0, 0))
  node : ∀ n, n < S.N.length → w.heap[β n]? = some (.cells #[.string ⟨(Pz.nodeD S.N n).data.toArray⟩, .int .i64 (Pz.nodeD S.N n).links, .map (if Pz.isDir S.N n then some (μ n) else none)] 105 (0, 0))
  dirs : ∀ n, Pz.isDir S.N n = true → ∃ D, w.ownsMap Tryz.prog 9 ptrE (μ n) (Pz.count S.E n) D ∧ MapE D β S.E n
  opn : ∃ D, w.ownsMap Tryz.prog 67 ptrE bo S.O.length D ∧ MapO D β S.O
  bInj : ∀ n m, n < S.N.length → m < S.N.length → β n = β m → n = m
  mInj : ∀ n m, Pz.isDir S.N n = true → Pz.isDir S.N m = true → μ n = μ m → n = m
  mo : ∀ n, Pz.isDir S.N n = true → μ n ≠ bo
  fr : F r
  fo : F bo
  fb : ∀ n, n < S.N.length → F (β n)
  fm : ∀ n, Pz.isDir S.N n = true → F (μ n)
  fx : F maxB
  mx : MxX w
def RealF [Inhabited XBox] (r : Nat) (S : Pz.Fil) (w : World) (F : Nat → Prop) : Prop := ∃ bo β μ, RealAt w F r bo β μ S

theorem map_keep {P : Program} {k : TypeId} {R : Value → Option (DataW Unit × List MemPlace)} {w w' : World} {b n : Nat} {D : DataW Unit} (h : w.ownsMap P k R b n D) (hb : w'.heap[b]? = w.heap[b]?) : w'.ownsMap P k R b n D := by
  obtain ⟨es, clock, h1, h2⟩ := h
  exact ⟨es, clock, hb.trans h1, h2⟩
theorem cell_lt {w : World} {b j : Nat} {v : Value} (h : w.cell? ⟨b, j, none⟩ = some v) : b < w.heap.size := by
  rcases Nat.lt_or_ge b w.heap.size with hl | hl
  · exact hl
  · rw [World.cell?, show w.heap[(⟨b, j, none⟩ : Addr).block]? = none from Array.getElem?_eq_none hl] at h
    simp at h
theorem mx_lt {w : World} (h : Mx w) : maxB < w.heap.size := by
  obtain ⟨m, hm⟩ := h
  exact cell_lt (b := maxB) hm
theorem mx_keep [Inhabited XBox] {w w' : World} (h : MxX w) (hb : w'.heap[maxB]? = w.heap[maxB]?) : MxX w' := by
  obtain ⟨⟨m, hm⟩, hx⟩ := h
  exact ⟨⟨m, (World.cell?_of_block (w := w) (a := ⟨maxB, 0, none⟩) hb).trans hm⟩, hb.trans hx⟩
theorem lt_of_get {w : World} {k : Nat} {o : Obj} (h : w.heap[k]? = some o) : k < w.heap.size := (Array.getElem?_eq_some_iff.1 h).1
theorem isDir_lt {N : List Pz.Nd} {n : Nat} (h : Pz.isDir N n = true) : n < N.length := by
  unfold Pz.isDir at h
  split at h
  · rename_i x hx
    exact (List.getElem?_eq_some_iff.1 hx).1
  · cases h

theorem RealAt.held [Inhabited XBox] (r bo : Nat) (β μ : Nat → Nat) (S : Pz.Fil) : Held (fun w F => RealAt w F r bo β μ S) where
  keep := by
    intro w w' F h hs hb
    have e := fun k (hF : F k) (hl : k < w.heap.size) => hb k hl hF
    refine { h with
      root := (e r h.fr (lt_of_get h.root)).trans h.root
      node := fun n hn => (e _ (h.fb n hn) (lt_of_get (h.node n hn))).trans (h.node n hn)
      dirs := fun n hn => ?_
      opn := ?_
      mx := mx_keep h.mx (e _ h.fx (mx_lt h.mx.1)) }
    · obtain ⟨D, h1, h2⟩ := h.dirs n hn
      exact ⟨D, map_keep h1 (e _ (h.fm n hn) h1.lt), h2⟩
    · obtain ⟨D, h1, h2⟩ := h.opn
      exact ⟨D, map_keep h1 (e _ h.fo h1.lt), h2⟩
  mono := by
    intro w F G h hG
    exact { h with
      fr := hG _ (lt_of_get h.root) h.fr
      fo := by obtain ⟨D, h1, _⟩ := h.opn; exact hG _ h1.lt h.fo
      fb := fun n hn => hG _ (lt_of_get (h.node n hn)) (h.fb n hn)
      fm := fun n hn => by obtain ⟨D, h1, _⟩ := h.dirs n hn; exact hG _ h1.lt (h.fm n hn)
      fx := hG _ (mx_lt h.mx.1) h.fx }
theorem RealF.held [Inhabited XBox] (r : Nat) (S : Pz.Fil) : Held (RealF r S) where
  keep := by
    rintro w w' F ⟨bo, β, μ, h⟩ hs hb
    exact ⟨bo, β, μ, (RealAt.held r bo β μ S).keep h hs hb⟩
  mono := by
    rintro w F G ⟨bo, β, μ, h⟩ hG
    exact ⟨bo, β, μ, (RealAt.held r bo β μ S).mono h hG⟩

/-- the cells of the struct, and of a node -/
theorem RealAt.rc [Inhabited XBox] {w : World} {F : Nat → Prop} {r bo : Nat} {β μ : Nat → Nat} {S : Pz.Fil} (h : RealAt w F r bo β μ S) : w.cell? ⟨r, 0, none⟩ = some (.pointer (some ⟨β 0, 0, none⟩)) ∧ w.cell? ⟨r, 1, none⟩ = some (.map (some bo)) :=
  ⟨cell_of_row w r 0 _ _ _ h.root, cell_of_row w r 1 _ _ _ h.root⟩
theorem RealAt.nc [Inhabited XBox] {w : World} {F : Nat → Prop} {r bo n : Nat} {β μ : Nat → Nat} {S : Pz.Fil} (h : RealAt w F r bo β μ S) (hn : n < S.N.length) :
    w.cell? ⟨β n, 0, none⟩ = some (.string ⟨(Pz.nodeD S.N n).data.toArray⟩) ∧ w.cell? ⟨β n, 1, none⟩ = some (.int .i64 (Pz.nodeD S.N n).links) ∧ w.cell? ⟨β n, 2, none⟩ = some (.map (if Pz.isDir S.N n then some (μ n) else none)) ∧ w.frozen? ⟨β n, 0, none⟩ = false ∧ w.frozen? ⟨β n, 1, none⟩ = false :=
  ⟨cell_of_row w _ 0 _ _ _ (h.node n hn), cell_of_row w _ 1 _ _ _ (h.node n hn), cell_of_row w _ 2 _ _ _ (h.node n hn), frozen_of_row w _ 0 _ _ (h.node n hn), frozen_of_row w _ 1 _ _ (h.node n hn)⟩

set_option maxHeartbeats 1000000 in
set_option maxRecDepth 8192 in
theorem dir_q (b : Nat) (m : Option Nat) (w : World) (h : w.cell? ⟨b, 2, none⟩ = some (.map m)) :
    Calls Tryz.prog 55 #[.pointer (some ⟨b, 0, none⟩)] w fun e w' => e = .returned (.bool m.isSome) ∧ w = w' := by
  have hne := fun (W : World) (m : Option Nat) => run_neq_map_nil (P := Tryz.prog) W 103 _ _ m Tryz.underlying103
  cases m with
  | none =>
    go_enter Tryz.func55, Tryz.ntmps55
    go_wp2
    go_ret
    exact ⟨rfl, rfl⟩
  | some m =>
    go_enter Tryz.func55, Tryz.ntmps55
    go_wp2
    go_ret
    exact ⟨rfl, rfl⟩
theorem fdir_any [Inhabited XBox] (w : World) (F : Nat → Prop) (r bo n : Nat) (β μ : Nat → Nat) (S : Pz.Fil) (hn : n < S.N.length) (h : RealAt w F r bo β μ S) :
    Calls Tryz.prog 55 #[.pointer (some ⟨β n, 0, none⟩)] w fun e w' => e = .returned (.bool (Pz.isDir S.N n)) ∧ Below w.heap.size w w' := by
  refine (dir_q (β n) _ w (h.nc hn).2.2.1).mono fun e w' ⟨he, hw⟩ => ⟨?_, hw ▸ Below.refl _ _⟩
  rw [he]
  cases Pz.isDir S.N n <;> rfl

end Go.Proofs.YtbpejjmfdhkfhaaGreatDoor

/- Walks: the program's walk, find, place. -/
namespace Go.Proofs.YtbpejjmfdhkfhaaGreatDoor
open Go.RowKit


def toW (β : Nat → Nat) : Except Int Nat → Value
  | .ok n => .tuple #[.pointer (some ⟨β n, 0, none⟩), .int .i64 0]
  | .error e => .tuple #[.pointer none, .int .i64 e]
def toL (β : Nat → Nat) : Except Int (Nat × List UInt8) → Value
  | .ok (n, x) => .tuple #[.pointer (some ⟨β n, 0, none⟩), .string ⟨x.toArray⟩, .int .i64 0]
  | .error e => .tuple #[.pointer none, .string ⟨#[]⟩, .int .i64 e]

theorem look_keys {D : DataW Unit} {β : Nat → Nat} {E : List Pz.En} {i : Nat} (h : MapE D β E i) (x : List UInt8) :
    (Pz.look E i x < 0 → ∀ zd, D.atKey (.string x) zd = zd) ∧ (∀ k : Nat, Pz.look E i x = k → ∀ zd, D.atKey (.string x) zd = .lit (.int .i64 (β k))) := by
  refine ⟨fun hl zd => by rw [h.1, if_pos hl], fun k hk zd => ?_⟩
  rw [h.1, if_neg (by omega), hk, Int.toNat_natCast]
theorem str_read {s : ByteArray} (hs : s.size ≤ 1000000) : keyOf Tryz.prog 9 (.string s) = some (.string s.data.toList) := Go.WideMaps.keyOf_string_mk Tryz.underlying9 (by unfold maxLen; omega)

set_option maxHeartbeats 2000000 in
set_option maxRecDepth 8192 in
theorem fwalk_any [Inhabited XBox] (F : Nat → Prop) (r bo : Nat) (β μ : Nat → Nat) (S : Pz.Fil) (A : Option Addr) (L : List (List UInt8)) (c B' : Nat) (w : World) (hO : Pz.Ok S) (hL : L.length ≤ 1000000) (hx : ∀ x ∈ L, x.length ≤ 1000) (hR : RealAt w F r bo β μ S) (hS : Strs w B' A L) :
    Calls Tryz.prog 75 #[.pointer (some ⟨r, 0, none⟩), .slice A L.length c] w fun e w' => e = .returned (toW β (Pz.walk S 0 L)) ∧ Below w.heap.size w w' := by
  have HR := Lib.hid hR
  obtain ⟨hr0, _⟩ := hR.rc
  have HS := Lib.hid hS; clear hS
  have HXL := Lib.hid hx
  have hroot := hO.root
  have hlk := fun n x => Pz.look_lt (n := S.N.length) (i := n) (x := x) hO.ent
  have HLK := Lib.hid hlk
  obtain ⟨q, hq⟩ : ∃ q, q = S.N.length := ⟨_, rfl⟩
  rw [← hq] at hroot
  have Hq := Lib.hid hq
  clear hO hlk hq hx hR
  obtain ⟨n, hn⟩ : ∃ n, n = L.length := ⟨_, rfl⟩
  rw [← hn] at hL ⊢
  have Hn := Lib.hid hn; clear hn
  obtain ⟨R, hRv⟩ : ∃ R, R = Pz.walk S 0 L := ⟨_, rfl⟩
  rw [← hRv]
  have HV := Lib.hid hRv; clear hRv
  go_enter Tryz.func75, Tryz.ntmps75
  go_wp2
  go_loopw [6, 16] (fun u v wr => ∃ k m : Nat, k ≤ n ∧ m < q ∧ v = .int .i64 k ∧ u = .pointer (some ⟨β m, 0, none⟩) ∧ Hid (R = Pz.walk S m (L.drop k)) ∧ Below w.heap.size w wr) (fun _ v _ => n - (intOf v).toNat)
  case atStart => exact ⟨0, 0, by omega, hroot, rfl, rfl, HV.out, Below.refl _ _⟩
  case round =>
    obtain ⟨k, m, hkn, hm, rfl, rfl, hok, hbw⟩ := hrel
    have HRr := Lib.hid ((RealAt.held r bo β μ S).below HR.out hbw)
    by_cases hlt2 : k < n
    · obtain ⟨x, hx⟩ : ∃ x, L[k]? = some x := ⟨_, List.getElem?_eq_getElem (by have := Hn.out; omega)⟩
      have hxl := HXL.out x (List.mem_of_getElem? hx)
      have hst := walk_cons (S := S) (n := m) hx
      rw [← hok.out] at hst
      have hcx : ∃ b o, A = some ⟨b, o, none⟩ ∧ wr.cell? ⟨b, o + k, none⟩ = some (.string ⟨x.toArray⟩) := by
        rcases HS.out with h | ⟨b, o, h1, _, h3, h4, _⟩
        · rw [h] at hx; cases hx
        · exact ⟨b, o, h1, (hbw.cell (p := ⟨b, o + k, none⟩) h3).trans (h4 k x hx)⟩
      obtain ⟨b2, o2, rfl, hcx⟩ := hcx
      have hlq := HLK.out m x
      have hlg := Pz.look_ge (E := S.E) (i := m) (x := x)
      rw [← Hq.out] at hlq
      have HDr := Lib.hid fun W (h : RealAt W F r bo β μ S) => fdir_any W F r bo m β μ S (by have := Hq.out; omega) h
      obtain ⟨xs, hxs⟩ : ∃ xs : ByteArray, xs = ⟨x.toArray⟩ := ⟨_, rfl⟩
      rw [← hxs] at hcx
      have hkey : keyOf Tryz.prog 9 (.string xs) = some (.string x) := by
        have := str_read (s := xs) (by rw [hxs, Lib.size_eq]; show x.length ≤ _; omega)
        rwa [show xs.data.toList = x by rw [hxs]] at this
      have HKey := Lib.hid hkey
      have hk1 : (0 : Int) ≤ k := by omega
      have hk2 : (k : Int) < n := by omega
      clear hx hxs hkey
      cases hd : Pz.isDir S.N m with
      | false =>
        rw [hd] at hst
        have Hst := Lib.hid hst
        rw [hd] at HDr
        clear hst hd
        go_wp2_with fail
        refine (HDr.out _ HRr.out).mono ?_
        rintro e w1 ⟨rfl, hb1⟩
        have HB := Lib.hid (hbw.trans (hb1.mono hbw.size))
        clear hb1
        go_wp2
        go_ret2
        exact ⟨ret_of (by rw [Hst.out]; rfl), HB.out⟩
      | true =>
        obtain ⟨D, hown, hme⟩ := HR.out.dirs m hd
        rw [hd] at hst HDr
        obtain ⟨hk3, hk4⟩ := look_keys hme x
        by_cases hz0 : Pz.look S.E m x < 0
        · rw [if_pos rfl, if_pos hz0] at hst
          have Hst := Lib.hid hst
          have Hat := Lib.hid (hk3 hz0)
          have HOwn := Lib.hid hown
          have hFm := HR.out.fm m hd
          have Hd := Lib.hid hd
          clear hst hk3 hk4 hlq hlg hme hown hz0 hd hFm
          go_wp2_with fail
          refine (HDr.out _ HRr.out).mono ?_
          rintro e w1 ⟨rfl, hb1⟩
          have HR1 := Lib.hid ((RealAt.held r bo β μ S).below HRr.out hb1)
          have HB := Lib.hid (hbw.trans (hb1.mono hbw.size))
          obtain ⟨_, _, hc2, _⟩ := HR1.out.nc (show m < S.N.length by have := Hq.out; omega)
          rw [Hd.out, if_pos rfl] at hc2
          have ho1 := map_keep HOwn.out (HB.out.block _ HOwn.out.lt)
          clear hb1
          go_wp2_with (at_lookup; refine lookup_nil rfl _ _ 103 rfl 9 62 Tryz.strLaw Tryz.underlying103 (Tryz.zeroP _) _ _ D rfl ho1 _ _ rfl HKey.out Hat.out ?_)
          go_ret2
          exact ⟨ret_of (by rw [Hst.out]; rfl), HB.out⟩
        · obtain ⟨z, hz⟩ : ∃ z : Nat, Pz.look S.E m x = z := ⟨(Pz.look S.E m x).toNat, by omega⟩
          rw [if_pos rfl, if_neg hz0, hz, Int.toNat_natCast] at hst
          have Hst := Lib.hid hst
          have Hat := Lib.hid (hk4 z hz)
          have HOwn := Lib.hid hown
          have Hd := Lib.hid hd
          have hzq : z < q := by omega
          clear hst hk3 hk4 hlq hlg hme hown hz0 hd hz
          go_wp2_with fail
          refine (HDr.out _ HRr.out).mono ?_
          rintro e w1 ⟨rfl, hb1⟩
          have HR1 := Lib.hid ((RealAt.held r bo β μ S).below HRr.out hb1)
          have HB := Lib.hid (hbw.trans (hb1.mono hbw.size))
          obtain ⟨_, _, hc2, _⟩ := HR1.out.nc (show m < S.N.length by have := Hq.out; omega)
          rw [Hd.out, if_pos rfl] at hc2
          have ho1 := map_keep HOwn.out (HB.out.block _ HOwn.out.lt)
          clear hb1
          go_wp2_with (at_lookup; refine lookup_at rfl _ _ 103 rfl 9 62 Tryz.strLaw Tryz.underlying103 (Tryz.zeroP _) _ _ D rfl ho1 _ _ rfl HKey.out (β z) Hat.out ?_)
          go_roundw
          case rel => exact ⟨k + 1, z, by omega, hzq, by go_num, rfl, Hst.out, HB.out⟩
          case measure => simp [intOf]; omega
    · have hk2 : (n : Int) ≤ k := by omega
      go_wp2
      go_ret2
      refine ⟨ret_of ?_, hbw⟩
      have := hok.out
      rw [List.drop_of_length_le (by have := Hn.out; omega), Pz.walk] at this
      rw [this]; rfl

end Go.Proofs.YtbpejjmfdhkfhaaGreatDoor
