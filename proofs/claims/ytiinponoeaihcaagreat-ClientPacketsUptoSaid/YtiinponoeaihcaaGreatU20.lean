/- commonsref07.Same: any two packets are held against each other. -/
import Derived.Test.YtiinponoeaihcaaGreatU18
import Derived.Test.YtiinponoeaihcaaGreatU03
import Derived.Test.YtiinponoeaihcaaGreatU19
set_option linter.unusedVariables false
set_option linter.unusedSimpArgs false
set_option linter.unusedSectionVars false
namespace Go.Proofs.YtiinponoeaihcaaGreat
open Go.RowKit Go.Shelf

attribute [local go_sem] Oper.semAt_some
/-- numbers that a machine has, texts that it may have -/
structure PkW (p : Pk) : Prop where
  kd : I64 p.kd
  cl : I64 p.cl
  ep : I64 p.ep
  sq : I64 p.sq
  op : I64 p.op
  at_ : I64 p.at_
  n : I64 p.n
  old : I64 p.old
  new : I64 p.new
  ck : I64 p.ck
  fl : I64 p.fl
  fd : I64 p.fd
  off : I64 p.off
  cn : I64 p.cn
  ino : I64 p.ino
  er : I64 p.er
  re : I64 p.re
  rfd : I64 p.rfd
  ik : I64 p.ik
  il : I64 p.il
  isz : I64 p.isz
  wr : I64 p.wr
  nk : I64 p.nk
  nl : I64 p.nl
  ns : I64 p.ns
  b0 : I64 p.b0
  b1 : I64 p.b1
  b2 : I64 p.b2
  b3 : I64 p.b3
  o0 : I64 p.o0
  o1 : I64 p.o1
  o2 : I64 p.o2
  o3 : I64 p.o3
  o4 : I64 p.o4
  o5 : I64 p.o5
  o6 : I64 p.o6
  o7 : I64 p.o7
  d : p.d.size ≤ 1100000
  p1 : p.p1.size ≤ 1100000
  p2 : p.p2.size ≤ 1100000
  cd : p.cd.size ≤ 1100000
  rd : p.rd.size ≤ 1100000
theorem wpList_bin_guarded {P : Program} {ops : Array Oper} {rest : List Oper} {op : Oper} {a : Act} {w : World} {Q : Exit → Act → World → Prop} (i : Nat) (bo : Bool) (hgd : op.guard = some (i, bo)) (hw : Region.wanted op (yielded ops a.tmps) = true) (o : BinOp) (t ty : TypeId) (x y : Operand) (ho : op.op = .binOp o t x y ty) (u v r : Value) (hx : a.eval x = u) (hy : a.eval y = v)
    (hq : (eqGuard o t x y u v).run P w = .ok () w) (hr : (binOp o t u v).run P w = .ok r w) (h : wpList P ops Q rest (a.put op.dst r) w) : wpList P ops Q (op :: rest) a w :=
  wpList_step fun K hK => by
    rw [if_pos hw]
    unfold Oper.wp execOp
    simp only [ho, hx, hy, Sem.run_bind, Sem.run_pure, hq, hr, Result.andThen_ok]
    exact hK _ _ h
theorem wpList_load_at {P : Program} {ops : Array Oper} {rest : List Oper} {op : Oper} {a : Act} {w : World} {Q : Exit → Act → World → Prop} (hgd : op.guard = none) (ty : TypeId) (x : Operand) (ho : op.op = .load ty x) (p v : Value) (hx : a.eval x = p)
    (hr : (Instr.loadAt ty p).run P w = .ok v w) (h : wpList P ops Q rest (a.put op.dst v) w) : wpList P ops Q (op :: rest) a w :=
  wpList_plain hgd fun K hK => by
    unfold Oper.wp execOp
    simp only [ho, hx, Sem.run_bind, Sem.run_pure, hr, Result.andThen_ok]
    exact hK _ _ h
theorem agg_eql3 {t : TypeId} (hk : Tryz.prog.keyTypeAt 3 t = true) {cs ds : Array Value} {lx ly : List Lit} (fx : (Value.agg cs).formed Tryz.prog t = true) (fy : (Value.agg ds).formed Tryz.prog t = true) (kx : Tryz.prog.keyLits 3 t cs.toList = some lx) (ky : Tryz.prog.keyLits 3 t ds.toList = some ly) :
    ∃ r : Bool, (∀ w, (binOp .eql t (.agg cs) (.agg ds)).run Tryz.prog w = .ok (.bool r) w) ∧ (cs = ds → r = true) := by
  haveI : Decidable (lx = ly) := Classical.propDecidable _
  refine ⟨decide (lx = ly), fun w => ?_, fun e => ?_⟩
  · obtain ⟨r, hr, hiff⟩ := run_equalIn_deep (P := Tryz.prog) 9997 3 t hk w 3 3 (.agg cs) (.agg ds) lx ly fx fy kx ky
    have hd : r = decide (lx = ly) := by rw [Bool.eq_iff_iff, hiff, decide_eq_true_iff]
    have hr2 : (Op.equal t (.agg cs) (.agg ds)).run Tryz.prog w = .ok r w := hr
    rw [← hd]
    simp [binOp, hr2]
  · subst e
    rw [kx] at ky
    exact decide_eq_true (Option.some.inj ky)
theorem agg_guard {t : TypeId} (h : Tryz.prog.eqGuardType Tryz.prog.depth t = false) (o : BinOp) (x y : Operand) (cs ds : Array Value) (w : World) : (eqGuard o t x y (.agg cs) (.agg ds)).run Tryz.prog w = .ok () w := by
  have hp : ∀ w : World, (Sem.program Sem.pure : Sem Program).run Tryz.prog w = .ok Tryz.prog w := fun _ => rfl
  simp only [eqGuard]
  cases o <;> simp [program, hp, h]
theorem Tryz.cellsS : Tryz.prog.cellsOf 9 = 1 := by kernel_rfl
theorem str_key2 {s : ByteArray} (h : s.size ≤ 1100000) : Tryz.prog.keyLits 2 9 [.string s] = some [.string s.data.toList] := by
  unfold Program.keyLits
  have h2 : s.size ≤ maxLen := by unfold maxLen; omega
  simp [Tryz.underlying9, h2]
def callA (p : Pk) : Array Value := #[.int .i64 p.ck, .string p.p1, .string p.p2, .int .i64 p.fl, .int .i64 p.fd, .int .i64 p.off, .int .i64 p.cn, .string p.cd]
def nodeA (p : Pk) : Array Value := #[.int .i64 p.nk, .int .i64 p.nl, .int .i64 p.ns, .int .i64 p.b0, .int .i64 p.b1, .int .i64 p.b2, .int .i64 p.b3, .int .i64 p.o0, .int .i64 p.o1, .int .i64 p.o2, .int .i64 p.o3, .int .i64 p.o4, .int .i64 p.o5, .int .i64 p.o6, .int .i64 p.o7]
def infoA (p : Pk) : Array Value := #[.int .i64 p.ik, .int .i64 p.il, .int .i64 p.isz]
def nodeI (p : Pk) : Gd.Ino := ⟨p.nk, p.nl, p.ns, [p.b0, p.b1, p.b2, p.b3], [p.o0, p.o1, p.o2, p.o3, p.o4, p.o5, p.o6, p.o7]⟩
set_option maxRecDepth 100000 in
theorem callA_lits {p : Pk} (h : PkW p) : Tryz.prog.keyLits 3 30 (callA p).toList = some [.int .i64 p.ck, .string p.p1.data.toList, .string p.p2.data.toList, .int .i64 p.fl, .int .i64 p.fd, .int .i64 p.off, .int .i64 p.cn, .string p.cd.data.toList] := by
  have hc : (callA p).toList.length = Tryz.prog.cellsOf 30 := by
    show 8 = _
    kernel_rfl
  unfold Program.keyLits
  rw [Tryz.underlying30]
  simp only [hc, true_and]
  rw [if_pos (by kernel_rfl)]
  simp only [callA, List.mapM_cons, List.mapM_nil, Tryz.cells1, Tryz.cellsS, List.drop_zero, List.drop_succ_cons, List.take_succ_cons, List.take_zero, int_key2 h.ck, str_key2 h.p1, str_key2 h.p2, int_key2 h.fl, int_key2 h.fd, int_key2 h.off, int_key2 h.cn, str_key2 h.cd]
  rfl
set_option maxRecDepth 100000 in
theorem infoA_lits {p : Pk} (h : PkW p) : Tryz.prog.keyLits 3 33 (infoA p).toList = some [.int .i64 p.ik, .int .i64 p.il, .int .i64 p.isz] := by
  have hc : (infoA p).toList.length = Tryz.prog.cellsOf 33 := by
    show 3 = _
    kernel_rfl
  unfold Program.keyLits
  rw [Tryz.underlying33]
  simp only [hc, true_and]
  rw [if_pos (by kernel_rfl)]
  simp only [infoA, List.mapM_cons, List.mapM_nil, Tryz.cells1, List.drop_zero, List.drop_succ_cons, List.take_succ_cons, List.take_zero, int_key2 h.ik, int_key2 h.il, int_key2 h.isz]
  rfl
theorem nodeA_all {p : Pk} (h : PkW p) : AllI (inoL (nodeI p)) := fun n hn => by
  simp [inoL, nodeI] at hn
  rcases hn with rfl | rfl | rfl | rfl | rfl | rfl | rfl | rfl | rfl | rfl | rfl | rfl | rfl | rfl | rfl
  · exact h.nk
  · exact h.nl
  · exact h.ns
  · exact h.b0
  · exact h.b1
  · exact h.b2
  · exact h.b3
  · exact h.o0
  · exact h.o1
  · exact h.o2
  · exact h.o3
  · exact h.o4
  · exact h.o5
  · exact h.o6
  · exact h.o7
set_option maxRecDepth 100000 in
theorem nodeA_eql {p q : Pk} (h : PkW p) (h' : PkW q) : ∃ r : Bool, (∀ w, (binOp .eql 39 (.agg (nodeA p)) (.agg (nodeA q))).run Tryz.prog w = .ok (.bool r) w) ∧ (nodeA p = nodeA q → r = true) := by
  have hs : ∀ p, (nodeI p).Shape := fun p => ⟨rfl, rfl⟩
  have hv : ∀ p, inoV (nodeI p) = .agg (nodeA p) := fun p => rfl
  exact agg_eql3 Tryz.inoKey (by have := ino_formed (hs p); rwa [hv] at this) (by have := ino_formed (hs q); rwa [hv] at this) (ino_lits (hs p) (nodeA_all h)) (ino_lits (hs q) (nodeA_all h'))
set_option maxRecDepth 100000 in
theorem callA_eql {p q : Pk} (h : PkW p) (h' : PkW q) : ∃ r : Bool, (∀ w, (binOp .eql 30 (.agg (callA p)) (.agg (callA q))).run Tryz.prog w = .ok (.bool r) w) ∧ (callA p = callA q → r = true) := by
  have hf : ∀ p, (Value.agg (callA p)).formed Tryz.prog 30 = true := fun p => by
    unfold Value.formed
    rw [Tryz.underlying30]
    kernel_rfl
  exact agg_eql3 (by kernel_rfl) (hf p) (hf q) (callA_lits h) (callA_lits h')
set_option maxRecDepth 100000 in
theorem infoA_eql {p q : Pk} (h : PkW p) (h' : PkW q) : ∃ r : Bool, (∀ w, (binOp .eql 33 (.agg (infoA p)) (.agg (infoA q))).run Tryz.prog w = .ok (.bool r) w) ∧ (infoA p = infoA q → r = true) := by
  have hf : ∀ p, (Value.agg (infoA p)).formed Tryz.prog 33 = true := fun p => by
    unfold Value.formed
    rw [Tryz.underlying33]
    kernel_rfl
  exact agg_eql3 (by kernel_rfl) (hf p) (hf q) (infoA_lits h) (infoA_lits h')
theorem Tryz.gCall : Tryz.prog.eqGuardType Tryz.prog.depth 30 = false := by kernel_rfl
theorem Tryz.gInfo : Tryz.prog.eqGuardType Tryz.prog.depth 33 = false := by kernel_rfl
/-- Same tells something, and that a packet is itself -/
def SameB (p q : Pk) (w : World) (e : Ending) (w' : World) : Prop := ∃ r : Bool, e = .returned (.bool r) ∧ (p = q → r = true) ∧ Below w.heap.size w w'

abbrev pt (n k : Nat) : Value := .pointer (some ⟨n, k, none⟩)
theorem faP0 (n : Nat) (w : World) : (Ob.fld 41 (pt n 0) 0 (pt n 0)).Holds Tryz.prog w := by simp [Ob.Holds, go_sem, Tryz.underlying41]
theorem faP1 (n : Nat) (w : World) : (Ob.fld 41 (pt n 0) 1 (pt n 1)).Holds Tryz.prog w := by simp [Ob.Holds, go_sem, Tryz.underlying41]
theorem faP2 (n : Nat) (w : World) : (Ob.fld 41 (pt n 0) 2 (pt n 2)).Holds Tryz.prog w := by simp [Ob.Holds, go_sem, Tryz.underlying41]
theorem faP3 (n : Nat) (w : World) : (Ob.fld 41 (pt n 0) 3 (pt n 3)).Holds Tryz.prog w := by simp [Ob.Holds, go_sem, Tryz.underlying41]
theorem faP4 (n : Nat) (w : World) : (Ob.fld 41 (pt n 0) 4 (pt n 4)).Holds Tryz.prog w := by simp [Ob.Holds, go_sem, Tryz.underlying41]
theorem faP5 (n : Nat) (w : World) : (Ob.fld 41 (pt n 0) 5 (pt n 5)).Holds Tryz.prog w := by simp [Ob.Holds, go_sem, Tryz.underlying41]
theorem faP6 (n : Nat) (w : World) : (Ob.fld 41 (pt n 0) 6 (pt n 6)).Holds Tryz.prog w := by simp [Ob.Holds, go_sem, Tryz.underlying41]
theorem faP7 (n : Nat) (w : World) : (Ob.fld 41 (pt n 0) 7 (pt n 7)).Holds Tryz.prog w := by simp [Ob.Holds, go_sem, Tryz.underlying41]
theorem faP8 (n : Nat) (w : World) : (Ob.fld 41 (pt n 0) 8 (pt n 8)).Holds Tryz.prog w := by simp [Ob.Holds, go_sem, Tryz.underlying41]
theorem faP9 (n : Nat) (w : World) : (Ob.fld 41 (pt n 0) 9 (pt n 9)).Holds Tryz.prog w := by simp [Ob.Holds, go_sem, Tryz.underlying41]
theorem faP10 (n : Nat) (w : World) : (Ob.fld 41 (pt n 0) 10 (pt n 10)).Holds Tryz.prog w := by simp [Ob.Holds, go_sem, Tryz.underlying41]
theorem faP11 (n : Nat) (w : World) : (Ob.fld 41 (pt n 0) 11 (pt n 18)).Holds Tryz.prog w := by simp [Ob.Holds, go_sem, Tryz.underlying41]
theorem faP12 (n : Nat) (w : World) : (Ob.fld 41 (pt n 0) 12 (pt n 19)).Holds Tryz.prog w := by simp [Ob.Holds, go_sem, Tryz.underlying41]
theorem faP13 (n : Nat) (w : World) : (Ob.fld 41 (pt n 0) 13 (pt n 20)).Holds Tryz.prog w := by simp [Ob.Holds, go_sem, Tryz.underlying41]
theorem faP14 (n : Nat) (w : World) : (Ob.fld 41 (pt n 0) 14 (pt n 27)).Holds Tryz.prog w := by simp [Ob.Holds, go_sem, Tryz.underlying41]
theorem faP15 (n : Nat) (w : World) : (Ob.fld 41 (pt n 0) 15 (pt n 28)).Holds Tryz.prog w := by simp [Ob.Holds, go_sem, Tryz.underlying41]
theorem faR0 (n : Nat) (w : World) : (Ob.fld 35 (pt n 20) 0 (pt n 20)).Holds Tryz.prog w := by simp [Ob.Holds, go_sem, Tryz.underlying35]
theorem faR1 (n : Nat) (w : World) : (Ob.fld 35 (pt n 20) 1 (pt n 21)).Holds Tryz.prog w := by simp [Ob.Holds, go_sem, Tryz.underlying35]
theorem faR2 (n : Nat) (w : World) : (Ob.fld 35 (pt n 20) 2 (pt n 22)).Holds Tryz.prog w := by simp [Ob.Holds, go_sem, Tryz.underlying35]
theorem faR4 (n : Nat) (w : World) : (Ob.fld 35 (pt n 20) 4 (pt n 24)).Holds Tryz.prog w := by simp [Ob.Holds, go_sem, Tryz.underlying35]
theorem ldI {n k : Nat} {v : Value} {w : World} (h : w.cell? ⟨n, k, none⟩ = some v) : (Ob.load 3 (pt n k) v).Holds Tryz.prog w := by simp [Ob.Holds, go_sem, Tryz.underlying3, h]
theorem ldE {n k : Nat} {v : Value} {w : World} (h : w.cell? ⟨n, k, none⟩ = some v) : (Ob.load 26 (pt n k) v).Holds Tryz.prog w := by simp [Ob.Holds, go_sem, Tryz.underlying26, h]
theorem ldS {n k : Nat} {v : Value} {w : World} (h : w.cell? ⟨n, k, none⟩ = some v) : (Ob.load 9 (pt n k) v).Holds Tryz.prog w := by simp [Ob.Holds, go_sem, Tryz.underlying9, h]
theorem neqI_no {x y : Int} (h : ¬ x = y) (w : World) : (Ob.bin .neq 3 (.int .i64 x) (.int .i64 y) (.bool true)).Holds Tryz.prog w := ⟨fun _ _ => by simp [eqGuard], by simp [go_sem, Tryz.underlying3, h]⟩
theorem neqI_yes (x : Int) (w : World) : (Ob.bin .neq 3 (.int .i64 x) (.int .i64 x) (.bool false)).Holds Tryz.prog w := ⟨fun _ _ => by simp [eqGuard], by simp [go_sem, Tryz.underlying3]⟩
theorem eqlI_no {x y : Int} (h : ¬ x = y) (w : World) : (Ob.bin .eql 3 (.int .i64 x) (.int .i64 y) (.bool false)).Holds Tryz.prog w := ⟨fun _ _ => by simp [eqGuard], by simp [go_sem, Tryz.underlying3, h]⟩
theorem eqlI_yes (x : Int) (w : World) : (Ob.bin .eql 3 (.int .i64 x) (.int .i64 x) (.bool true)).Holds Tryz.prog w := ⟨fun _ _ => by simp [eqGuard], by simp [go_sem, Tryz.underlying3]⟩
theorem neqE_no {x y : Int} (h : ¬ x = y) (w : World) : (Ob.bin .neq 26 (.int .i64 x) (.int .i64 y) (.bool true)).Holds Tryz.prog w := ⟨fun _ _ => by simp [eqGuard], by simp [go_sem, Tryz.underlying26, h]⟩
theorem neqE_yes (x : Int) (w : World) : (Ob.bin .neq 26 (.int .i64 x) (.int .i64 x) (.bool false)).Holds Tryz.prog w := ⟨fun _ _ => by simp [eqGuard], by simp [go_sem, Tryz.underlying26]⟩
theorem eqlE_no {x y : Int} (h : ¬ x = y) (w : World) : (Ob.bin .eql 26 (.int .i64 x) (.int .i64 y) (.bool false)).Holds Tryz.prog w := ⟨fun _ _ => by simp [eqGuard], by simp [go_sem, Tryz.underlying26, h]⟩
theorem eqlE_yes (x : Int) (w : World) : (Ob.bin .eql 26 (.int .i64 x) (.int .i64 x) (.bool true)).Holds Tryz.prog w := ⟨fun _ _ => by simp [eqGuard], by simp [go_sem, Tryz.underlying26]⟩
theorem neqS_no {x y : ByteArray} (h : ¬ x.toList = y.toList) (w : World) : (Ob.bin .neq 9 (.string x) (.string y) (.bool true)).Holds Tryz.prog w := ⟨fun _ _ => by simp [eqGuard], by simp [go_sem, Tryz.underlying9, h]⟩
theorem neqS_yes {x y : ByteArray} (h : x.toList = y.toList) (w : World) : (Ob.bin .neq 9 (.string x) (.string y) (.bool false)).Holds Tryz.prog w := ⟨fun _ _ => by simp [eqGuard], by simp [go_sem, Tryz.underlying9, h]⟩
theorem eqlS_no {x y : ByteArray} (h : ¬ x.toList = y.toList) (w : World) : (Ob.bin .eql 9 (.string x) (.string y) (.bool false)).Holds Tryz.prog w := ⟨fun _ _ => by simp [eqGuard], by simp [go_sem, Tryz.underlying9, h]⟩
theorem eqlS_yes {x y : ByteArray} (h : x.toList = y.toList) (w : World) : (Ob.bin .eql 9 (.string x) (.string y) (.bool true)).Holds Tryz.prog w := ⟨fun _ _ => by simp [eqGuard], by simp [go_sem, Tryz.underlying9, h]⟩
theorem not_b (b : Bool) (w : World) : (Ob.un .not (.bool b) (.bool (!b))).Holds Tryz.prog w := by simp [Ob.Holds, go_sem]
set_option maxHeartbeats 40000000 in
set_option maxRecDepth 100000 in
theorem psame_any (p q : Pk) (A A' : Option Addr) (c c' : Nat) (L M : List (List UInt8)) (hnp : p.nv = .slice A L.length c) (hnq : q.nv = .slice A' M.length c') (hL : L.length ≤ 2000000) (hM : M.length ≤ 2000000) (w : World) (hS : StrR w A L) (hS' : StrR w A' M) (hp : PkW p) (hq : PkW q) (hLM : p = q → L = M) :
    Calls Tryz.prog 65 #[.agg (pkC p), .agg (pkC q)] w (SameB p q w) := by
  have HS := Lib.hid hS
  have HS' := Lib.hid hS'
  have HL := Lib.hid (And.intro hL hM)
  have Hnvp := Lib.hid hnp
  have Hnvq := Lib.hid hnq
  have HLM := Lib.hid hLM
  obtain ⟨rC, hrC, hcC⟩ := callA_eql hp hq
  obtain ⟨rN, hrN, hcN⟩ := nodeA_eql hp hq
  obtain ⟨rI, hrI, hcI⟩ := infoA_eql hp hq
  have HrC := Lib.hid hrC
  have HrN := Lib.hid hrN
  have HrI := Lib.hid hrI
  have HcC : Hid (p = q → rC = true) := Lib.hid fun h => hcC (by rw [h])
  have HcN : Hid (p = q → rN = true) := Lib.hid fun h => hcN (by rw [h])
  have HcI : Hid (p = q → rI = true) := Lib.hid fun h => hcI (by rw [h])
  clear hS hS' hL hM hnp hnq hLM hp hq hrC hrN hrI hcC hcN hcI
  go_enter Tryz.func65, Tryz.ntmps65
  go_upto_region 1 with fail
  obtain ⟨w1, hw⟩ : ∃ u, u = (w.alloc (.cells (pkC p) 41)).alloc (.cells (pkC q) 41) := ⟨_, rfl⟩
  obtain ⟨n0, hn⟩ : ∃ u, u = w.heap.size := ⟨_, rfl⟩
  have h0 : w1.heap[n0]? = some (.cells (pkC p) 41 (0, 0)) := by
    rw [hw, hn, Below.heap_alloc _ _ _ (by simp)]
    exact heap_alloc_new _ _
  have h1 : w1.heap[n0 + 1]? = some (.cells (pkC q) 41 (0, 0)) := by
    have := heap_alloc_new (w.alloc (.cells (pkC p) 41)) (.cells (pkC q) 41)
    rw [← hw, show (w.alloc (.cells (pkC p) 41)).heap.size = n0 + 1 by rw [hn]; simp] at this
    exact this
  have HB := Lib.hid (show Below w.heap.size w w1 by rw [hw]; exact ((Below.refl _ _).alloc (Nat.le_refl _) _).alloc (by simp) _)
  rw [← hw, ← hn]
  have HSm := Lib.hid (names_same_any A A' L M c c' w1 (by have := HL.out; omega) (by have := HL.out; omega) (HS.out.keep HB.out) (HS'.out.keep HB.out))
  have a23 : w1.cell? ⟨n0, 23, none⟩ = some (.slice A L.length c) := (cell_of_row w1 (n0) 23 _ _ _ h0).trans (congrArg some Hnvp.out)
  have b23 : w1.cell? ⟨n0 + 1, 23, none⟩ = some (.slice A' M.length c') := (cell_of_row w1 (n0 + 1) 23 _ _ _ h1).trans (congrArg some Hnvq.out)
  have Hw := Lib.hid hw
  have Hn := Lib.hid hn
  have H0 := Lib.hid h0
  have H1 := Lib.hid h1
  clear hw hn h0 h1
  go_upto_region 2 with ((with_reducible refine HSm.out.mono ?_); rintro e w2 ⟨rfl, hb2⟩; have HB2 := Lib.hid hb2; clear hb2)
  clear a23 b23
  have HB3 := Lib.hid (HB.out.trans (HB2.out.mono HB.out.size))
  have h0 := (HB2.out.block n0 (lt_get H0.out)).trans H0.out
  have h1 := (HB2.out.block (n0 + 1) (lt_get H1.out)).trans H1.out
  have a0 : w2.cell? ⟨n0, 0, none⟩ = some (.int .i64 p.kd) := cell_of_row w2 (n0) 0 _ _ _ h0
  have b0 : w2.cell? ⟨n0 + 1, 0, none⟩ = some (.int .i64 q.kd) := cell_of_row w2 (n0 + 1) 0 _ _ _ h1
  have a1 : w2.cell? ⟨n0, 1, none⟩ = some (.int .i64 p.cl) := cell_of_row w2 (n0) 1 _ _ _ h0
  have b1 : w2.cell? ⟨n0 + 1, 1, none⟩ = some (.int .i64 q.cl) := cell_of_row w2 (n0 + 1) 1 _ _ _ h1
  have a2 : w2.cell? ⟨n0, 2, none⟩ = some (.int .i64 p.ep) := cell_of_row w2 (n0) 2 _ _ _ h0
  have b2 : w2.cell? ⟨n0 + 1, 2, none⟩ = some (.int .i64 q.ep) := cell_of_row w2 (n0 + 1) 2 _ _ _ h1
  have a3 : w2.cell? ⟨n0, 3, none⟩ = some (.int .i64 p.sq) := cell_of_row w2 (n0) 3 _ _ _ h0
  have b3 : w2.cell? ⟨n0 + 1, 3, none⟩ = some (.int .i64 q.sq) := cell_of_row w2 (n0 + 1) 3 _ _ _ h1
  have a4 : w2.cell? ⟨n0, 4, none⟩ = some (.int .i64 p.op) := cell_of_row w2 (n0) 4 _ _ _ h0
  have b4 : w2.cell? ⟨n0 + 1, 4, none⟩ = some (.int .i64 q.op) := cell_of_row w2 (n0 + 1) 4 _ _ _ h1
  have a5 : w2.cell? ⟨n0, 5, none⟩ = some (.int .i64 p.at_) := cell_of_row w2 (n0) 5 _ _ _ h0
  have b5 : w2.cell? ⟨n0 + 1, 5, none⟩ = some (.int .i64 q.at_) := cell_of_row w2 (n0 + 1) 5 _ _ _ h1
  have a6 : w2.cell? ⟨n0, 6, none⟩ = some (.int .i64 p.n) := cell_of_row w2 (n0) 6 _ _ _ h0
  have b6 : w2.cell? ⟨n0 + 1, 6, none⟩ = some (.int .i64 q.n) := cell_of_row w2 (n0 + 1) 6 _ _ _ h1
  have a7 : w2.cell? ⟨n0, 7, none⟩ = some (.string p.d) := cell_of_row w2 (n0) 7 _ _ _ h0
  have b7 : w2.cell? ⟨n0 + 1, 7, none⟩ = some (.string q.d) := cell_of_row w2 (n0 + 1) 7 _ _ _ h1
  have a8 : w2.cell? ⟨n0, 8, none⟩ = some (.int .i64 p.old) := cell_of_row w2 (n0) 8 _ _ _ h0
  have b8 : w2.cell? ⟨n0 + 1, 8, none⟩ = some (.int .i64 q.old) := cell_of_row w2 (n0 + 1) 8 _ _ _ h1
  have a9 : w2.cell? ⟨n0, 9, none⟩ = some (.int .i64 p.new) := cell_of_row w2 (n0) 9 _ _ _ h0
  have b9 : w2.cell? ⟨n0 + 1, 9, none⟩ = some (.int .i64 q.new) := cell_of_row w2 (n0 + 1) 9 _ _ _ h1
  have H0 := Lib.hid h0
  have H1 := Lib.hid h1
  clear h0 h1
  by_cases hn : L = M
  rotate_left
  · have hd : decide (L = M) = false := decide_eq_false hn
    rw [hd]
    have hN : AllOb Tryz.prog w2 [Ob.un .not (.bool false) (.bool true)] := obc (not_b false w2) trivial
    refine wp_region_lit (sym_region [(14, .bool true)] 154 [] [Operand.tmp 84] [.bool true] _ (Nat.le_of_ble_eq_true (by kernel_rfl)) (by kernel_rfl) (by kernel_rfl) (by kernel_rfl) hN fun a' ha hz hd => ?_)
    have he : a'.eval (.tmp 84) = .bool true := (List.cons.inj ha).1
    clear ha
    rename ∀ a w, Code.wp _ (Code.cond (Operand.tmp 84) _ _) _ a w → _ => hk
    refine hk a' w2 (wp_cond_true he (wp_seq_k ?_))
    intro K2 hK2
    refine wp_region_lit (sym_region [] 154 [] [Operand.tmp 4] [.bool false] [] hz rfl rfl (by kernel_rfl) trivial fun a2 g2 hz2 hd2 => ?_)
    have e4 : a2.tmps.getD 4 undef = .bool false := (List.cons.inj g2).1
    refine hK2 a2 w2 (wp_ret ?_)
    try simp only [Exit.then]
    refine bodyPost_ret (results_tmp rfl _ _ _) (hd2.trans hd) ?_
    rw [e4]
    exact ⟨false, rfl, fun h => absurd (HLM.out h) hn, HB3.out⟩
  rw [decide_eq_true hn]
  have hA : AllOb Tryz.prog w2 [Ob.un .not (.bool true) (.bool false)] := obc (not_b true w2) trivial
  clear hn
  by_cases h0 : p.kd = q.kd
  rotate_left
  · have hN := obc (neqI_no h0 w2) (obc (ldI b0) (obc (faP0 (n0 + 1) w2) (obc (ldI a0) (obc (faP0 n0 w2) hA))))
    refine wp_region_lit (sym_region [(14, .bool false), (16, pt n0 0), (17, .int .i64 p.kd), (18, pt (n0 + 1) 0), (19, .int .i64 q.kd), (20, .bool true)] 154 [] [Operand.tmp 84] [.bool true] _ (Nat.le_of_ble_eq_true (by kernel_rfl)) (by kernel_rfl) (by kernel_rfl) (by kernel_rfl) hN fun a' ha hz hd => ?_)
    have he : a'.eval (.tmp 84) = .bool true := (List.cons.inj ha).1
    clear ha
    rename ∀ a w, Code.wp _ (Code.cond (Operand.tmp 84) _ _) _ a w → _ => hk
    refine hk a' w2 (wp_cond_true he (wp_seq_k ?_))
    intro K2 hK2
    refine wp_region_lit (sym_region [] 154 [] [Operand.tmp 4] [.bool false] [] hz rfl rfl (by kernel_rfl) trivial fun a2 g2 hz2 hd2 => ?_)
    have e4 : a2.tmps.getD 4 undef = .bool false := (List.cons.inj g2).1
    refine hK2 a2 w2 (wp_ret ?_)
    try simp only [Exit.then]
    refine bodyPost_ret (results_tmp rfl _ _ _) (hd2.trans hd) ?_
    rw [e4]
    exact ⟨false, rfl, fun h => absurd (congrArg Pk.kd h) h0, HB3.out⟩
  rw [← h0] at b0
  have hA := obc (neqI_yes p.kd w2) (obc (ldI b0) (obc (faP0 (n0 + 1) w2) (obc (ldI a0) (obc (faP0 n0 w2) hA))))
  clear h0 a0 b0
  by_cases h1 : p.cl = q.cl
  rotate_left
  · have hN := obc (neqI_no h1 w2) (obc (ldI b1) (obc (faP1 (n0 + 1) w2) (obc (ldI a1) (obc (faP1 n0 w2) hA))))
    refine wp_region_lit (sym_region [(14, .bool false), (16, pt n0 0), (17, .int .i64 p.kd), (18, pt (n0 + 1) 0), (19, .int .i64 p.kd), (20, .bool false), (23, pt n0 1), (24, .int .i64 p.cl), (25, pt (n0 + 1) 1), (26, .int .i64 q.cl), (27, .bool true)] 154 [] [Operand.tmp 84] [.bool true] _ (Nat.le_of_ble_eq_true (by kernel_rfl)) (by kernel_rfl) (by kernel_rfl) (by kernel_rfl) hN fun a' ha hz hd => ?_)
    have he : a'.eval (.tmp 84) = .bool true := (List.cons.inj ha).1
    clear ha
    rename ∀ a w, Code.wp _ (Code.cond (Operand.tmp 84) _ _) _ a w → _ => hk
    refine hk a' w2 (wp_cond_true he (wp_seq_k ?_))
    intro K2 hK2
    refine wp_region_lit (sym_region [] 154 [] [Operand.tmp 4] [.bool false] [] hz rfl rfl (by kernel_rfl) trivial fun a2 g2 hz2 hd2 => ?_)
    have e4 : a2.tmps.getD 4 undef = .bool false := (List.cons.inj g2).1
    refine hK2 a2 w2 (wp_ret ?_)
    try simp only [Exit.then]
    refine bodyPost_ret (results_tmp rfl _ _ _) (hd2.trans hd) ?_
    rw [e4]
    exact ⟨false, rfl, fun h => absurd (congrArg Pk.cl h) h1, HB3.out⟩
  rw [← h1] at b1
  have hA := obc (neqI_yes p.cl w2) (obc (ldI b1) (obc (faP1 (n0 + 1) w2) (obc (ldI a1) (obc (faP1 n0 w2) hA))))
  clear h1 a1 b1
  by_cases h2 : p.ep = q.ep
  rotate_left
  · have hN := obc (neqI_no h2 w2) (obc (ldI b2) (obc (faP2 (n0 + 1) w2) (obc (ldI a2) (obc (faP2 n0 w2) hA))))
    refine wp_region_lit (sym_region [(14, .bool false), (16, pt n0 0), (17, .int .i64 p.kd), (18, pt (n0 + 1) 0), (19, .int .i64 p.kd), (20, .bool false), (23, pt n0 1), (24, .int .i64 p.cl), (25, pt (n0 + 1) 1), (26, .int .i64 p.cl), (27, .bool false), (30, pt n0 2), (31, .int .i64 p.ep), (32, pt (n0 + 1) 2), (33, .int .i64 q.ep), (34, .bool true)] 154 [] [Operand.tmp 84] [.bool true] _ (Nat.le_of_ble_eq_true (by kernel_rfl)) (by kernel_rfl) (by kernel_rfl) (by kernel_rfl) hN fun a' ha hz hd => ?_)
    have he : a'.eval (.tmp 84) = .bool true := (List.cons.inj ha).1
    clear ha
    rename ∀ a w, Code.wp _ (Code.cond (Operand.tmp 84) _ _) _ a w → _ => hk
    refine hk a' w2 (wp_cond_true he (wp_seq_k ?_))
    intro K2 hK2
    refine wp_region_lit (sym_region [] 154 [] [Operand.tmp 4] [.bool false] [] hz rfl rfl (by kernel_rfl) trivial fun a2 g2 hz2 hd2 => ?_)
    have e4 : a2.tmps.getD 4 undef = .bool false := (List.cons.inj g2).1
    refine hK2 a2 w2 (wp_ret ?_)
    try simp only [Exit.then]
    refine bodyPost_ret (results_tmp rfl _ _ _) (hd2.trans hd) ?_
    rw [e4]
    exact ⟨false, rfl, fun h => absurd (congrArg Pk.ep h) h2, HB3.out⟩
  rw [← h2] at b2
  have hA := obc (neqI_yes p.ep w2) (obc (ldI b2) (obc (faP2 (n0 + 1) w2) (obc (ldI a2) (obc (faP2 n0 w2) hA))))
  clear h2 a2 b2
  by_cases h3 : p.sq = q.sq
  rotate_left
  · have hN := obc (neqI_no h3 w2) (obc (ldI b3) (obc (faP3 (n0 + 1) w2) (obc (ldI a3) (obc (faP3 n0 w2) hA))))
    refine wp_region_lit (sym_region [(14, .bool false), (16, pt n0 0), (17, .int .i64 p.kd), (18, pt (n0 + 1) 0), (19, .int .i64 p.kd), (20, .bool false), (23, pt n0 1), (24, .int .i64 p.cl), (25, pt (n0 + 1) 1), (26, .int .i64 p.cl), (27, .bool false), (30, pt n0 2), (31, .int .i64 p.ep), (32, pt (n0 + 1) 2), (33, .int .i64 p.ep), (34, .bool false), (37, pt n0 3), (38, .int .i64 p.sq), (39, pt (n0 + 1) 3), (40, .int .i64 q.sq), (41, .bool true)] 154 [] [Operand.tmp 84] [.bool true] _ (Nat.le_of_ble_eq_true (by kernel_rfl)) (by kernel_rfl) (by kernel_rfl) (by kernel_rfl) hN fun a' ha hz hd => ?_)
    have he : a'.eval (.tmp 84) = .bool true := (List.cons.inj ha).1
    clear ha
    rename ∀ a w, Code.wp _ (Code.cond (Operand.tmp 84) _ _) _ a w → _ => hk
    refine hk a' w2 (wp_cond_true he (wp_seq_k ?_))
    intro K2 hK2
    refine wp_region_lit (sym_region [] 154 [] [Operand.tmp 4] [.bool false] [] hz rfl rfl (by kernel_rfl) trivial fun a2 g2 hz2 hd2 => ?_)
    have e4 : a2.tmps.getD 4 undef = .bool false := (List.cons.inj g2).1
    refine hK2 a2 w2 (wp_ret ?_)
    try simp only [Exit.then]
    refine bodyPost_ret (results_tmp rfl _ _ _) (hd2.trans hd) ?_
    rw [e4]
    exact ⟨false, rfl, fun h => absurd (congrArg Pk.sq h) h3, HB3.out⟩
  rw [← h3] at b3
  have hA := obc (neqI_yes p.sq w2) (obc (ldI b3) (obc (faP3 (n0 + 1) w2) (obc (ldI a3) (obc (faP3 n0 w2) hA))))
  clear h3 a3 b3
  by_cases h4 : p.op = q.op
  rotate_left
  · have hN := obc (neqI_no h4 w2) (obc (ldI b4) (obc (faP4 (n0 + 1) w2) (obc (ldI a4) (obc (faP4 n0 w2) hA))))
    refine wp_region_lit (sym_region [(14, .bool false), (16, pt n0 0), (17, .int .i64 p.kd), (18, pt (n0 + 1) 0), (19, .int .i64 p.kd), (20, .bool false), (23, pt n0 1), (24, .int .i64 p.cl), (25, pt (n0 + 1) 1), (26, .int .i64 p.cl), (27, .bool false), (30, pt n0 2), (31, .int .i64 p.ep), (32, pt (n0 + 1) 2), (33, .int .i64 p.ep), (34, .bool false), (37, pt n0 3), (38, .int .i64 p.sq), (39, pt (n0 + 1) 3), (40, .int .i64 p.sq), (41, .bool false), (44, pt n0 4), (45, .int .i64 p.op), (46, pt (n0 + 1) 4), (47, .int .i64 q.op), (48, .bool true)] 154 [] [Operand.tmp 84] [.bool true] _ (Nat.le_of_ble_eq_true (by kernel_rfl)) (by kernel_rfl) (by kernel_rfl) (by kernel_rfl) hN fun a' ha hz hd => ?_)
    have he : a'.eval (.tmp 84) = .bool true := (List.cons.inj ha).1
    clear ha
    rename ∀ a w, Code.wp _ (Code.cond (Operand.tmp 84) _ _) _ a w → _ => hk
    refine hk a' w2 (wp_cond_true he (wp_seq_k ?_))
    intro K2 hK2
    refine wp_region_lit (sym_region [] 154 [] [Operand.tmp 4] [.bool false] [] hz rfl rfl (by kernel_rfl) trivial fun a2 g2 hz2 hd2 => ?_)
    have e4 : a2.tmps.getD 4 undef = .bool false := (List.cons.inj g2).1
    refine hK2 a2 w2 (wp_ret ?_)
    try simp only [Exit.then]
    refine bodyPost_ret (results_tmp rfl _ _ _) (hd2.trans hd) ?_
    rw [e4]
    exact ⟨false, rfl, fun h => absurd (congrArg Pk.op h) h4, HB3.out⟩
  rw [← h4] at b4
  have hA := obc (neqI_yes p.op w2) (obc (ldI b4) (obc (faP4 (n0 + 1) w2) (obc (ldI a4) (obc (faP4 n0 w2) hA))))
  clear h4 a4 b4
  by_cases h5 : p.at_ = q.at_
  rotate_left
  · have hN := obc (neqI_no h5 w2) (obc (ldI b5) (obc (faP5 (n0 + 1) w2) (obc (ldI a5) (obc (faP5 n0 w2) hA))))
    refine wp_region_lit (sym_region [(14, .bool false), (16, pt n0 0), (17, .int .i64 p.kd), (18, pt (n0 + 1) 0), (19, .int .i64 p.kd), (20, .bool false), (23, pt n0 1), (24, .int .i64 p.cl), (25, pt (n0 + 1) 1), (26, .int .i64 p.cl), (27, .bool false), (30, pt n0 2), (31, .int .i64 p.ep), (32, pt (n0 + 1) 2), (33, .int .i64 p.ep), (34, .bool false), (37, pt n0 3), (38, .int .i64 p.sq), (39, pt (n0 + 1) 3), (40, .int .i64 p.sq), (41, .bool false), (44, pt n0 4), (45, .int .i64 p.op), (46, pt (n0 + 1) 4), (47, .int .i64 p.op), (48, .bool false), (51, pt n0 5), (52, .int .i64 p.at_), (53, pt (n0 + 1) 5), (54, .int .i64 q.at_), (55, .bool true)] 154 [] [Operand.tmp 84] [.bool true] _ (Nat.le_of_ble_eq_true (by kernel_rfl)) (by kernel_rfl) (by kernel_rfl) (by kernel_rfl) hN fun a' ha hz hd => ?_)
    have he : a'.eval (.tmp 84) = .bool true := (List.cons.inj ha).1
    clear ha
    rename ∀ a w, Code.wp _ (Code.cond (Operand.tmp 84) _ _) _ a w → _ => hk
    refine hk a' w2 (wp_cond_true he (wp_seq_k ?_))
    intro K2 hK2
    refine wp_region_lit (sym_region [] 154 [] [Operand.tmp 4] [.bool false] [] hz rfl rfl (by kernel_rfl) trivial fun a2 g2 hz2 hd2 => ?_)
    have e4 : a2.tmps.getD 4 undef = .bool false := (List.cons.inj g2).1
    refine hK2 a2 w2 (wp_ret ?_)
    try simp only [Exit.then]
    refine bodyPost_ret (results_tmp rfl _ _ _) (hd2.trans hd) ?_
    rw [e4]
    exact ⟨false, rfl, fun h => absurd (congrArg Pk.at_ h) h5, HB3.out⟩
  rw [← h5] at b5
  have hA := obc (neqI_yes p.at_ w2) (obc (ldI b5) (obc (faP5 (n0 + 1) w2) (obc (ldI a5) (obc (faP5 n0 w2) hA))))
  clear h5 a5 b5
  by_cases h6 : p.n = q.n
  rotate_left
  · have hN := obc (neqI_no h6 w2) (obc (ldI b6) (obc (faP6 (n0 + 1) w2) (obc (ldI a6) (obc (faP6 n0 w2) hA))))
    refine wp_region_lit (sym_region [(14, .bool false), (16, pt n0 0), (17, .int .i64 p.kd), (18, pt (n0 + 1) 0), (19, .int .i64 p.kd), (20, .bool false), (23, pt n0 1), (24, .int .i64 p.cl), (25, pt (n0 + 1) 1), (26, .int .i64 p.cl), (27, .bool false), (30, pt n0 2), (31, .int .i64 p.ep), (32, pt (n0 + 1) 2), (33, .int .i64 p.ep), (34, .bool false), (37, pt n0 3), (38, .int .i64 p.sq), (39, pt (n0 + 1) 3), (40, .int .i64 p.sq), (41, .bool false), (44, pt n0 4), (45, .int .i64 p.op), (46, pt (n0 + 1) 4), (47, .int .i64 p.op), (48, .bool false), (51, pt n0 5), (52, .int .i64 p.at_), (53, pt (n0 + 1) 5), (54, .int .i64 p.at_), (55, .bool false), (58, pt n0 6), (59, .int .i64 p.n), (60, pt (n0 + 1) 6), (61, .int .i64 q.n), (62, .bool true)] 154 [] [Operand.tmp 84] [.bool true] _ (Nat.le_of_ble_eq_true (by kernel_rfl)) (by kernel_rfl) (by kernel_rfl) (by kernel_rfl) hN fun a' ha hz hd => ?_)
    have he : a'.eval (.tmp 84) = .bool true := (List.cons.inj ha).1
    clear ha
    rename ∀ a w, Code.wp _ (Code.cond (Operand.tmp 84) _ _) _ a w → _ => hk
    refine hk a' w2 (wp_cond_true he (wp_seq_k ?_))
    intro K2 hK2
    refine wp_region_lit (sym_region [] 154 [] [Operand.tmp 4] [.bool false] [] hz rfl rfl (by kernel_rfl) trivial fun a2 g2 hz2 hd2 => ?_)
    have e4 : a2.tmps.getD 4 undef = .bool false := (List.cons.inj g2).1
    refine hK2 a2 w2 (wp_ret ?_)
    try simp only [Exit.then]
    refine bodyPost_ret (results_tmp rfl _ _ _) (hd2.trans hd) ?_
    rw [e4]
    exact ⟨false, rfl, fun h => absurd (congrArg Pk.n h) h6, HB3.out⟩
  rw [← h6] at b6
  have hA := obc (neqI_yes p.n w2) (obc (ldI b6) (obc (faP6 (n0 + 1) w2) (obc (ldI a6) (obc (faP6 n0 w2) hA))))
  clear h6 a6 b6
  by_cases h7 : p.d.toList = q.d.toList
  rotate_left
  · have hN := obc (neqS_no h7 w2) (obc (ldS b7) (obc (faP7 (n0 + 1) w2) (obc (ldS a7) (obc (faP7 n0 w2) hA))))
    refine wp_region_lit (sym_region [(14, .bool false), (16, pt n0 0), (17, .int .i64 p.kd), (18, pt (n0 + 1) 0), (19, .int .i64 p.kd), (20, .bool false), (23, pt n0 1), (24, .int .i64 p.cl), (25, pt (n0 + 1) 1), (26, .int .i64 p.cl), (27, .bool false), (30, pt n0 2), (31, .int .i64 p.ep), (32, pt (n0 + 1) 2), (33, .int .i64 p.ep), (34, .bool false), (37, pt n0 3), (38, .int .i64 p.sq), (39, pt (n0 + 1) 3), (40, .int .i64 p.sq), (41, .bool false), (44, pt n0 4), (45, .int .i64 p.op), (46, pt (n0 + 1) 4), (47, .int .i64 p.op), (48, .bool false), (51, pt n0 5), (52, .int .i64 p.at_), (53, pt (n0 + 1) 5), (54, .int .i64 p.at_), (55, .bool false), (58, pt n0 6), (59, .int .i64 p.n), (60, pt (n0 + 1) 6), (61, .int .i64 p.n), (62, .bool false), (65, pt n0 7), (66, .string p.d), (67, pt (n0 + 1) 7), (68, .string q.d), (69, .bool true)] 154 [] [Operand.tmp 84] [.bool true] _ (Nat.le_of_ble_eq_true (by kernel_rfl)) (by kernel_rfl) (by kernel_rfl) (by kernel_rfl) hN fun a' ha hz hd => ?_)
    have he : a'.eval (.tmp 84) = .bool true := (List.cons.inj ha).1
    clear ha
    rename ∀ a w, Code.wp _ (Code.cond (Operand.tmp 84) _ _) _ a w → _ => hk
    refine hk a' w2 (wp_cond_true he (wp_seq_k ?_))
    intro K2 hK2
    refine wp_region_lit (sym_region [] 154 [] [Operand.tmp 4] [.bool false] [] hz rfl rfl (by kernel_rfl) trivial fun a2 g2 hz2 hd2 => ?_)
    have e4 : a2.tmps.getD 4 undef = .bool false := (List.cons.inj g2).1
    refine hK2 a2 w2 (wp_ret ?_)
    try simp only [Exit.then]
    refine bodyPost_ret (results_tmp rfl _ _ _) (hd2.trans hd) ?_
    rw [e4]
    exact ⟨false, rfl, fun h => absurd (congrArg (fun z : Pk => z.d.toList) h) h7, HB3.out⟩
  have hA := obc (neqS_yes h7 w2) (obc (ldS b7) (obc (faP7 (n0 + 1) w2) (obc (ldS a7) (obc (faP7 n0 w2) hA))))
  clear h7 a7 b7
  by_cases h8 : p.old = q.old
  rotate_left
  · have hN := obc (neqI_no h8 w2) (obc (ldI b8) (obc (faP8 (n0 + 1) w2) (obc (ldI a8) (obc (faP8 n0 w2) hA))))
    refine wp_region_lit (sym_region [(14, .bool false), (16, pt n0 0), (17, .int .i64 p.kd), (18, pt (n0 + 1) 0), (19, .int .i64 p.kd), (20, .bool false), (23, pt n0 1), (24, .int .i64 p.cl), (25, pt (n0 + 1) 1), (26, .int .i64 p.cl), (27, .bool false), (30, pt n0 2), (31, .int .i64 p.ep), (32, pt (n0 + 1) 2), (33, .int .i64 p.ep), (34, .bool false), (37, pt n0 3), (38, .int .i64 p.sq), (39, pt (n0 + 1) 3), (40, .int .i64 p.sq), (41, .bool false), (44, pt n0 4), (45, .int .i64 p.op), (46, pt (n0 + 1) 4), (47, .int .i64 p.op), (48, .bool false), (51, pt n0 5), (52, .int .i64 p.at_), (53, pt (n0 + 1) 5), (54, .int .i64 p.at_), (55, .bool false), (58, pt n0 6), (59, .int .i64 p.n), (60, pt (n0 + 1) 6), (61, .int .i64 p.n), (62, .bool false), (65, pt n0 7), (66, .string p.d), (67, pt (n0 + 1) 7), (68, .string q.d), (69, .bool false), (72, pt n0 8), (73, .int .i64 p.old), (74, pt (n0 + 1) 8), (75, .int .i64 q.old), (76, .bool true)] 154 [] [Operand.tmp 84] [.bool true] _ (Nat.le_of_ble_eq_true (by kernel_rfl)) (by kernel_rfl) (by kernel_rfl) (by kernel_rfl) hN fun a' ha hz hd => ?_)
    have he : a'.eval (.tmp 84) = .bool true := (List.cons.inj ha).1
    clear ha
    rename ∀ a w, Code.wp _ (Code.cond (Operand.tmp 84) _ _) _ a w → _ => hk
    refine hk a' w2 (wp_cond_true he (wp_seq_k ?_))
    intro K2 hK2
    refine wp_region_lit (sym_region [] 154 [] [Operand.tmp 4] [.bool false] [] hz rfl rfl (by kernel_rfl) trivial fun a2 g2 hz2 hd2 => ?_)
    have e4 : a2.tmps.getD 4 undef = .bool false := (List.cons.inj g2).1
    refine hK2 a2 w2 (wp_ret ?_)
    try simp only [Exit.then]
    refine bodyPost_ret (results_tmp rfl _ _ _) (hd2.trans hd) ?_
    rw [e4]
    exact ⟨false, rfl, fun h => absurd (congrArg Pk.old h) h8, HB3.out⟩
  rw [← h8] at b8
  have hA := obc (neqI_yes p.old w2) (obc (ldI b8) (obc (faP8 (n0 + 1) w2) (obc (ldI a8) (obc (faP8 n0 w2) hA))))
  clear h8 a8 b8
  by_cases h9 : p.new = q.new
  rotate_left
  · have hN := obc (neqI_no h9 w2) (obc (ldI b9) (obc (faP9 (n0 + 1) w2) (obc (ldI a9) (obc (faP9 n0 w2) hA))))
    refine wp_region_lit (sym_region [(14, .bool false), (16, pt n0 0), (17, .int .i64 p.kd), (18, pt (n0 + 1) 0), (19, .int .i64 p.kd), (20, .bool false), (23, pt n0 1), (24, .int .i64 p.cl), (25, pt (n0 + 1) 1), (26, .int .i64 p.cl), (27, .bool false), (30, pt n0 2), (31, .int .i64 p.ep), (32, pt (n0 + 1) 2), (33, .int .i64 p.ep), (34, .bool false), (37, pt n0 3), (38, .int .i64 p.sq), (39, pt (n0 + 1) 3), (40, .int .i64 p.sq), (41, .bool false), (44, pt n0 4), (45, .int .i64 p.op), (46, pt (n0 + 1) 4), (47, .int .i64 p.op), (48, .bool false), (51, pt n0 5), (52, .int .i64 p.at_), (53, pt (n0 + 1) 5), (54, .int .i64 p.at_), (55, .bool false), (58, pt n0 6), (59, .int .i64 p.n), (60, pt (n0 + 1) 6), (61, .int .i64 p.n), (62, .bool false), (65, pt n0 7), (66, .string p.d), (67, pt (n0 + 1) 7), (68, .string q.d), (69, .bool false), (72, pt n0 8), (73, .int .i64 p.old), (74, pt (n0 + 1) 8), (75, .int .i64 p.old), (76, .bool false), (79, pt n0 9), (80, .int .i64 p.new), (81, pt (n0 + 1) 9), (82, .int .i64 q.new), (83, .bool true)] 154 [] [Operand.tmp 84] [.bool true] _ (Nat.le_of_ble_eq_true (by kernel_rfl)) (by kernel_rfl) (by kernel_rfl) (by kernel_rfl) hN fun a' ha hz hd => ?_)
    have he : a'.eval (.tmp 84) = .bool true := (List.cons.inj ha).1
    clear ha
    rename ∀ a w, Code.wp _ (Code.cond (Operand.tmp 84) _ _) _ a w → _ => hk
    refine hk a' w2 (wp_cond_true he (wp_seq_k ?_))
    intro K2 hK2
    refine wp_region_lit (sym_region [] 154 [] [Operand.tmp 4] [.bool false] [] hz rfl rfl (by kernel_rfl) trivial fun a2 g2 hz2 hd2 => ?_)
    have e4 : a2.tmps.getD 4 undef = .bool false := (List.cons.inj g2).1
    refine hK2 a2 w2 (wp_ret ?_)
    try simp only [Exit.then]
    refine bodyPost_ret (results_tmp rfl _ _ _) (hd2.trans hd) ?_
    rw [e4]
    exact ⟨false, rfl, fun h => absurd (congrArg Pk.new h) h9, HB3.out⟩
  rw [← h9] at b9
  have hA := obc (neqI_yes p.new w2) (obc (ldI b9) (obc (faP9 (n0 + 1) w2) (obc (ldI a9) (obc (faP9 n0 w2) hA))))
  clear h9 a9 b9
  refine wp_region_lit (sym_region [(14, .bool false), (16, pt n0 0), (17, .int .i64 p.kd), (18, pt (n0 + 1) 0), (19, .int .i64 p.kd), (20, .bool false), (23, pt n0 1), (24, .int .i64 p.cl), (25, pt (n0 + 1) 1), (26, .int .i64 p.cl), (27, .bool false), (30, pt n0 2), (31, .int .i64 p.ep), (32, pt (n0 + 1) 2), (33, .int .i64 p.ep), (34, .bool false), (37, pt n0 3), (38, .int .i64 p.sq), (39, pt (n0 + 1) 3), (40, .int .i64 p.sq), (41, .bool false), (44, pt n0 4), (45, .int .i64 p.op), (46, pt (n0 + 1) 4), (47, .int .i64 p.op), (48, .bool false), (51, pt n0 5), (52, .int .i64 p.at_), (53, pt (n0 + 1) 5), (54, .int .i64 p.at_), (55, .bool false), (58, pt n0 6), (59, .int .i64 p.n), (60, pt (n0 + 1) 6), (61, .int .i64 p.n), (62, .bool false), (65, pt n0 7), (66, .string p.d), (67, pt (n0 + 1) 7), (68, .string q.d), (69, .bool false), (72, pt n0 8), (73, .int .i64 p.old), (74, pt (n0 + 1) 8), (75, .int .i64 p.old), (76, .bool false), (79, pt n0 9), (80, .int .i64 p.new), (81, pt (n0 + 1) 9), (82, .int .i64 p.new), (83, .bool false)] 154 [] [.tmp 84, .tmp 2, .tmp 3] [.bool false, pt n0 0, pt (n0 + 1) 0] _ (Nat.le_of_ble_eq_true (by kernel_rfl)) (by kernel_rfl) (by kernel_rfl) (by kernel_rfl) hA fun a0 ha hz0 hd0 => ?_)
  have he : a0.eval (.tmp 84) = .bool false := (List.cons.inj ha).1
  have hv : [a0.eval (.tmp 2), a0.eval (.tmp 3)] = [pt n0 0, pt (n0 + 1) 0] := (List.cons.inj ha).2
  clear ha hA
  rename ∀ a w, Code.wp _ (Code.cond (Operand.tmp 84) _ _) _ a w → _ => hk
  rename ∀ a w, Code.wp _ (Code.seq (Code.region 4 _ _) _) _ a w → _ => hk4
  refine hk a0 w2 (wp_cond_false he (wp_skip ?_))
  refine hk4 a0 w2 (wp_seq_k ?_)
  intro K3 hK3
  clear he hk hk4
  have h0 := H0.out
  have h1 := H1.out
  have a18 : w2.cell? ⟨n0, 18, none⟩ = some (.int .i64 p.ino) := cell_of_row w2 (n0) 18 _ _ _ h0
  have b18 : w2.cell? ⟨n0 + 1, 18, none⟩ = some (.int .i64 q.ino) := cell_of_row w2 (n0 + 1) 18 _ _ _ h1
  have a19 : w2.cell? ⟨n0, 19, none⟩ = some (.int .i64 p.er) := cell_of_row w2 (n0) 19 _ _ _ h0
  have b19 : w2.cell? ⟨n0 + 1, 19, none⟩ = some (.int .i64 q.er) := cell_of_row w2 (n0 + 1) 19 _ _ _ h1
  have a27 : w2.cell? ⟨n0, 27, none⟩ = some (.int .i64 p.wr) := cell_of_row w2 (n0) 27 _ _ _ h0
  have b27 : w2.cell? ⟨n0 + 1, 27, none⟩ = some (.int .i64 q.wr) := cell_of_row w2 (n0 + 1) 27 _ _ _ h1
  have a20 : w2.cell? ⟨n0, 20, none⟩ = some (.int .i64 p.re) := cell_of_row w2 (n0) 20 _ _ _ h0
  have b20 : w2.cell? ⟨n0 + 1, 20, none⟩ = some (.int .i64 q.re) := cell_of_row w2 (n0 + 1) 20 _ _ _ h1
  have a21 : w2.cell? ⟨n0, 21, none⟩ = some (.int .i64 p.rfd) := cell_of_row w2 (n0) 21 _ _ _ h0
  have b21 : w2.cell? ⟨n0 + 1, 21, none⟩ = some (.int .i64 q.rfd) := cell_of_row w2 (n0 + 1) 21 _ _ _ h1
  have a22 : w2.cell? ⟨n0, 22, none⟩ = some (.string p.rd) := cell_of_row w2 (n0) 22 _ _ _ h0
  have b22 : w2.cell? ⟨n0 + 1, 22, none⟩ = some (.string q.rd) := cell_of_row w2 (n0 + 1) 22 _ _ _ h1
  have lC0 : (Ob.load 30 (pt (n0) 10) (.agg (callA p))).Holds Tryz.prog w2 := run_loadAt_mid (P := Tryz.prog) w2 (n0) 10 30 (callA p).toList _ (World.rangeAt_of_block h0 10 8) Tryz.underlying30 rfl (by kernel_rfl)
  have lC1 : (Ob.load 30 (pt (n0 + 1) 10) (.agg (callA q))).Holds Tryz.prog w2 := run_loadAt_mid (P := Tryz.prog) w2 (n0 + 1) 10 30 (callA q).toList _ (World.rangeAt_of_block h1 10 8) Tryz.underlying30 rfl (by kernel_rfl)
  have cC : (Ob.bin .eql 30 (.agg (callA p)) (.agg (callA q)) (.bool rC)).Holds Tryz.prog w2 := ⟨fun _ _ => agg_guard Tryz.gCall _ _ _ _ _ w2, HrC.out w2⟩
  have lN0 : (Ob.load 39 (pt (n0) 28) (.agg (nodeA p))).Holds Tryz.prog w2 := run_loadAt_mid (P := Tryz.prog) w2 (n0) 28 39 (nodeA p).toList _ (World.rangeAt_of_block h0 28 15) Tryz.underlying39 rfl (by kernel_rfl)
  have lN1 : (Ob.load 39 (pt (n0 + 1) 28) (.agg (nodeA q))).Holds Tryz.prog w2 := run_loadAt_mid (P := Tryz.prog) w2 (n0 + 1) 28 39 (nodeA q).toList _ (World.rangeAt_of_block h1 28 15) Tryz.underlying39 rfl (by kernel_rfl)
  have cN : (Ob.bin .eql 39 (.agg (nodeA p)) (.agg (nodeA q)) (.bool rN)).Holds Tryz.prog w2 := ⟨fun _ _ => ino_guard _ _ _ _ _ w2, HrN.out w2⟩
  have lI0 : (Ob.load 33 (pt (n0) 24) (.agg (infoA p))).Holds Tryz.prog w2 := run_loadAt_mid (P := Tryz.prog) w2 (n0) 24 33 (infoA p).toList _ (World.rangeAt_of_block h0 24 3) Tryz.underlying33 rfl (by kernel_rfl)
  have lI1 : (Ob.load 33 (pt (n0 + 1) 24) (.agg (infoA q))).Holds Tryz.prog w2 := run_loadAt_mid (P := Tryz.prog) w2 (n0 + 1) 24 33 (infoA q).toList _ (World.rangeAt_of_block h1 24 3) Tryz.underlying33 rfl (by kernel_rfl)
  have cI : (Ob.bin .eql 33 (.agg (infoA p)) (.agg (infoA q)) (.bool rI)).Holds Tryz.prog w2 := ⟨fun _ _ => agg_guard Tryz.gInfo _ _ _ _ _ w2, HrI.out w2⟩
  clear h0 h1
  have hA : AllOb Tryz.prog w2 [] := trivial
  have hA := obc cC (obc lC1 (obc (faP10 (n0 + 1) w2) (obc lC0 (obc (faP10 n0 w2) hA))))
  rcases bdic rC with h | h
  · subst h
    refine wp_region_lit (sym_region [(85, pt n0 10), (86, .agg (callA p)), (87, pt (n0 + 1) 10), (88, .agg (callA q)), (89, .bool false)] 154 [(2, pt n0 0), (3, pt (n0 + 1) 0)] [Operand.tmp 4] [.bool false] _ hz0 (by kernel_rfl) hv (by kernel_rfl) hA fun a' ha hz hd => ?_)
    have he : a'.eval (.tmp 4) = .bool false := (List.cons.inj ha).1
    clear ha
    refine hK3 a' w2 (wp_ret ?_)
    try simp only [Exit.then]
    refine bodyPost_ret (results_tmp rfl _ _ _) (hd.trans hd0) ?_
    rw [show a'.tmps.getD 4 undef = _ from he]
    exact ⟨false, rfl, fun h => absurd (HcC.out h) (by simp), HB3.out⟩
  subst h
  by_cases h18 : p.ino = q.ino
  rotate_left
  · have hN := obc (eqlI_no h18 w2) (obc (ldI b18) (obc (faP11 (n0 + 1) w2) (obc (ldI a18) (obc (faP11 n0 w2) hA))))
    refine wp_region_lit (sym_region [(85, pt n0 10), (86, .agg (callA p)), (87, pt (n0 + 1) 10), (88, .agg (callA q)), (89, .bool true), (91, pt n0 18), (92, .int .i64 p.ino), (93, pt (n0 + 1) 18), (94, .int .i64 q.ino), (95, .bool false)] 154 [(2, pt n0 0), (3, pt (n0 + 1) 0)] [Operand.tmp 4] [.bool false] _ hz0 (by kernel_rfl) hv (by kernel_rfl) hN fun a' ha hz hd => ?_)
    have he : a'.eval (.tmp 4) = .bool false := (List.cons.inj ha).1
    clear ha
    refine hK3 a' w2 (wp_ret ?_)
    try simp only [Exit.then]
    refine bodyPost_ret (results_tmp rfl _ _ _) (hd.trans hd0) ?_
    rw [show a'.tmps.getD 4 undef = _ from he]
    exact ⟨false, rfl, fun h => absurd (congrArg Pk.ino h) h18, HB3.out⟩
  rw [← h18] at b18
  have hA := obc (eqlI_yes p.ino w2) (obc (ldI b18) (obc (faP11 (n0 + 1) w2) (obc (ldI a18) (obc (faP11 n0 w2) hA))))
  clear h18 a18 b18
  by_cases h19 : p.er = q.er
  rotate_left
  · have hN := obc (eqlE_no h19 w2) (obc (ldE b19) (obc (faP12 (n0 + 1) w2) (obc (ldE a19) (obc (faP12 n0 w2) hA))))
    refine wp_region_lit (sym_region [(85, pt n0 10), (86, .agg (callA p)), (87, pt (n0 + 1) 10), (88, .agg (callA q)), (89, .bool true), (91, pt n0 18), (92, .int .i64 p.ino), (93, pt (n0 + 1) 18), (94, .int .i64 p.ino), (95, .bool true), (98, pt n0 19), (99, .int .i64 p.er), (100, pt (n0 + 1) 19), (101, .int .i64 q.er), (102, .bool false)] 154 [(2, pt n0 0), (3, pt (n0 + 1) 0)] [Operand.tmp 4] [.bool false] _ hz0 (by kernel_rfl) hv (by kernel_rfl) hN fun a' ha hz hd => ?_)
    have he : a'.eval (.tmp 4) = .bool false := (List.cons.inj ha).1
    clear ha
    refine hK3 a' w2 (wp_ret ?_)
    try simp only [Exit.then]
    refine bodyPost_ret (results_tmp rfl _ _ _) (hd.trans hd0) ?_
    rw [show a'.tmps.getD 4 undef = _ from he]
    exact ⟨false, rfl, fun h => absurd (congrArg Pk.er h) h19, HB3.out⟩
  rw [← h19] at b19
  have hA := obc (eqlE_yes p.er w2) (obc (ldE b19) (obc (faP12 (n0 + 1) w2) (obc (ldE a19) (obc (faP12 n0 w2) hA))))
  clear h19 a19 b19
  by_cases h27 : p.wr = q.wr
  rotate_left
  · have hN := obc (eqlI_no h27 w2) (obc (ldI b27) (obc (faP14 (n0 + 1) w2) (obc (ldI a27) (obc (faP14 n0 w2) hA))))
    refine wp_region_lit (sym_region [(85, pt n0 10), (86, .agg (callA p)), (87, pt (n0 + 1) 10), (88, .agg (callA q)), (89, .bool true), (91, pt n0 18), (92, .int .i64 p.ino), (93, pt (n0 + 1) 18), (94, .int .i64 p.ino), (95, .bool true), (98, pt n0 19), (99, .int .i64 p.er), (100, pt (n0 + 1) 19), (101, .int .i64 p.er), (102, .bool true), (105, pt n0 27), (106, .int .i64 p.wr), (107, pt (n0 + 1) 27), (108, .int .i64 q.wr), (109, .bool false)] 154 [(2, pt n0 0), (3, pt (n0 + 1) 0)] [Operand.tmp 4] [.bool false] _ hz0 (by kernel_rfl) hv (by kernel_rfl) hN fun a' ha hz hd => ?_)
    have he : a'.eval (.tmp 4) = .bool false := (List.cons.inj ha).1
    clear ha
    refine hK3 a' w2 (wp_ret ?_)
    try simp only [Exit.then]
    refine bodyPost_ret (results_tmp rfl _ _ _) (hd.trans hd0) ?_
    rw [show a'.tmps.getD 4 undef = _ from he]
    exact ⟨false, rfl, fun h => absurd (congrArg Pk.wr h) h27, HB3.out⟩
  rw [← h27] at b27
  have hA := obc (eqlI_yes p.wr w2) (obc (ldI b27) (obc (faP14 (n0 + 1) w2) (obc (ldI a27) (obc (faP14 n0 w2) hA))))
  clear h27 a27 b27
  have hA := obc cN (obc lN1 (obc (faP15 (n0 + 1) w2) (obc lN0 (obc (faP15 n0 w2) hA))))
  rcases bdic rN with h | h
  · subst h
    refine wp_region_lit (sym_region [(85, pt n0 10), (86, .agg (callA p)), (87, pt (n0 + 1) 10), (88, .agg (callA q)), (89, .bool true), (91, pt n0 18), (92, .int .i64 p.ino), (93, pt (n0 + 1) 18), (94, .int .i64 p.ino), (95, .bool true), (98, pt n0 19), (99, .int .i64 p.er), (100, pt (n0 + 1) 19), (101, .int .i64 p.er), (102, .bool true), (105, pt n0 27), (106, .int .i64 p.wr), (107, pt (n0 + 1) 27), (108, .int .i64 p.wr), (109, .bool true), (112, pt n0 28), (113, .agg (nodeA p)), (114, pt (n0 + 1) 28), (115, .agg (nodeA q)), (116, .bool false)] 154 [(2, pt n0 0), (3, pt (n0 + 1) 0)] [Operand.tmp 4] [.bool false] _ hz0 (by kernel_rfl) hv (by kernel_rfl) hA fun a' ha hz hd => ?_)
    have he : a'.eval (.tmp 4) = .bool false := (List.cons.inj ha).1
    clear ha
    refine hK3 a' w2 (wp_ret ?_)
    try simp only [Exit.then]
    refine bodyPost_ret (results_tmp rfl _ _ _) (hd.trans hd0) ?_
    rw [show a'.tmps.getD 4 undef = _ from he]
    exact ⟨false, rfl, fun h => absurd (HcN.out h) (by simp), HB3.out⟩
  subst h
  by_cases h20 : p.re = q.re
  rotate_left
  · have hN := obc (eqlE_no h20 w2) (obc (ldE b20) (obc (faR0 (n0 + 1) w2) (obc (faP13 (n0 + 1) w2) (obc (ldE a20) (obc (faR0 n0 w2) (obc (faP13 n0 w2) hA))))))
    refine wp_region_lit (sym_region [(85, pt n0 10), (86, .agg (callA p)), (87, pt (n0 + 1) 10), (88, .agg (callA q)), (89, .bool true), (91, pt n0 18), (92, .int .i64 p.ino), (93, pt (n0 + 1) 18), (94, .int .i64 p.ino), (95, .bool true), (98, pt n0 19), (99, .int .i64 p.er), (100, pt (n0 + 1) 19), (101, .int .i64 p.er), (102, .bool true), (105, pt n0 27), (106, .int .i64 p.wr), (107, pt (n0 + 1) 27), (108, .int .i64 p.wr), (109, .bool true), (112, pt n0 28), (113, .agg (nodeA p)), (114, pt (n0 + 1) 28), (115, .agg (nodeA q)), (116, .bool true), (119, pt n0 20), (120, pt n0 20), (121, .int .i64 p.re), (122, pt (n0 + 1) 20), (123, pt (n0 + 1) 20), (124, .int .i64 q.re), (125, .bool false)] 154 [(2, pt n0 0), (3, pt (n0 + 1) 0)] [Operand.tmp 4] [.bool false] _ hz0 (by kernel_rfl) hv (by kernel_rfl) hN fun a' ha hz hd => ?_)
    have he : a'.eval (.tmp 4) = .bool false := (List.cons.inj ha).1
    clear ha
    refine hK3 a' w2 (wp_ret ?_)
    try simp only [Exit.then]
    refine bodyPost_ret (results_tmp rfl _ _ _) (hd.trans hd0) ?_
    rw [show a'.tmps.getD 4 undef = _ from he]
    exact ⟨false, rfl, fun h => absurd (congrArg Pk.re h) h20, HB3.out⟩
  rw [← h20] at b20
  have hA := obc (eqlE_yes p.re w2) (obc (ldE b20) (obc (faR0 (n0 + 1) w2) (obc (faP13 (n0 + 1) w2) (obc (ldE a20) (obc (faR0 n0 w2) (obc (faP13 n0 w2) hA))))))
  clear h20 a20 b20
  by_cases h21 : p.rfd = q.rfd
  rotate_left
  · have hN := obc (eqlI_no h21 w2) (obc (ldI b21) (obc (faR1 (n0 + 1) w2) (obc (faP13 (n0 + 1) w2) (obc (ldI a21) (obc (faR1 n0 w2) (obc (faP13 n0 w2) hA))))))
    refine wp_region_lit (sym_region [(85, pt n0 10), (86, .agg (callA p)), (87, pt (n0 + 1) 10), (88, .agg (callA q)), (89, .bool true), (91, pt n0 18), (92, .int .i64 p.ino), (93, pt (n0 + 1) 18), (94, .int .i64 p.ino), (95, .bool true), (98, pt n0 19), (99, .int .i64 p.er), (100, pt (n0 + 1) 19), (101, .int .i64 p.er), (102, .bool true), (105, pt n0 27), (106, .int .i64 p.wr), (107, pt (n0 + 1) 27), (108, .int .i64 p.wr), (109, .bool true), (112, pt n0 28), (113, .agg (nodeA p)), (114, pt (n0 + 1) 28), (115, .agg (nodeA q)), (116, .bool true), (119, pt n0 20), (120, pt n0 20), (121, .int .i64 p.re), (122, pt (n0 + 1) 20), (123, pt (n0 + 1) 20), (124, .int .i64 p.re), (125, .bool true), (128, pt n0 20), (129, pt n0 21), (130, .int .i64 p.rfd), (131, pt (n0 + 1) 20), (132, pt (n0 + 1) 21), (133, .int .i64 q.rfd), (134, .bool false)] 154 [(2, pt n0 0), (3, pt (n0 + 1) 0)] [Operand.tmp 4] [.bool false] _ hz0 (by kernel_rfl) hv (by kernel_rfl) hN fun a' ha hz hd => ?_)
    have he : a'.eval (.tmp 4) = .bool false := (List.cons.inj ha).1
    clear ha
    refine hK3 a' w2 (wp_ret ?_)
    try simp only [Exit.then]
    refine bodyPost_ret (results_tmp rfl _ _ _) (hd.trans hd0) ?_
    rw [show a'.tmps.getD 4 undef = _ from he]
    exact ⟨false, rfl, fun h => absurd (congrArg Pk.rfd h) h21, HB3.out⟩
  rw [← h21] at b21
  have hA := obc (eqlI_yes p.rfd w2) (obc (ldI b21) (obc (faR1 (n0 + 1) w2) (obc (faP13 (n0 + 1) w2) (obc (ldI a21) (obc (faR1 n0 w2) (obc (faP13 n0 w2) hA))))))
  clear h21 a21 b21
  by_cases h22 : p.rd.toList = q.rd.toList
  rotate_left
  · have hN := obc (eqlS_no h22 w2) (obc (ldS b22) (obc (faR2 (n0 + 1) w2) (obc (faP13 (n0 + 1) w2) (obc (ldS a22) (obc (faR2 n0 w2) (obc (faP13 n0 w2) hA))))))
    refine wp_region_lit (sym_region [(85, pt n0 10), (86, .agg (callA p)), (87, pt (n0 + 1) 10), (88, .agg (callA q)), (89, .bool true), (91, pt n0 18), (92, .int .i64 p.ino), (93, pt (n0 + 1) 18), (94, .int .i64 p.ino), (95, .bool true), (98, pt n0 19), (99, .int .i64 p.er), (100, pt (n0 + 1) 19), (101, .int .i64 p.er), (102, .bool true), (105, pt n0 27), (106, .int .i64 p.wr), (107, pt (n0 + 1) 27), (108, .int .i64 p.wr), (109, .bool true), (112, pt n0 28), (113, .agg (nodeA p)), (114, pt (n0 + 1) 28), (115, .agg (nodeA q)), (116, .bool true), (119, pt n0 20), (120, pt n0 20), (121, .int .i64 p.re), (122, pt (n0 + 1) 20), (123, pt (n0 + 1) 20), (124, .int .i64 p.re), (125, .bool true), (128, pt n0 20), (129, pt n0 21), (130, .int .i64 p.rfd), (131, pt (n0 + 1) 20), (132, pt (n0 + 1) 21), (133, .int .i64 p.rfd), (134, .bool true), (137, pt n0 20), (138, pt n0 22), (139, .string p.rd), (140, pt (n0 + 1) 20), (141, pt (n0 + 1) 22), (142, .string q.rd), (143, .bool false)] 154 [(2, pt n0 0), (3, pt (n0 + 1) 0)] [Operand.tmp 4] [.bool false] _ hz0 (by kernel_rfl) hv (by kernel_rfl) hN fun a' ha hz hd => ?_)
    have he : a'.eval (.tmp 4) = .bool false := (List.cons.inj ha).1
    clear ha
    refine hK3 a' w2 (wp_ret ?_)
    try simp only [Exit.then]
    refine bodyPost_ret (results_tmp rfl _ _ _) (hd.trans hd0) ?_
    rw [show a'.tmps.getD 4 undef = _ from he]
    exact ⟨false, rfl, fun h => absurd (congrArg (fun z : Pk => z.rd.toList) h) h22, HB3.out⟩
  have hA := obc (eqlS_yes h22 w2) (obc (ldS b22) (obc (faR2 (n0 + 1) w2) (obc (faP13 (n0 + 1) w2) (obc (ldS a22) (obc (faR2 n0 w2) (obc (faP13 n0 w2) hA))))))
  clear h22 a22 b22
  have hA := obc cI (obc lI1 (obc (faR4 (n0 + 1) w2) (obc (faP13 (n0 + 1) w2) (obc lI0 (obc (faR4 n0 w2) (obc (faP13 n0 w2) hA))))))
  rcases bdic rI with h | h
  · subst h
    refine wp_region_lit (sym_region [(85, pt n0 10), (86, .agg (callA p)), (87, pt (n0 + 1) 10), (88, .agg (callA q)), (89, .bool true), (91, pt n0 18), (92, .int .i64 p.ino), (93, pt (n0 + 1) 18), (94, .int .i64 p.ino), (95, .bool true), (98, pt n0 19), (99, .int .i64 p.er), (100, pt (n0 + 1) 19), (101, .int .i64 p.er), (102, .bool true), (105, pt n0 27), (106, .int .i64 p.wr), (107, pt (n0 + 1) 27), (108, .int .i64 p.wr), (109, .bool true), (112, pt n0 28), (113, .agg (nodeA p)), (114, pt (n0 + 1) 28), (115, .agg (nodeA q)), (116, .bool true), (119, pt n0 20), (120, pt n0 20), (121, .int .i64 p.re), (122, pt (n0 + 1) 20), (123, pt (n0 + 1) 20), (124, .int .i64 p.re), (125, .bool true), (128, pt n0 20), (129, pt n0 21), (130, .int .i64 p.rfd), (131, pt (n0 + 1) 20), (132, pt (n0 + 1) 21), (133, .int .i64 p.rfd), (134, .bool true), (137, pt n0 20), (138, pt n0 22), (139, .string p.rd), (140, pt (n0 + 1) 20), (141, pt (n0 + 1) 22), (142, .string q.rd), (143, .bool true), (146, pt n0 20), (147, pt n0 24), (148, .agg (infoA p)), (149, pt (n0 + 1) 20), (150, pt (n0 + 1) 24), (151, .agg (infoA q)), (152, .bool false)] 154 [(2, pt n0 0), (3, pt (n0 + 1) 0)] [Operand.tmp 4] [.bool false] _ hz0 (by kernel_rfl) hv (by kernel_rfl) hA fun a' ha hz hd => ?_)
    have he : a'.eval (.tmp 4) = .bool false := (List.cons.inj ha).1
    clear ha
    refine hK3 a' w2 (wp_ret ?_)
    try simp only [Exit.then]
    refine bodyPost_ret (results_tmp rfl _ _ _) (hd.trans hd0) ?_
    rw [show a'.tmps.getD 4 undef = _ from he]
    exact ⟨false, rfl, fun h => absurd (HcI.out h) (by simp), HB3.out⟩
  subst h
  refine wp_region_lit (sym_region [(85, pt n0 10), (86, .agg (callA p)), (87, pt (n0 + 1) 10), (88, .agg (callA q)), (89, .bool true), (91, pt n0 18), (92, .int .i64 p.ino), (93, pt (n0 + 1) 18), (94, .int .i64 p.ino), (95, .bool true), (98, pt n0 19), (99, .int .i64 p.er), (100, pt (n0 + 1) 19), (101, .int .i64 p.er), (102, .bool true), (105, pt n0 27), (106, .int .i64 p.wr), (107, pt (n0 + 1) 27), (108, .int .i64 p.wr), (109, .bool true), (112, pt n0 28), (113, .agg (nodeA p)), (114, pt (n0 + 1) 28), (115, .agg (nodeA q)), (116, .bool true), (119, pt n0 20), (120, pt n0 20), (121, .int .i64 p.re), (122, pt (n0 + 1) 20), (123, pt (n0 + 1) 20), (124, .int .i64 p.re), (125, .bool true), (128, pt n0 20), (129, pt n0 21), (130, .int .i64 p.rfd), (131, pt (n0 + 1) 20), (132, pt (n0 + 1) 21), (133, .int .i64 p.rfd), (134, .bool true), (137, pt n0 20), (138, pt n0 22), (139, .string p.rd), (140, pt (n0 + 1) 20), (141, pt (n0 + 1) 22), (142, .string q.rd), (143, .bool true), (146, pt n0 20), (147, pt n0 24), (148, .agg (infoA p)), (149, pt (n0 + 1) 20), (150, pt (n0 + 1) 24), (151, .agg (infoA q)), (152, .bool true)] 154 [(2, pt n0 0), (3, pt (n0 + 1) 0)] [Operand.tmp 4] [.bool true] _ hz0 (by kernel_rfl) hv (by kernel_rfl) hA fun a' ha hz hd => ?_)
  have he : a'.eval (.tmp 4) = .bool true := (List.cons.inj ha).1
  clear ha
  refine hK3 a' w2 (wp_ret ?_)
  try simp only [Exit.then]
  refine bodyPost_ret (results_tmp rfl _ _ _) (hd.trans hd0) ?_
  rw [show a'.tmps.getD 4 undef = _ from he]
  exact ⟨true, rfl, fun _ => rfl, HB3.out⟩
end Go.Proofs.YtiinponoeaihcaaGreat
