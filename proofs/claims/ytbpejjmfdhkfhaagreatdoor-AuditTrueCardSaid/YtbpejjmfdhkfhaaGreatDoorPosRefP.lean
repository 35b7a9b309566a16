/- Walks: the document's file. -/
import Derived.Test.YtbpejjmfdhkfhaaGreatDoorPosRefN
import Derived.StillTailTactics
set_option linter.unusedVariables false
set_option linter.unusedSimpArgs false
namespace Go.Proofs.YtbpejjmfdhkfhaaGreatDoor
open Go.RowKit

theorem RefF.dirLow {w : World} {r n : Nat} {S : Pz.Fil} {F : Nat → Prop} (h : RefF r S w F) (hn : n < S.N.length) :
    ∃ b c, w.cell? ⟨r, 0, none⟩ = some (.slice (some ⟨b, 0, none⟩) S.N.length c) ∧ w.cell? ⟨b, n * 3, none⟩ = some (.bool (Pz.isDir S.N n)) ∧ w.cell? ⟨b, n * 3 + 1, none⟩ = some (.string ⟨(Pz.nodeD S.N n).data.toArray⟩) ∧ w.cell? ⟨b, n * 3 + 2, none⟩ = some (.int .i64 (Pz.nodeD S.N n).links) ∧ r < w.heap.size ∧ b < w.heap.size := by
  obtain ⟨x, hx⟩ : ∃ x, S.N[n]? = some x := ⟨_, List.getElem?_eq_getElem hn⟩
  obtain ⟨b, c, h1, h8, _, _, h9, h2, h3, h4, _⟩ := h.node hx
  refine ⟨b, c, h1, ?_, ?_, ?_, h8, h9⟩
  · unfold Pz.isDir; rw [hx]; exact h2
  · unfold Pz.nodeD; rw [hx]; exact h3
  · unfold Pz.nodeD; rw [hx]; exact h4
theorem Fx.doneD {I : Pz.Fil → World → (Nat → Prop) → Prop} (hH : ∀ S, Held (I S)) {S : Pz.Fil} {F : Nat → Prop} {w0 w : World} {C : Array Value} (h : Fx (I S) F w0 C w) (u : ByteArray) (l : List UInt8) (hu : u.data.toList = l) (v0 v1 v2 v3 v4 v5 v6 : Value) :
    Does I (S, Pz.dataR l) w0 F (.returned (.agg #[.int .i64 0, .int .i64 0, .string u, .slice none 0 0, .int .i64 0, .int .i64 0, .int .i64 0])) (((((((w.setCell ⟨w0.heap.size + 1, 0, none⟩ v0).setCell ⟨w0.heap.size + 1, 1, none⟩ v1).setCell ⟨w0.heap.size + 1, 2, none⟩ v2).setCell ⟨w0.heap.size + 1, 3, none⟩ v3).setCell ⟨w0.heap.size + 1, 4, none⟩ v4).setCell ⟨w0.heap.size + 1, 5, none⟩ v5).setCell ⟨w0.heap.size + 1, 6, none⟩ v6) := by
  have := h.done hH (Pz.dataR l) none 0 (Or.inl rfl) v0 v1 v2 v3 v4 v5 v6
  rw [show repV (Pz.dataR l) none 0 = .agg #[.int .i64 0, .int .i64 0, .string u, .slice none 0 0, .int .i64 0, .int .i64 0, .int .i64 0] by rw [← hu]; unfold repV Pz.dataR; simp only [ba_mk]; rfl] at this
  exact this

theorem direct7 {I : Pz.Fil → World → (Nat → Prop) → Prop} (hH : ∀ S, Held (I S)) {S : Pz.Fil} {F : Nat → Prop} {w : World} (h : I S w F) (q : Pz.Rep) (A : Option Addr) (c : Nat) (hq : q.names = []) (o1 o2 : Obj) : Does I (S, q) w F (.returned (repV q A c)) ((w.alloc o1).alloc o2) := by
  have hb := ((Below.refl w.heap.size w).alloc (Nat.le_refl _) o1).alloc (by simp) o2
  exact ⟨A, c, rfl, Or.inl hq, (hH S).mono ((hH S).below h hb) fun _ _ e => Or.inl e, below_only hb F⟩
theorem direct7D {I : Pz.Fil → World → (Nat → Prop) → Prop} (hH : ∀ S, Held (I S)) {S : Pz.Fil} {F : Nat → Prop} {w : World} (h : I S w F) (u : ByteArray) (l : List UInt8) (hu : u.data.toList = l) (o1 o2 : Obj) :
    Does I (S, Pz.dataR l) w F (.returned (.agg #[.int .i64 0, .int .i64 0, .string u, .slice none 0 0, .int .i64 0, .int .i64 0, .int .i64 0])) ((w.alloc o1).alloc o2) := by
  have := direct7 hH h (Pz.dataR l) none 0 rfl o1 o2
  rw [show repV (Pz.dataR l) none 0 = .agg #[.int .i64 0, .int .i64 0, .string u, .slice none 0 0, .int .i64 0, .int .i64 0, .int .i64 0] by rw [← hu]; unfold repV Pz.dataR; simp only [ba_mk]; rfl] at this
  exact this

set_option maxHeartbeats 4000000 in
set_option maxRecDepth 8192 in
theorem rfile_sync (r : Nat) (S : Pz.Fil) (cl : Int) (m : Nat) (flags fd off n : Int) (p p2 data : ByteArray) (w : World) (F : Nat → Prop) (hpre : Pz.Good 1000 S) (hm : m < S.N.length) (hR : RefF r S w F) :
    Calls Tryz.prog 35 #[.pointer (some ⟨r, 0, none⟩), .int .i64 cl, .int .i64 m, callV 6 p p2 flags fd off n data] w (Does (RefF r) (S, Pz.er 0) w F) := by
  have HFail := Lib.hid rfails_any
  have hE := hpre.e
  have hOl := hpre.o
  have hdl := Pz.nodeD_data hpre hm
  have FX := Lib.hid (Fx.start (RefF.held r S) hR #[.int .i64 6, .string p, .string p2, .int .i64 flags, .int .i64 fd, .int .i64 off, .int .i64 n, .string data])
  obtain ⟨b, c, g, g0, g1, g2, hrl, hbl⟩ := hR.dirLow hm
  obtain ⟨D, hD⟩ : ∃ D : ByteArray, D = ⟨(Pz.nodeD S.N m).data.toArray⟩ := ⟨_, rfl⟩
  have hDs : D.size ≤ 256 := by rw [hD, Lib.size_eq]; exact hdl
  obtain ⟨q, hq⟩ : ∃ q, q = S.N.length := ⟨_, rfl⟩
  rw [← hD] at g1
  rw [← hq] at g
  have hm1 : (0 : Int) ≤ m := by omega
  have hm2 : (m : Int) < q := by omega
  have Hq := Lib.hid hq
  have HDD := Lib.hid hD
  have HR := Lib.hid hR
  clear hpre hR hE hOl hdl hD hq hm
  unfold callV
  go_enter Tryz.func35, Tryz.ntmps35
  go_wp2
  try simp only [Exit.inBlock, Exit.then]
  refine bodyPost_ret (results_cell_row rfl _ _ (w.heap.size + 1) _ _ _ _ rfl (heap_alloc2_new _ _ _) Tryz.underlying36 rfl Tryz.infoR) rfl ?_
  exact direct7 (RefF.held r) HR.out (Pz.er 0) none 0 rfl _ _

set_option maxHeartbeats 4000000 in
set_option maxRecDepth 8192 in
theorem rfile_read (r : Nat) (S : Pz.Fil) (cl : Int) (m : Nat) (flags fd off n : Int) (p p2 data : ByteArray) (w : World) (F : Nat → Prop) (hpre : Pz.Good 1000 S) (hm : m < S.N.length) (hR : RefF r S w F) :
    Calls Tryz.prog 35 #[.pointer (some ⟨r, 0, none⟩), .int .i64 cl, .int .i64 m, callV 3 p p2 flags fd off n data] w (Does (RefF r) (S, if off < 0 ∨ n < 0 ∨ 64 < n then Pz.er 15 else if ((Pz.nodeD S.N m).data.length : Int) ≤ off then Pz.er 0 else Pz.dataR (((Pz.nodeD S.N m).data.drop off.toNat).take n.toNat)) w F) := by
  have HFail := Lib.hid rfails_any
  have hE := hpre.e
  have hOl := hpre.o
  have hdl := Pz.nodeD_data hpre hm
  have FX := Lib.hid (Fx.start (RefF.held r S) hR #[.int .i64 3, .string p, .string p2, .int .i64 flags, .int .i64 fd, .int .i64 off, .int .i64 n, .string data])
  obtain ⟨b, c, g, g0, g1, g2, hrl, hbl⟩ := hR.dirLow hm
  obtain ⟨D, hD⟩ : ∃ D : ByteArray, D = ⟨(Pz.nodeD S.N m).data.toArray⟩ := ⟨_, rfl⟩
  have hDs : D.size ≤ 256 := by rw [hD, Lib.size_eq]; exact hdl
  obtain ⟨q, hq⟩ : ∃ q, q = S.N.length := ⟨_, rfl⟩
  rw [← hD] at g1
  rw [← hq] at g
  have hm1 : (0 : Int) ≤ m := by omega
  have hm2 : (m : Int) < q := by omega
  have Hq := Lib.hid hq
  have HDD := Lib.hid hD
  have HR := Lib.hid hR
  have hlen : ((Pz.nodeD S.N m).data.length : Int) = D.size := by rw [HDD.out, Lib.size_eq]
  rw [hlen]
  have hlist : (Pz.nodeD S.N m).data = D.data.toList := by rw [HDD.out]
  rw [hlist]
  clear hpre hR hE hOl hdl hD hq hm hlen hlist
  unfold callV
  by_cases h1 : off < 0
  · rw [if_pos (Or.inl h1)]
    go_enter Tryz.func35, Tryz.ntmps35
    go_wp2_with fail
    refine (HFail.out 15 _).mono ?_
    rintro e wf ⟨rfl, hbf⟩
    have FXF := Lib.hid (FX.out.read ((RefF.held r) _) hbf)
    unfold replyV
    have fxe := FXF.out
    obtain ⟨c0, c1, c2, c3, c4, c5, c6, hf7⟩ := cells7 fxe.res
    have f0 := hf7 0
    have f1 := hf7 1
    have f2 := hf7 2
    have f3 := hf7 3
    have f4 := hf7 4
    have f5 := hf7 5
    have f6 := hf7 6
    have HG := Lib.hid fxe
    clear hf7 fxe
    go_wp2
    try simp only [Exit.inBlock, Exit.then]
    refine bodyPost_ret (results_cell_row rfl _ _ (w.heap.size + 1) _ _ _ _ rfl (row7 HG.out.res _ _ _ _ _ _ _) Tryz.underlying36 rfl Tryz.infoR) rfl ?_
    exact HG.out.done (RefF.held r) (Pz.er 15) none 0 (Or.inl rfl) _ _ _ _ _ _ _
  have h1' : 0 ≤ off := by omega
  by_cases h2 : n < 0
  · rw [if_pos (Or.inr (Or.inl h2))]
    go_enter Tryz.func35, Tryz.ntmps35
    go_wp2_with fail
    refine (HFail.out 15 _).mono ?_
    rintro e wf ⟨rfl, hbf⟩
    have FXF := Lib.hid (FX.out.read ((RefF.held r) _) hbf)
    unfold replyV
    have fxe := FXF.out
    obtain ⟨c0, c1, c2, c3, c4, c5, c6, hf7⟩ := cells7 fxe.res
    have f0 := hf7 0
    have f1 := hf7 1
    have f2 := hf7 2
    have f3 := hf7 3
    have f4 := hf7 4
    have f5 := hf7 5
    have f6 := hf7 6
    have HG := Lib.hid fxe
    clear hf7 fxe
    go_wp2
    try simp only [Exit.inBlock, Exit.then]
    refine bodyPost_ret (results_cell_row rfl _ _ (w.heap.size + 1) _ _ _ _ rfl (row7 HG.out.res _ _ _ _ _ _ _) Tryz.underlying36 rfl Tryz.infoR) rfl ?_
    exact HG.out.done (RefF.held r) (Pz.er 15) none 0 (Or.inl rfl) _ _ _ _ _ _ _
  have h2' : 0 ≤ n := by omega
  by_cases h3 : 64 < n
  · rw [if_pos (Or.inr (Or.inr h3))]
    go_enter Tryz.func35, Tryz.ntmps35
    go_wp2_with fail
    refine (HFail.out 15 _).mono ?_
    rintro e wf ⟨rfl, hbf⟩
    have FXF := Lib.hid (FX.out.read ((RefF.held r) _) hbf)
    unfold replyV
    have fxe := FXF.out
    obtain ⟨c0, c1, c2, c3, c4, c5, c6, hf7⟩ := cells7 fxe.res
    have f0 := hf7 0
    have f1 := hf7 1
    have f2 := hf7 2
    have f3 := hf7 3
    have f4 := hf7 4
    have f5 := hf7 5
    have f6 := hf7 6
    have HG := Lib.hid fxe
    clear hf7 fxe
    go_wp2
    try simp only [Exit.inBlock, Exit.then]
    refine bodyPost_ret (results_cell_row rfl _ _ (w.heap.size + 1) _ _ _ _ rfl (row7 HG.out.res _ _ _ _ _ _ _) Tryz.underlying36 rfl Tryz.infoR) rfl ?_
    exact HG.out.done (RefF.held r) (Pz.er 15) none 0 (Or.inl rfl) _ _ _ _ _ _ _
  have h3' : n ≤ 64 := by omega
  rw [if_neg (by omega)]
  obtain ⟨o, rfl⟩ : ∃ o : Nat, off = o := ⟨off.toNat, by omega⟩
  obtain ⟨k, rfl⟩ : ∃ k : Nat, n = k := ⟨n.toNat, by omega⟩
  rw [Int.toNat_natCast, Int.toNat_natCast]
  by_cases h4 : (D.size : Int) ≤ o
  · rw [if_pos h4]
    go_enter Tryz.func35, Tryz.ntmps35
    go_wp2
    try simp only [Exit.inBlock, Exit.then]
    refine bodyPost_ret (results_cell_row rfl _ _ (w.heap.size + 1) _ _ _ _ rfl (heap_alloc2_new _ _ _) Tryz.underlying36 rfl Tryz.infoR) rfl ?_
    exact direct7 (RefF.held r) HR.out (Pz.er 0) none 0 rfl _ _
  rw [if_neg h4]
  have h5 : o < D.size := by omega
  have h6 : o ≤ D.size := by omega
  have h4' : (o : Int) < D.size := by omega
  have h7 : (D.extract o D.size).data.toList = D.data.toList.drop o := ba_tail D o
  have h8 : (D.extract o D.size).size = D.size - o := by rw [Lib.size_eq, h7, List.length_drop, ← Lib.size_eq]
  by_cases h9 : k < D.size - o
  · have HL : Hid (((D.extract o D.size).extract 0 k).data.toList = (D.data.toList.drop o).take k) := Lib.hid (by rw [ba_head, h7])
    have H7 := Lib.hid h7
    have hk1 : (k : Int) < (D.size : Int) - o := by omega
    clear h7
    go_enter Tryz.func35, Tryz.ntmps35
    go_wp2
    try simp only [Exit.inBlock, Exit.then]
    refine bodyPost_ret (results_cell_row rfl _ _ (w.heap.size + 1) _ _ _ _ rfl (heap_alloc2_new _ _ _) Tryz.underlying36 rfl Tryz.infoR) rfl ?_
    exact direct7D (RefF.held r) HR.out _ _ HL.out _ _
  · have HL : Hid ((D.extract o D.size).data.toList = (D.data.toList.drop o).take k) := Lib.hid (by rw [h7, List.take_of_length_le (by rw [List.length_drop, ← Lib.size_eq]; omega)])
    have hk1 : (D.size : Int) - o ≤ k := by omega
    clear h7
    go_enter Tryz.func35, Tryz.ntmps35
    go_wp2
    try simp only [Exit.inBlock, Exit.then]
    refine bodyPost_ret (results_cell_row rfl _ _ (w.heap.size + 1) _ _ _ _ rfl (heap_alloc2_new _ _ _) Tryz.underlying36 rfl Tryz.infoR) rfl ?_
    exact direct7D (RefF.held r) HR.out _ _ HL.out _ _

end Go.Proofs.YtbpejjmfdhkfhaaGreatDoor

/- Walks: the document's file: a write, a cut, a close. -/
namespace Go.Proofs.YtbpejjmfdhkfhaaGreatDoor
open Go.RowKit

theorem rsized_w (s : ByteArray) (n : Nat) (hs : s.size ≤ 1000000) (hn : n ≤ 1000000) (w : World) :
    Calls Tryz.prog 62 #[.string s, .int .i64 n] w fun e w' => e = .returned (.string ⟨(Pz.sized s.data.toList n).toArray⟩) ∧ Below w.heap.size w w' :=
  (rsized_any s n w hs hn).mono fun e w' ⟨⟨u, he, hu⟩, hw⟩ => ⟨by rw [he, ← hu, ba_mk], hw ▸ Below.refl _ _⟩
theorem rsized_q (s : ByteArray) (n : Nat) (hs : s.size ≤ 1000000) (hn : n ≤ 1000000) (w : World) :
    Calls Tryz.prog 62 #[.string s, .int .i64 n] w fun e w' => e = .returned (.string ⟨(Pz.sized s.data.toList n).toArray⟩) ∧ w = w' :=
  (rsized_any s n w hs hn).mono fun e w' ⟨⟨u, he, hu⟩, hw⟩ => ⟨by rw [he, ← hu, ba_mk], hw⟩
/-- a node's bytes laid anew, as one string -/
theorem RefF.dataAt {w : World} {r n : Nat} {S : Pz.Fil} {F : Nat → Prop} (h : RefF r S w F) (hn : n < S.N.length) :
    ∃ b c, w.cell? ⟨r, 0, none⟩ = some (.slice (some ⟨b, 0, none⟩) S.N.length c) ∧ w.cell? ⟨b, n * 3 + 1, none⟩ = some (.string ⟨(Pz.nodeD S.N n).data.toArray⟩) ∧ w.frozen? ⟨b, n * 3 + 1, none⟩ = false ∧
      (∀ v : ByteArray, RefF r { S with N := S.N.set n { Pz.nodeD S.N n with data := v.data.toList } } (w.setCell ⟨b, n * 3 + 1, none⟩ (.string v)) F ∧ Only F w (w.setCell ⟨b, n * 3 + 1, none⟩ (.string v))) := by
  obtain ⟨b, c, h1, _, h2, _, h3, _, h4, _⟩ := h.nodeAt hn
  refine ⟨b, c, h1, h2, h3, fun v => ?_⟩
  have := h4 v.data.toList
  rwa [ba_mk] at this

set_option maxHeartbeats 4000000 in
set_option maxRecDepth 8192 in
theorem rfile_write_no1 (r : Nat) (S : Pz.Fil) (cl : Int) (m : Nat) (flags fd off n : Int) (p p2 data : ByteArray) (w : World) (F : Nat → Prop) (hpre : Pz.Good 1000 S) (hm : m < S.N.length) (hbad : off < 0 ∨ 64 < data.size) (hR : RefF r S w F) :
    Calls Tryz.prog 35 #[.pointer (some ⟨r, 0, none⟩), .int .i64 cl, .int .i64 m, callV 4 p p2 flags fd off n data] w (Does (RefF r) (Pz.file S cl m 4 fd off n data.data.toList) w F) := by
  have HFail := Lib.hid rfails_any
  have hE := hpre.e
  have hOl := hpre.o
  have hdl := Pz.nodeD_data hpre hm
  have FX := Lib.hid (Fx.start (RefF.held r S) hR #[.int .i64 4, .string p, .string p2, .int .i64 flags, .int .i64 fd, .int .i64 off, .int .i64 n, .string data])
  obtain ⟨b, c, g, g0, g1, g2, hrl, hbl⟩ := hR.dirLow hm
  obtain ⟨D, hD⟩ : ∃ D : ByteArray, D = ⟨(Pz.nodeD S.N m).data.toArray⟩ := ⟨_, rfl⟩
  have hDs : D.size ≤ 256 := by rw [hD, Lib.size_eq]; exact hdl
  obtain ⟨q, hq⟩ : ∃ q, q = S.N.length := ⟨_, rfl⟩
  rw [← hD] at g1
  rw [← hq] at g
  have hm1 : (0 : Int) ≤ m := by omega
  have hm2 : (m : Int) < q := by omega
  have Hq := Lib.hid hq
  have HDD := Lib.hid hD
  have HR := Lib.hid hR
  have HSz := Lib.hid fun (k : Nat) (hk : k ≤ 256) W => rsized_w D k (by omega) (by omega) W
  have HDat := Lib.hid fun W G (h : RefF r S W G) => h.dataAt hm
  obtain ⟨R, hres⟩ : ∃ R, R = Pz.file S cl m 4 fd off n data.data.toList := ⟨_, rfl⟩
  rw [← hres]
  have HRes : Hid (R = if off < 0 ∨ 64 < data.size then (S, Pz.er 15) else if data.size = 0 then (S, Pz.er 0) else if 256 < off ∨ 256 < off + data.size then (S, Pz.er 19)
    else ({ S with N := S.N.set m { Pz.nodeD S.N m with data := Pz.laid D.data.toList off.toNat data.data.toList } }, Pz.er 0)) := Lib.hid (by
      rw [hres]
      unfold Pz.file
      rw [if_neg (by decide), if_neg (by decide), if_pos rfl, Lib.size_eq data, hD])
  clear hpre hR hE hOl hdl hD hm hres
  rw [← hq] at HDat
  clear hq
  unfold callV
  by_cases h1 : off < 0
  · have HRes1 := Lib.hid (HRes.out.trans (if_pos (Or.inl h1)))
    go_enter Tryz.func35, Tryz.ntmps35
    go_wp2_with fail
    refine (HFail.out 15 _).mono ?_
    rintro e wf ⟨rfl, hbf⟩
    have FXF := Lib.hid (FX.out.read ((RefF.held r) _) hbf)
    unfold replyV
    have fxe := FXF.out
    obtain ⟨c0, c1, c2, c3, c4, c5, c6, hf7⟩ := cells7 fxe.res
    have f0 := hf7 0
    have f1 := hf7 1
    have f2 := hf7 2
    have f3 := hf7 3
    have f4 := hf7 4
    have f5 := hf7 5
    have f6 := hf7 6
    have HG := Lib.hid fxe
    clear hf7 fxe
    go_wp2
    try simp only [Exit.inBlock, Exit.then]
    refine bodyPost_ret (results_cell_row rfl _ _ (w.heap.size + 1) _ _ _ _ rfl (row7 HG.out.res _ _ _ _ _ _ _) Tryz.underlying36 rfl Tryz.infoR) rfl ?_
    rw [HRes1.out]
    exact HG.out.done (RefF.held r) (Pz.er 15) none 0 (Or.inl rfl) _ _ _ _ _ _ _
  by_cases h2 : 64 < data.size
  · have HRes1 := Lib.hid (HRes.out.trans (if_pos (Or.inr h2)))
    have h1' : 0 ≤ off := by omega
    have h2' : (64 : Int) < data.size := by omega
    go_enter Tryz.func35, Tryz.ntmps35
    go_wp2_with fail
    refine (HFail.out 15 _).mono ?_
    rintro e wf ⟨rfl, hbf⟩
    have FXF := Lib.hid (FX.out.read ((RefF.held r) _) hbf)
    unfold replyV
    have fxe := FXF.out
    obtain ⟨c0, c1, c2, c3, c4, c5, c6, hf7⟩ := cells7 fxe.res
    have f0 := hf7 0
    have f1 := hf7 1
    have f2 := hf7 2
    have f3 := hf7 3
    have f4 := hf7 4
    have f5 := hf7 5
    have f6 := hf7 6
    have HG := Lib.hid fxe
    clear hf7 fxe
    go_wp2
    try simp only [Exit.inBlock, Exit.then]
    refine bodyPost_ret (results_cell_row rfl _ _ (w.heap.size + 1) _ _ _ _ rfl (row7 HG.out.res _ _ _ _ _ _ _) Tryz.underlying36 rfl Tryz.infoR) rfl ?_
    rw [HRes1.out]
    exact HG.out.done (RefF.held r) (Pz.er 15) none 0 (Or.inl rfl) _ _ _ _ _ _ _
  exact absurd hbad (by omega)

set_option maxHeartbeats 4000000 in
set_option maxRecDepth 8192 in
theorem rfile_write_no2 (r : Nat) (S : Pz.Fil) (cl : Int) (m : Nat) (flags fd off n : Int) (p p2 data : ByteArray) (w : World) (F : Nat → Prop) (hpre : Pz.Good 1000 S) (hm : m < S.N.length) (hok : 0 ≤ off ∧ data.size ≤ 64) (hbad : data.size = 0 ∨ 256 < off + data.size) (hR : RefF r S w F) :
    Calls Tryz.prog 35 #[.pointer (some ⟨r, 0, none⟩), .int .i64 cl, .int .i64 m, callV 4 p p2 flags fd off n data] w (Does (RefF r) (Pz.file S cl m 4 fd off n data.data.toList) w F) := by
  have HFail := Lib.hid rfails_any
  have hE := hpre.e
  have hOl := hpre.o
  have hdl := Pz.nodeD_data hpre hm
  have FX := Lib.hid (Fx.start (RefF.held r S) hR #[.int .i64 4, .string p, .string p2, .int .i64 flags, .int .i64 fd, .int .i64 off, .int .i64 n, .string data])
  obtain ⟨b, c, g, g0, g1, g2, hrl, hbl⟩ := hR.dirLow hm
  obtain ⟨D, hD⟩ : ∃ D : ByteArray, D = ⟨(Pz.nodeD S.N m).data.toArray⟩ := ⟨_, rfl⟩
  have hDs : D.size ≤ 256 := by rw [hD, Lib.size_eq]; exact hdl
  obtain ⟨q, hq⟩ : ∃ q, q = S.N.length := ⟨_, rfl⟩
  rw [← hD] at g1
  rw [← hq] at g
  have hm1 : (0 : Int) ≤ m := by omega
  have hm2 : (m : Int) < q := by omega
  have Hq := Lib.hid hq
  have HDD := Lib.hid hD
  have HR := Lib.hid hR
  have HSz := Lib.hid fun (k : Nat) (hk : k ≤ 256) W => rsized_w D k (by omega) (by omega) W
  have HDat := Lib.hid fun W G (h : RefF r S W G) => h.dataAt hm
  obtain ⟨R, hres⟩ : ∃ R, R = Pz.file S cl m 4 fd off n data.data.toList := ⟨_, rfl⟩
  rw [← hres]
  have HRes : Hid (R = if off < 0 ∨ 64 < data.size then (S, Pz.er 15) else if data.size = 0 then (S, Pz.er 0) else if 256 < off ∨ 256 < off + data.size then (S, Pz.er 19)
    else ({ S with N := S.N.set m { Pz.nodeD S.N m with data := Pz.laid D.data.toList off.toNat data.data.toList } }, Pz.er 0)) := Lib.hid (by
      rw [hres]
      unfold Pz.file
      rw [if_neg (by decide), if_neg (by decide), if_pos rfl, Lib.size_eq data, hD])
  clear hpre hR hE hOl hdl hD hm hres
  rw [← hq] at HDat
  clear hq
  unfold callV
  have HRes1 := Lib.hid (HRes.out.trans (if_neg (by omega)))
  obtain ⟨o, rfl⟩ : ∃ o : Nat, off = o := ⟨off.toNat, by omega⟩
  have h1' : (0 : Int) ≤ o := by omega
  have h2' : (data.size : Int) ≤ 64 := by omega
  by_cases h3 : data.size = 0
  · have HRes2 := Lib.hid (HRes1.out.trans (if_pos h3))
    have h3' : ((data.size : Int) == 0) = true := by rw [beq_iff_eq]; omega
    go_enter Tryz.func35, Tryz.ntmps35
    go_wp2
    try simp only [Exit.inBlock, Exit.then]
    refine bodyPost_ret (results_cell_row rfl _ _ (w.heap.size + 1) _ _ _ _ rfl (heap_alloc2_new _ _ _) Tryz.underlying36 rfl Tryz.infoR) rfl ?_
    rw [HRes2.out]
    exact direct7 (RefF.held r) HR.out (Pz.er 0) none 0 rfl _ _
  have HRes2 := Lib.hid (HRes1.out.trans (if_neg h3))
  have h3' : ((data.size : Int) == 0) = false := by rw [beq_eq_false_iff_ne]; omega
  by_cases h4 : 256 < o
  · have HRes3 := Lib.hid (HRes2.out.trans (if_pos (Or.inl (by omega))))
    have h4' : (256 : Int) < o := by omega
    go_enter Tryz.func35, Tryz.ntmps35
    go_wp2_with fail
    refine (HFail.out 19 _).mono ?_
    rintro e wf ⟨rfl, hbf⟩
    have FXF := Lib.hid (FX.out.read ((RefF.held r) _) hbf)
    unfold replyV
    have fxe := FXF.out
    obtain ⟨c0, c1, c2, c3, c4, c5, c6, hf7⟩ := cells7 fxe.res
    have f0 := hf7 0
    have f1 := hf7 1
    have f2 := hf7 2
    have f3 := hf7 3
    have f4 := hf7 4
    have f5 := hf7 5
    have f6 := hf7 6
    have HG := Lib.hid fxe
    clear hf7 fxe
    go_wp2
    try simp only [Exit.inBlock, Exit.then]
    refine bodyPost_ret (results_cell_row rfl _ _ (w.heap.size + 1) _ _ _ _ rfl (row7 HG.out.res _ _ _ _ _ _ _) Tryz.underlying36 rfl Tryz.infoR) rfl ?_
    rw [HRes3.out]
    exact HG.out.done (RefF.held r) (Pz.er 19) none 0 (Or.inl rfl) _ _ _ _ _ _ _
  have h4' : (o : Int) ≤ 256 := by omega
  by_cases h5 : 256 < o + data.size
  · have HRes3 := Lib.hid (HRes2.out.trans (if_pos (Or.inr (by omega))))
    have h5' : (256 : Int) < o + data.size := by omega
    go_enter Tryz.func35, Tryz.ntmps35
    go_wp2_with fail
    refine (HFail.out 19 _).mono ?_
    rintro e wf ⟨rfl, hbf⟩
    have FXF := Lib.hid (FX.out.read ((RefF.held r) _) hbf)
    unfold replyV
    have fxe := FXF.out
    obtain ⟨c0, c1, c2, c3, c4, c5, c6, hf7⟩ := cells7 fxe.res
    have f0 := hf7 0
    have f1 := hf7 1
    have f2 := hf7 2
    have f3 := hf7 3
    have f4 := hf7 4
    have f5 := hf7 5
    have f6 := hf7 6
    have HG := Lib.hid fxe
    clear hf7 fxe
    go_wp2
    try simp only [Exit.inBlock, Exit.then]
    refine bodyPost_ret (results_cell_row rfl _ _ (w.heap.size + 1) _ _ _ _ rfl (row7 HG.out.res _ _ _ _ _ _ _) Tryz.underlying36 rfl Tryz.infoR) rfl ?_
    rw [HRes3.out]
    exact HG.out.done (RefF.held r) (Pz.er 19) none 0 (Or.inl rfl) _ _ _ _ _ _ _
  exact absurd hbad (by omega)

end Go.Proofs.YtbpejjmfdhkfhaaGreatDoor

/- Walks: the document's file: a write, a cut, a close. -/
namespace Go.Proofs.YtbpejjmfdhkfhaaGreatDoor
open Go.RowKit

set_option maxHeartbeats 4000000 in
set_option maxRecDepth 8192 in
theorem rfile_write_yes (r : Nat) (S : Pz.Fil) (cl : Int) (m : Nat) (flags fd off n : Int) (p p2 data : ByteArray) (w : World) (F : Nat → Prop) (hpre : Pz.Good 1000 S) (hm : m < S.N.length) (hok : 0 ≤ off ∧ data.size ≤ 64 ∧ 0 < data.size ∧ off + data.size ≤ 256) (hR : RefF r S w F) :
    Calls Tryz.prog 35 #[.pointer (some ⟨r, 0, none⟩), .int .i64 cl, .int .i64 m, callV 4 p p2 flags fd off n data] w (Does (RefF r) (Pz.file S cl m 4 fd off n data.data.toList) w F) := by
  have HFail := Lib.hid rfails_any
  have hE := hpre.e
  have hOl := hpre.o
  have hdl := Pz.nodeD_data hpre hm
  have FX := Lib.hid (Fx.start (RefF.held r S) hR #[.int .i64 4, .string p, .string p2, .int .i64 flags, .int .i64 fd, .int .i64 off, .int .i64 n, .string data])
  obtain ⟨b, c, g, g0, g1, g2, hrl, hbl⟩ := hR.dirLow hm
  obtain ⟨D, hD⟩ : ∃ D : ByteArray, D = ⟨(Pz.nodeD S.N m).data.toArray⟩ := ⟨_, rfl⟩
  have hDs : D.size ≤ 256 := by rw [hD, Lib.size_eq]; exact hdl
  obtain ⟨q, hq⟩ : ∃ q, q = S.N.length := ⟨_, rfl⟩
  rw [← hD] at g1
  rw [← hq] at g
  have hm1 : (0 : Int) ≤ m := by omega
  have hm2 : (m : Int) < q := by omega
  have Hq := Lib.hid hq
  have HDD := Lib.hid hD
  have HR := Lib.hid hR
  have HSz := Lib.hid fun (k : Nat) (hk : k ≤ 256) W => rsized_w D k (by omega) (by omega) W
  have HDat := Lib.hid fun W G (h : RefF r S W G) => h.dataAt hm
  obtain ⟨R, hres⟩ : ∃ R, R = Pz.file S cl m 4 fd off n data.data.toList := ⟨_, rfl⟩
  rw [← hres]
  have HRes : Hid (R = if off < 0 ∨ 64 < data.size then (S, Pz.er 15) else if data.size = 0 then (S, Pz.er 0) else if 256 < off ∨ 256 < off + data.size then (S, Pz.er 19)
    else ({ S with N := S.N.set m { Pz.nodeD S.N m with data := Pz.laid D.data.toList off.toNat data.data.toList } }, Pz.er 0)) := Lib.hid (by
      rw [hres]
      unfold Pz.file
      rw [if_neg (by decide), if_neg (by decide), if_pos rfl, Lib.size_eq data, hD])
  clear hpre hR hE hOl hdl hD hm hres
  rw [← hq] at HDat
  clear hq
  unfold callV
  have HRes3 : Hid (R = ({ S with N := S.N.set m { Pz.nodeD S.N m with data := Pz.laid D.data.toList off.toNat data.data.toList } }, Pz.er 0)) := Lib.hid (by
    rw [HRes.out, if_neg (by omega), if_neg (by omega), if_neg (by omega)])
  clear HRes
  obtain ⟨o, rfl⟩ : ∃ o : Nat, off = o := ⟨off.toNat, by omega⟩
  have h1' : (0 : Int) ≤ o := by omega
  have h2' : (data.size : Int) ≤ 64 := by omega
  have h3' : ((data.size : Int) == 0) = false := by rw [beq_eq_false_iff_ne]; omega
  have h4' : (o : Int) ≤ 256 := by omega
  have h5' : (o : Int) + data.size ≤ 256 := by omega
  have hds : data.size ≤ 64 := by omega
  have hsz := HSz.out o (by omega)
  obtain ⟨u, hu⟩ : ∃ u : ByteArray, u = ⟨(Pz.sized D.data.toList o).toArray⟩ := ⟨_, rfl⟩
  rw [← hu] at hsz
  have HS := Lib.hid hsz
  have Hu : Hid (u.data.toList = Pz.sized D.data.toList o) := Lib.hid (by rw [hu])
  have hus : u.size ≤ 256 := by rw [Lib.size_eq, Hu.out, Pz.sized_len]; omega
  have h0 : 0 ≤ (o : Int) + data.size := by omega
  clear hsz hu hok
  by_cases h6 : o + data.size < D.size
  · have h6' : (o : Int) + data.size < D.size := by omega
    have hts : (D.extract (o + data.size) D.size).size ≤ 256 := by rw [Lib.size_eq, ba_tail, List.length_drop, ← Lib.size_eq]; omega
    go_enter Tryz.func35, Tryz.ntmps35
    go_wp2_with fail
    refine (HS.out _).mono ?_
    rintro e w1 ⟨rfl, hb1⟩
    have FX1 := Lib.hid (FX.out.read ((RefF.held r) _) hb1)
    clear hb1
    have FX1d := Lib.hid (FX1.out.read (RefF.held _ _) ((Below.refl _ w1).drew))
    obtain ⟨b0, b1, b2, b3, b4, b5, b6, b7⟩ := FX1.out.c8
    obtain ⟨bb, cc, gg, gg1, ff, hst⟩ := HDat.out _ _ FX1d.out.inv
    have HST := Lib.hid hst
    clear hst
    go_wp2
    have hc1 : ¬ 9223372036854775807 < u.size + data.size := by omega
    have hc2 : ¬ 9223372036854775807 < u.size + data.size + (D.extract (o + data.size) D.size).size := by omega
    have hc3 : ¬ 9223372036854775807 < u.size + data.size + (D.size - (o + data.size)) := by omega
    have HResF : Hid (R = ({ S with N := S.N.set m { Pz.nodeD S.N m with data := (u ++ data ++ D.extract (o + data.size) D.size).data.toList } }, Pz.er 0)) := Lib.hid (by
      rw [HRes3.out, ba_app, ba_app, ba_tail, Hu.out, Int.toNat_natCast]
      unfold Pz.laid
      rw [← Lib.size_eq])
    go_still_tail 13, (by kernel_rfl)
    change wpList _ _ _ _ _ w1.drew
    clear b0 b1 b2 b3 b4 b5 b6 b7
    generalize w1.drew = w2 at FX1d HST ff gg gg1 ⊢
    have hst := HST.out (u ++ data ++ D.extract (o + data.size) D.size)
    have FX2 := Lib.hid (FX1d.out.put (RefF.held _ _) hst.1 hst.2)
    clear hst
    have fxe := FX2.out
    obtain ⟨c0, c1, c2, c3, c4, c5, c6, hf7⟩ := cells7 fxe.res
    have f0 := hf7 0
    have f1 := hf7 1
    have f2 := hf7 2
    have f3 := hf7 3
    have f4 := hf7 4
    have f5 := hf7 5
    have f6 := hf7 6
    have HG := Lib.hid fxe
    clear hf7 fxe
    go_wp2
    try simp only [Exit.inBlock, Exit.then]
    refine bodyPost_ret (results_cell_row rfl _ _ (w.heap.size + 1) _ _ _ _ rfl (row7 HG.out.res _ _ _ _ _ _ _) Tryz.underlying36 rfl Tryz.infoR) rfl ?_
    rw [HResF.out]
    exact HG.out.done (RefF.held r) (Pz.er 0) none 0 (Or.inl rfl) _ _ _ _ _ _ _
  have h6' : (D.size : Int) ≤ o + data.size := by omega
  go_enter Tryz.func35, Tryz.ntmps35
  go_wp2_with fail
  refine (HS.out _).mono ?_
  rintro e w1 ⟨rfl, hb1⟩
  have FX1 := Lib.hid (FX.out.read ((RefF.held r) _) hb1)
  clear hb1
  have FX1d := Lib.hid (FX1.out.read (RefF.held _ _) ((Below.refl _ w1).drew))
  obtain ⟨b0, b1, b2, b3, b4, b5, b6, b7⟩ := FX1.out.c8
  obtain ⟨bb, cc, gg, gg1, ff, hst⟩ := HDat.out _ _ FX1d.out.inv
  have HST := Lib.hid hst
  clear hst
  go_wp2
  have hc1 : ¬ 9223372036854775807 < u.size + data.size := by omega
  have HResF : Hid (R = ({ S with N := S.N.set m { Pz.nodeD S.N m with data := (u ++ data ++ (⟨#[]⟩ : ByteArray)).data.toList } }, Pz.er 0)) := Lib.hid (by
    rw [HRes3.out, ba_app, ba_app, Hu.out, Int.toNat_natCast]
    unfold Pz.laid
    rw [← Lib.size_eq, List.drop_of_length_le (by rw [← Lib.size_eq]; omega)])
  go_still_tail 13, (by kernel_rfl)
  change wpList _ _ _ _ _ w1.drew
  clear b0 b1 b2 b3 b4 b5 b6 b7
  generalize w1.drew = w2 at FX1d HST ff gg gg1 ⊢
  have hst := HST.out (u ++ data ++ (⟨#[]⟩ : ByteArray))
  have FX2 := Lib.hid (FX1d.out.put (RefF.held _ _) hst.1 hst.2)
  clear hst
  have fxe := FX2.out
  obtain ⟨c0, c1, c2, c3, c4, c5, c6, hf7⟩ := cells7 fxe.res
  have f0 := hf7 0
  have f1 := hf7 1
  have f2 := hf7 2
  have f3 := hf7 3
  have f4 := hf7 4
  have f5 := hf7 5
  have f6 := hf7 6
  have HG := Lib.hid fxe
  clear hf7 fxe
  go_wp2
  try simp only [Exit.inBlock, Exit.then]
  refine bodyPost_ret (results_cell_row rfl _ _ (w.heap.size + 1) _ _ _ _ rfl (row7 HG.out.res _ _ _ _ _ _ _) Tryz.underlying36 rfl Tryz.infoR) rfl ?_
  rw [HResF.out]
  exact HG.out.done (RefF.held r) (Pz.er 0) none 0 (Or.inl rfl) _ _ _ _ _ _ _

end Go.Proofs.YtbpejjmfdhkfhaaGreatDoor
