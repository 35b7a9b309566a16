/- The program's Do comes to what the plain one says, for every call. -/
import Derived.Test.YtbpejjmfdhkfhaaGreatDoorPosRealV
import Derived.Test.YtbpejjmfdhkfhaaGreatDoorPosRealS
set_option linter.unusedVariables false
set_option linter.unusedSimpArgs false
namespace Go.Proofs.YtbpejjmfdhkfhaaGreatDoor
open Go.RowKit

namespace Pz
theorem file_2 {S : Fil} {cl : Int} {m : Nat} {fd off n : Int} {d : List UInt8} : file S cl m 2 fd off n d = ({ S with O := shut S.O cl fd }, er 0) := by
  unfold file; rfl
theorem file_3 {S : Fil} {cl : Int} {m : Nat} {fd off n : Int} {d : List UInt8} : file S cl m 3 fd off n d = (S, if off < 0 ∨ n < 0 ∨ 64 < n then er 15 else if ((nodeD S.N m).data.length : Int) ≤ off then er 0 else dataR (((nodeD S.N m).data.drop off.toNat).take n.toNat)) := by
  unfold file; rfl
theorem file_6 {S : Fil} {cl : Int} {m : Nat} {fd off n : Int} {d : List UInt8} : file S cl m 6 fd off n d = (S, er 0) := by
  unfold file; rfl
end Pz

theorem fdo_any [Inhabited XBox] (r : Nat) (S : Pz.Fil) (cl kind flags fd off n : Int) (p p2 data : ByteArray) (w : World) (F : Nat → Prop) (hcl : I64 cl) (hfd : I64 fd) (hp : p.size ≤ 100000) (hp2 : p2.size ≤ 100000) (hG : Pz.Good 1000 S) (hR : RealF r S w F) :
    Calls Tryz.prog 7 #[.pointer (some ⟨r, 0, none⟩), .int .i64 cl, callV kind p p2 flags fd off n data] w (Does (RealF r) (Pz.doA S cl kind p.data.toList p2.data.toList flags fd off n data.data.toList) w F) := by
  unfold Pz.doA
  by_cases hc : cl < 1 ∨ 8 < cl
  · rw [if_pos hc]
    exact fdo_bad r S cl kind flags fd off n p p2 data w F hc hR
  rw [if_neg hc]
  have hc1 : 1 ≤ cl := by omega
  have hc2 : cl ≤ 8 := by omega
  by_cases hk : kind < 1 ∨ 13 < kind
  · repeat rw [if_neg (by omega)]
    exact fdo_none r S cl kind flags fd off n p p2 data w F hc1 hc2 hk hR
  have hk3 : kind = 1 ∨ (kind = 2 ∨ kind = 3 ∨ kind = 4 ∨ kind = 5 ∨ kind = 6) ∨ kind = 7 ∨ kind = 8 ∨ kind = 9 ∨ kind = 10 ∨ kind = 11 ∨ kind = 12 ∨ kind = 13 := by omega
  rcases hk3 with rfl | hk3 | rfl | rfl | rfl | rfl | rfl | rfl | rfl
  · rw [if_pos rfl]
    exact fdo_1 r S cl flags fd off n p p2 data w F hc1 hc2 _ (fun W G h => fopen_any r S cl 1 flags fd off n p p2 data W G hcl hp hG h) hR
  · rw [if_neg (by omega), if_pos (by omega)]
    by_cases hz : Pz.ofd S.O cl fd < 0
    · rw [if_pos hz]
      rcases hk3 with rfl | rfl | rfl | rfl | rfl
      · exact fdo_2n r S cl flags fd off n p p2 data w F hc1 hc2 hcl hfd hz hR
      · exact fdo_3n r S cl flags fd off n p p2 data w F hc1 hc2 hcl hfd hz hR
      · exact fdo_4n r S cl flags fd off n p p2 data w F hc1 hc2 hcl hfd hz hR
      · exact fdo_5n r S cl flags fd off n p p2 data w F hc1 hc2 hcl hfd hz hR
      · exact fdo_6n r S cl flags fd off n p p2 data w F hc1 hc2 hcl hfd hz hR
    · rw [if_neg hz]
      obtain ⟨m, hm⟩ : ∃ m : Nat, Pz.ofd S.O cl fd = m := ⟨(Pz.ofd S.O cl fd).toNat, by omega⟩
      have hlt : m < S.N.length := by have := Pz.ofd_lt (c := cl) (fd := fd) hG.ok.opn; omega
      rw [hm, Int.toNat_natCast]
      rcases hk3 with rfl | rfl | rfl | rfl | rfl
      · rw [Pz.file_2]
        exact fdo_2 r S cl m flags fd off n p p2 data w F hc1 hc2 hcl hfd hm _ (fun bo β μ W G h => ffile_close r S cl m flags fd off n p p2 data W G bo β μ hG hlt hcl hfd h) hR
      · rw [Pz.file_3]
        exact fdo_3 r S cl m flags fd off n p p2 data w F hc1 hc2 hcl hfd hm _ (fun bo β μ W G h => ffile_read r S cl m flags fd off n p p2 data W G bo β μ hG hlt h) hR
      · exact fdo_4 r S cl m flags fd off n p p2 data w F hc1 hc2 hcl hfd hm _ (fun bo β μ W G h => ffile_write_any r S cl m flags fd off n p p2 data W G bo β μ hG hlt h) hR
      · exact fdo_5 r S cl m flags fd off n p p2 data w F hc1 hc2 hcl hfd hm _ (fun bo β μ W G h => ffile_trunc r S cl m flags fd off n p p2 data W G bo β μ hG hlt h) hR
      · rw [Pz.file_6]
        exact fdo_6 r S cl m flags fd off n p p2 data w F hc1 hc2 hcl hfd hm _ (fun bo β μ W G h => ffile_sync r S cl m flags fd off n p p2 data W G bo β μ hG hlt h) hR
  · exact fdo_7 r S cl flags fd off n p p2 data w F hc1 hc2 _ (fun W G h => fmkdir_any r S 7 flags fd off n p p2 data W G hp hG h) hR
  · exact fdo_8 r S cl flags fd off n p p2 data w F hc1 hc2 _ (fun W G h => frmdir_any r S 8 flags fd off n p p2 data W G hp hG h) hR
  · exact fdo_9 r S cl flags fd off n p p2 data w F hc1 hc2 _ (fun W G h => flink_any r S 9 flags fd off n p p2 data W G hp hp2 hG h) hR
  · exact fdo_10 r S cl flags fd off n p p2 data w F hc1 hc2 _ (fun W G h => funlink_any r S 10 flags fd off n p p2 data W G hp hG h) hR
  · exact fdo_11 r S cl flags fd off n p p2 data w F hc1 hc2 _ (fun W G h => frename_any r S 11 flags fd off n p p2 data W G hp hp2 hG h) hR
  · exact fdo_12 r S cl flags fd off n p p2 data w F hc1 hc2 _ (fun W G h => ftells_any r S 12 flags fd off n p p2 data W G (Or.inl rfl) hp hG h) hR
  · exact fdo_13 r S cl flags fd off n p p2 data w F hc1 hc2 _ (fun W G h => ftells_any r S 13 flags fd off n p p2 data W G (Or.inr rfl) hp hG h) hR

end Go.Proofs.YtbpejjmfdhkfhaaGreatDoor

/- Walks: the program's New. -/
namespace Go.Proofs.YtbpejjmfdhkfhaaGreatDoor
open Go.RowKit

theorem real_new [Inhabited XBox] {w w' : World} {b : Nat} (hb : Below b w w') (hm : MxX w) (h0 : w'.heap[b]? = some (.map #[] 0)) (h1 : w'.heap[b + 1]? = some (.cells #[.string ⟨#[]⟩, .int .i64 1, .map (some b)] 105 (0, 0)))
    (h2 : w'.heap[b + 2]? = some (.map #[] 0)) (h3 : w'.heap[b + 3]? = some (.cells #[.pointer (some ⟨b + 1, 0, none⟩), .map (some (b + 2))] 65 (0, 0))) (hmb : maxB < b) :
    RealF (b + 3) newFS w' (fun k => k = maxB ∨ b ≤ k) := by
  have hone : ∀ n, n < newFS.N.length → n = 0 := fun n hn => by simp [newFS] at hn; exact hn
  have hdir : ∀ n, Pz.isDir newFS.N n = true → n = 0 := fun n hn => hone n (isDir_lt hn)
  refine ⟨b + 2, fun _ => b + 1, fun _ => b, {
    root := h3
    node := fun n hn => ?_
    dirs := fun n hn => ?_
    opn := ?_
    bInj := fun n m hn hk _ => (hone n hn).trans (hone m hk).symm
    mInj := fun n m hn hk _ => (hdir n hn).trans (hdir m hk).symm
    mo := fun n _ => by omega
    fr := Or.inr (by omega)
    fo := Or.inr (by omega)
    fb := fun _ _ => Or.inr (by omega)
    fm := fun _ _ => Or.inr (by omega)
    fx := Or.inl rfl
    mx := mx_keep hm (hb.block _ hmb) }⟩
  · obtain rfl := hone n hn
    exact h1
  · obtain rfl := hdir n hn
    refine ⟨.map [], ⟨#[], 0, h0, ⟨by simp, MapKept.stamped_empty 0, by simp⟩, Nat.le_refl _, rfl⟩, fun x zd => rfl, rfl⟩
  · refine ⟨.map [], ⟨#[], 0, h2, ⟨by simp, MapKept.stamped_empty 0, by simp⟩, Nat.le_refl _, rfl⟩, fun c fd zd _ _ => rfl, rfl⟩

set_option maxHeartbeats 1000000 in
theorem fnew_any [Inhabited XBox] (w : World) (hm : MxX w) :
    Calls Tryz.prog 18 #[] w fun e w' => e = .returned (.pointer (some ⟨w.heap.size + 3, 0, none⟩)) ∧ RealF (w.heap.size + 3) newFS w' (fun k => k = maxB ∨ w.heap.size ≤ k) ∧ Below w.heap.size w w' := by
  have hmm := @run_makeMap Tryz.prog
  have HM := Lib.hid hm
  clear hm
  go_enter Tryz.func18, Tryz.ntmps18
  go_wp2_with (go_at_call 51; refine (ffolder_any _).mono ?_; rintro e w1 ⟨rfl, h0, h1, hsz, hb⟩)
  go_ret
  have e2 : ∀ (x y : Obj) (k : Nat), k < w.heap.size + 2 → ((w1.alloc x).alloc y).heap[k]? = w1.heap[k]? := fun x y k hk => by
    rw [Below.heap_alloc _ _ _ (by simp; omega), Below.heap_alloc _ _ _ (by omega)]
  have e3 : ∀ (x y : Obj), ((w1.alloc x).alloc y).heap[w.heap.size + 2]? = some x ∧ ((w1.alloc x).alloc y).heap[w.heap.size + 3]? = some y := fun x y => by
    have q1 := heap_alloc_new w1 x
    have q2 := heap_alloc_new (w1.alloc x) y
    rw [hsz] at q1
    rw [show (w1.alloc x).heap.size = w.heap.size + 3 by simp; omega] at q2
    exact ⟨by rw [Below.heap_alloc _ _ _ (by simp; omega)]; exact q1, q2⟩
  have hb2 : ∀ (x y : Obj), Below w.heap.size w ((w1.alloc x).alloc y) := fun x y => (hb.alloc (by omega) x).alloc (by simp; omega) y
  exact ⟨rfl, real_new (hb2 _ _) HM.out ((e2 _ _ _ (by omega)).trans h0) ((e2 _ _ _ (by omega)).trans h1) (e3 _ _).1 (e3 _ _).2 (mx_lt HM.out.1), hb2 _ _⟩

end Go.Proofs.YtbpejjmfdhkfhaaGreatDoor

/- Walks: the program's Drop. -/
namespace Go.Proofs.YtbpejjmfdhkfhaaGreatDoor
open Go.RowKit

def keyOfP (x : Int × Int) : Value := .agg #[.int .i64 x.1, .int .i64 x.2]
theorem int_shape {z : Nat} {v : Value} {ls : List Lit} (h : Tryz.prog.keyLits (z + 1) 3 [v] = some ls) : ∃ n : Int, v = .int .i64 n ∧ I64 n := by
  unfold Program.keyLits at h
  simp only [Tryz.underlying3] at h
  cases v with
  | int q n =>
    simp only at h
    split at h
    · rename_i hq
      exact ⟨n, by rw [hq.1], hq.2⟩
    · cases h
  | _ => cases h
theorem pair_shape {z : Nat} {a b : Value} {ls : List Lit} (h : Tryz.prog.keyLits (z + 1 + 1) 67 [a, b] = some ls) : (∃ n : Int, a = .int .i64 n ∧ I64 n) ∧ ∃ n : Int, b = .int .i64 n ∧ I64 n := by
  unfold Program.keyLits at h
  simp only [Tryz.underlying67, Tryz.keyCells, Tryz.intCells] at h
  split at h
  · cases h1 : Tryz.prog.keyLits (z + 1) 3 [a] with
    | none => simp [h1, Tryz.intCells] at h
    | some l1 =>
      cases h2 : Tryz.prog.keyLits (z + 1) 3 [b] with
      | none => simp [h1, h2, Tryz.intCells] at h
      | some l2 => exact ⟨int_shape h1, int_shape h2⟩
  · cases h
theorem key_shape {v : Value} {kl : Lit} (h : keyOf Tryz.prog 67 v = some kl) : ∃ c fd : Int, v = .agg #[.int .i64 c, .int .i64 fd] ∧ I64 c ∧ I64 fd ∧ kl = keyL c fd := by
  have hw := h
  obtain ⟨z, hz⟩ : ∃ z, Tryz.prog.types.size = z + 1 := Nat.exists_eq_succ_of_ne_zero (Nat.ne_of_gt (Nat.lt_of_le_of_lt (Nat.zero_le _) Tryz.keyRow))
  have hk : ∃ cs : List Value, v = .agg ⟨cs⟩ ∧ cs.length = 2 ∧ ∃ ls, Tryz.prog.keyLits (z + 1 + 1) 67 cs = some ls := by
    unfold keyOf at h
    rw [hz] at h
    simp only [Tryz.underlying67, Tryz.keyIs, Bool.true_and] at h
    split at h
    · rename_i hf
      cases v <;> simp [Value.formed, Tryz.underlying67, Tryz.keyCells] at hf
      rename_i cs
      obtain ⟨l⟩ := cs
      cases hl : Tryz.prog.keyLits (z + 1 + 1) 67 l with
      | none =>
        rw [show (Value.agg ⟨l⟩).cells.toList = l from rfl, hl] at h
        cases h
      | some ls => exact ⟨l, rfl, hf, ls, hl⟩
    · cases h
  obtain ⟨cs, rfl, hs, ls, hl⟩ := hk
  obtain ⟨a, b, rfl⟩ : ∃ a b, cs = [a, b] := by
    cases cs with
    | nil => cases hs
    | cons a l =>
      cases l with
      | nil => cases hs
      | cons b l =>
        cases l with
        | nil => exact ⟨a, b, rfl⟩
        | cons c l => simp at hs
  obtain ⟨⟨c, rfl, hc⟩, ⟨fd, rfl, hf⟩⟩ := pair_shape hl
  refine ⟨c, fd, rfl, hc, hf, ?_⟩
  have := (key_read hc hf).symm.trans hw
  cases this
  rfl

namespace Pz
/-- what is left of the descriptors, when the keys that are to come are those of left -/
structure Dropped (O : List Op) (cl : Int) (left : Lit → Bool) (O' : List Op) : Prop where
  sub : ∃ q : Op → Bool, O' = O.filter q ∧ ∀ o ∈ O, o.client ≠ cl → q o = true
  come : ∀ o ∈ O', o.client = cl → left (keyL o.client o.fd) = true
theorem Dropped.fin {O O' : List Op} {cl : Int} {left : Lit → Bool} (h : Dropped O cl left O') (hl : ∀ kl, left kl = false) : O' = drop O cl := by
  obtain ⟨q, rfl, hq⟩ := h.sub
  unfold drop
  refine List.filter_congr fun o ho => ?_
  by_cases hc : o.client = cl
  · cases hqo : q o with
    | false => simp [hc]
    | true =>
      have h1 := h.come o (List.mem_filter.2 ⟨ho, hqo⟩) hc
      rw [hl] at h1
      cases h1
  · rw [hq o ho hc]; simp [hc]
theorem Dropped.pass {O O' : List Op} {cl c fd : Int} {left : Lit → Bool} (h : Dropped O cl left O') (hO : ∀ o ∈ O, I64 o.client ∧ I64 o.fd) (hc : I64 c) (hf : I64 fd) (hne : c ≠ cl) : Dropped O cl (fun z => left z && !z.sameKey (keyL c fd)) O' := by
  refine ⟨h.sub, fun o ho hcl => ?_⟩
  obtain ⟨q, rfl, _⟩ := h.sub
  have := hO o (List.mem_filter.1 ho).1
  rw [h.come o ho hcl, Maps.sameKey_ne (fun e => hne ((keyL_inj this.1 this.2 hc hf e).1.symm.trans hcl))]
  rfl
theorem Dropped.shut {O O' : List Op} {cl fd : Int} {left : Lit → Bool} (h : Dropped O cl left O') (hO : ∀ o ∈ O, I64 o.client ∧ I64 o.fd) (hc : I64 cl) (hf : I64 fd) : Dropped O cl (fun z => left z && !z.sameKey (keyL cl fd)) (Pz.shut O' cl fd) := by
  obtain ⟨q, rfl, hq⟩ := h.sub
  refine ⟨⟨fun o => q o && decide (¬ (o.client = cl ∧ o.fd = fd)), ?_, fun o ho hne => ?_⟩, fun o ho hcl => ?_⟩
  · unfold Pz.shut
    rw [List.filter_filter]
    exact List.filter_congr fun o _ => Bool.and_comm _ _
  · show (q o && decide _) = true
    rw [hq o ho hne]
    simp [hne]
  · unfold Pz.shut at ho
    obtain ⟨ho1, ho2⟩ := List.mem_filter.1 ho
    have := hO o (List.mem_filter.1 ho1).1
    rw [h.come o ho1 hcl, Maps.sameKey_ne (fun e => by
      have := (keyL_inj this.1 this.2 hc hf e).2
      simp [hcl, this] at ho2)]
    rfl
theorem Dropped.one {O O' : List Op} {cl : Int} {left : Lit → Bool} (h : Dropped O cl left O') (ho : O.Pairwise fun a b => ¬ (a.client = b.client ∧ a.fd = b.fd)) : O'.Pairwise fun a b => ¬ (a.client = b.client ∧ a.fd = b.fd) := by
  obtain ⟨q, rfl, _⟩ := h.sub
  exact ho.sublist List.filter_sublist
theorem ofd_here {O : List Op} {o : Op} (h : o ∈ O) : 0 ≤ ofd O o.client o.fd := by
  induction O with
  | nil => cases h
  | cons a r ih =>
    rw [ofd]
    split
    · omega
    · rename_i hn
      rcases List.mem_cons.1 h with rfl | h
      · exact absurd ⟨rfl, rfl⟩ hn
      · exact ih h
end Pz
theorem dropped_start {D : DataW Unit} {β : Nat → Nat} {O : List Pz.Op} (h : MapO D β O) (cl : Int) (hO : ∀ o ∈ O, I64 o.client ∧ I64 o.fd) : Pz.Dropped O cl (Maps.has D) O := by
  refine ⟨⟨fun _ => true, (List.filter_eq_self.2 fun _ _ => rfl).symm, fun _ _ _ => rfl⟩, fun o ho _ => ?_⟩
  have := hO o ho
  exact Maps.has_true_of_atKey (y := .lit (.int .i64 (β (Pz.ofd O o.client o.fd).toNat))) fun z => by rw [h.1 _ _ z this.1 this.2, if_neg (by have := Pz.ofd_here ho; omega)]

set_option maxHeartbeats 4000000 in
set_option maxRecDepth 8192 in
theorem fdrop_any [Inhabited XBox] (r : Nat) (S : Pz.Fil) (cl : Int) (w : World) (F : Nat → Prop) (hcl : I64 cl) (hO : ∀ o ∈ S.O, I64 o.client ∧ I64 o.fd) (hone : S.O.Pairwise fun a b => ¬ (a.client = b.client ∧ a.fd = b.fd)) (hR : RealF r S w F) :
    Calls Tryz.prog 19 #[.pointer (some ⟨r, 0, none⟩), .int .i64 cl] w fun e w' => e = .returned (.tuple #[]) ∧ RealF r { S with O := Pz.drop S.O cl } w' (Gr F w) ∧ Only F w w' := by
  obtain ⟨bo, β, μ, hA⟩ := hR
  obtain ⟨rc0, rc1⟩ := RealAt.rc hA
  obtain ⟨D, hown, hmo⟩ := RealAt.opn hA
  have HA := Lib.hid hA
  have HMO := Lib.hid hmo
  have HCl := Lib.hid hcl
  have HO := Lib.hid hO
  have HOne := Lib.hid hone
  have HOwn := Lib.hid hown
  have hrc : ∀ W, w.grownBy W (some bo) → W.cell? ⟨r, 1, none⟩ = some (.map (some bo)) := fun W hg => by
    refine (World.cell?_of_block (w := w) (a := ⟨r, 1, none⟩) (hg.block r (lt_of_get hA.root) fun e => ?_)).trans rc1
    obtain ⟨es, ck, hm, _⟩ := hown
    cases e
    have h0 := hA.root
    rw [hm] at h0
    cases h0
  have HRC := Lib.hid hrc
  clear hA hmo hcl hO hone hown hrc
  obtain ⟨cap, hcap⟩ : ∃ cap, cap = S.O.length := ⟨_, rfl⟩
  rw [← hcap] at HOwn
  clear hcap
  go_enter Tryz.func19, Tryz.ntmps19
  go_wp2_with (at_range; refine wpList_range_own _ rfl _ 63 rfl 67 62 Tryz.keyLaw Tryz.underlying63 _ _ _ D rfl HOwn.out ?_; intro w0 hrg0 hg0 hs0)
  go_frame
  go_loopw [] (fun wr => ∃ (O' : List Pz.Op) (D' : DataW Unit) (left : Lit → Bool) (cnt : Nat), wr.ranges Tryz.prog 67 ptrE bo w.heap.size cap D' left cnt ∧ MapO D' β O' ∧ Pz.Dropped S.O cl left O' ∧ w.grownBy wr (some bo))
    (fun wr => wr.rangeLeft bo w.heap.size)
  case atStart =>
    exact ⟨S.O, D, _, _, hrg0, HMO.out, dropped_start HMO.out cl HO.out, ⟨hg0.os, hg0.tape, hg0.output, hg0.size, fun k hk _ => hg0.block k hk (by simp)⟩⟩
  case round =>
    obtain ⟨O', D', left, cnt, hrg, hmo, hdr, hgr⟩ := hrel
    go_wp2_with (at_next; refine wpList_next_ranges _ rfl _ rfl 67 Tryz.keyLaw ptrE keyOfP ptrOf (fun key kl hk => by obtain ⟨c, fd, hx, _⟩ := key_shape hk; exact ⟨(c, fd), hx⟩) (fun v y hv => ptrE_shape hv) bo w.heap.size cap _ _ _ rfl hrg ?_ ?_)
    · intro hc0 hl0
      have hx := RealAt.setOpen HA.out hgr hrg.owns hmo
      rw [hdr.fin hl0] at hx
      have HX := Lib.hid hx
      clear hx hrg hmo hdr hgr
      go_wp2
      go_end0
      exact ⟨rfl, (RA.toF _ _ HX.out.1).elim fun bo h => h.elim fun β h => h.elim fun μ h => ⟨bo, β, μ, (RealAt.held r bo β μ _).mono h fun k _ e => Or.inl e⟩, HX.out.2⟩
    · intro kc kf c kl yd yp w2 cnt2 hkey hlk hv hat hrg2 hlt hg2 hs2 hen
      skip
      obtain ⟨c', f', hx, hic, hif, rfl⟩ := key_shape hkey
      obtain ⟨rfl, rfl⟩ : kc = c' ∧ kf = f' := by
        unfold keyOfP at hx
        simpa using hx
      have hen2 : (Instr.entry (.pointer (some ⟨w.heap.size, 0, none⟩))).run Tryz.prog w2 = .ok (.tuple #[.agg #[.int .i64 kc, .int .i64 kf], ptrOf c]) w2 := hen
      have hgr2 : w.grownBy w2 (some bo) := ⟨hg2.os.trans hgr.os, hg2.tape.trans hgr.tape, hg2.output.trans hgr.output, Nat.le_trans hgr.size hg2.size, fun k hk hn => (hg2.block k (Nat.lt_of_lt_of_le hk hgr.size) (by simp; omega)).trans (hgr.block k hk hn)⟩
      have hgrA : ∀ o, w.grownBy (w2.alloc o) (some bo) := fun o => ⟨hgr2.os, hgr2.tape, hgr2.output, Nat.le_trans hgr2.size (by simp), fun k hk hn => (Below.heap_alloc _ _ _ (Nat.lt_of_lt_of_le hk hgr2.size)).trans (hgr2.block k hk hn)⟩
      have HgrA := Lib.hid hgrA
      have HRg := Lib.hid hrg2
      have HLeft : Hid (wr.rangeLeft bo w.heap.size = cnt) := hrg.left_eq
      have HLt := Lib.hid hlt
      have HDr := Lib.hid hdr
      have HMo := Lib.hid hmo
      have HK := Lib.hid (And.intro hic hif)
      clear hx hkey hlk hv hat hrg2 hlt hg2 hs2 hen hgrA hgr hgr2 hdr hmo hrg hic hif rc0 rc1
      by_cases hcc : kc = cl
      · have hc1 : (kc == cl) = true := by rw [beq_iff_eq]; exact hcc
        subst hcc
        obtain ⟨w3, hw3⟩ : ∃ w3, w3 = w2.alloc (.cells #[.int .i64 kc, .int .i64 kf] 67) := ⟨_, rfl⟩
        have HW3 := Lib.hid hw3
        have hgr3 := HgrA.out (.cells #[.int .i64 kc, .int .i64 kf] 67)
        have hrg3 := HRg.out.alloc (.cells #[.int .i64 kc, .int .i64 kf] 67)
        have hk3 := heap_alloc_new w2 (.cells #[.int .i64 kc, .int .i64 kf] 67)
        rw [← hw3] at hgr3 hrg3 hk3
        have e0 := cell_of_row w3 w2.heap.size 0 _ _ _ hk3
        have e1 := cell_of_row w3 w2.heap.size 1 _ _ _ hk3
        have e2 : w3.cell? ⟨r, 1, none⟩ = some (.map (some bo)) := HRC.out _ hgr3
        have hbd := (Below.refl w3.heap.size w3).drew
        have HRg4 : Hid (w3.drew.ranges Tryz.prog 67 ptrE bo w.heap.size cap D' _ cnt2) := Lib.hid (hrg3.kept (row := none) ⟨hbd.os, hbd.tape, hbd.output, hbd.size, fun k hk _ => hbd.block k hk⟩ (by simp) (by simp))
        have HGr4 : Hid (w.grownBy w3.drew (some bo)) := Lib.hid ⟨hbd.os.trans hgr3.os, hbd.tape.trans hgr3.tape, hbd.output.trans hgr3.output, Nat.le_trans hgr3.size hbd.size, fun k hk hn => (hbd.block k (Nat.lt_of_lt_of_le hk hgr3.size)).trans (hgr3.block k hk hn)⟩
        clear hw3 hgr3 hrg3 hk3 hbd
        go_wp2
        rw [← HW3.out]
        go_still_tail 5, (by kernel_rfl)
        change wpList _ _ _ _ _ w3.drew
        clear e0 e1 e2
        generalize w3.drew = w4 at HRg4 HGr4 ⊢
        go_wp2_with (at_delete; refine wpList_delete_ranges _ rfl _ _ 63 67 rfl 62 Tryz.keyLaw Tryz.underlying63 ptrE bo w.heap.size cap D' _ cnt2 rfl HRg4.out (.agg #[.int .i64 kc, .int .i64 kf]) (keyL kc kf) rfl (key_read HK.out.1 HK.out.2) ?_; intro w5 cnt5 hrg5 hle5 hturn5)
        rw [Maps.strike_twice] at hrg5
        have hmo5 := HMo.out.shut (HRg4.out.owns.tidy Tryz.keyLaw) HK.out.1 HK.out.2 (HDr.out.one HOne.out)
        have hdr5 := HDr.out.shut HO.out HK.out.1 HK.out.2
        have hgr5 : w.grownBy w5 (some bo) := ⟨hturn5.grown.os.trans HGr4.out.os, hturn5.grown.tape.trans HGr4.out.tape, hturn5.grown.output.trans HGr4.out.output, Nat.le_trans HGr4.out.size hturn5.grown.size, fun k hk hn => (hturn5.grown.block k (Nat.lt_of_lt_of_le hk HGr4.out.size) hn).trans (HGr4.out.block k hk hn)⟩
        go_roundw
        case rel => exact ⟨_, _, _, _, _, _, _, _, _, _, _, _, _, _, ⟨_, _, _, cnt5, hrg5, hmo5, hdr5, hgr5⟩, rfl⟩
        case measure => rw [hrg5.left_eq, HLeft.out]; exact Nat.lt_of_le_of_lt hle5 HLt.out
      · have hc1 : (kc == cl) = false := by rw [beq_eq_false_iff_ne]; exact hcc
        have HPass := Lib.hid (HDr.out.pass HO.out HK.out.1 HK.out.2 hcc)
        clear hcc
        go_wp2
        go_roundw
        case rel => exact ⟨O', D', _, cnt2, HRg.out.alloc _, HMo.out, HPass.out, HgrA.out _⟩
        case measure => rw [(HRg.out.alloc _).left_eq, HLeft.out]; exact HLt.out

end Go.Proofs.YtbpejjmfdhkfhaaGreatDoor
