/- Walks: a volume with four files, open. -/
import Derived.Test.YtginffdngphjpaaGreatDoorV23
import Derived.SliceStrings
set_option linter.unusedVariables false
set_option linter.unusedSimpArgs false
namespace Go.Proofs.YtginffdngphjpaaGreatDoor
open Go.RowKit Go.Shelf

attribute [local go_sem] Oper.semAt_some

def Nof (_ : Nat) : Prop := False
theorem Tl.belowW {x t c K : Nat} {S : List UInt8} {M : Gd.Vol} {w a : World} {Ls : List (Nat × Obj)} (h : Tl x t S M c K Nof w a Ls) : Below w.heap.size w a := by
  obtain ⟨F', h1, _⟩ := h
  exact h1.only.below (Nat.le_refl _) fun _ _ e => e
theorem Tl.next2 {x t c d K K2 : Nat} {S S2 : List UInt8} {M N : Gd.Vol} {F F1 : Nat → Prop} {w a b : World} {Ls : List (Nat × Obj)} (h1 : Step (MetaV x t S M c K) F w F1 a) (h2 : ∀ p ∈ Ls, w.heap.size ≤ p.1 ∧ ¬ F1 p.1 ∧ a.heap[p.1]? = some p.2) (ht : Turns x t S2 N d K2 F1 a b) : Tl x t S2 N d K2 F w b Ls := by
  obtain ⟨F2, s⟩ := ht
  refine ⟨F2, h1.trans s, fun p hp => ?_⟩
  obtain ⟨q1, q2, q3⟩ := h2 p hp
  obtain ⟨o1, o2⟩ := s.own (lt_get q3) q2
  exact ⟨q1, o2, o1.trans q3⟩
theorem Tl.of_step {x t c K f : Nat} {S : List UInt8} {M : Gd.Vol} {F4 F6 : Nat → Prop} {w a b : World} {o : Obj} (hb : Below w.heap.size w a) (hF : ∀ k, F4 k → w.heap.size ≤ k) (h : Step (MetaV x t S M c K) F4 a F6 b) (hf : a.heap[f]? = some o) (hfF : ¬ F4 f) (hfw : w.heap.size ≤ f) : Tl x t S M c K Nof w b [(f, o)] := by
  refine ⟨F6, ⟨h.inv, fun k hk h6 => ?_, (below_only hb Nof).trans h.only fun j hj hj2 => ?_⟩, fun p hp => ?_⟩
  · have := hF k (h.old k (Nat.lt_of_lt_of_le hk hb.size) h6)
    omega
  · have := hF j hj2
    omega
  · obtain rfl := List.mem_singleton.1 hp
    obtain ⟨o1, o2⟩ := h.own (lt_get hf) hfF
    exact ⟨hfw, o2, o1.trans hf⟩
theorem Tl.commit {x t c K : Nat} {S : List UInt8} {M : Gd.Vol} {F : Nat → Prop} {w a : World} {Ls : List (Nat × Obj)} (h : Tl x t S M c K F w a Ls) (hc : c ≤ 57) (hK : K < 600000000000) :
    Calls Tryz.prog 22 #[.pointer (some ⟨t, 0, none⟩)] a fun e b => e = .returned (.int .i64 0) ∧ ∃ S', Tl x t S' M 0 (K + 2000000) F w b Ls := by
  obtain ⟨F1, h1, h2⟩ := h
  refine (mcommit a h1.inv hc hK).mono ?_
  rintro e b ⟨rfl, S', ht⟩
  exact ⟨rfl, S', Tl.next2 h1 h2 ht⟩
theorem Tl.drop {x t c K : Nat} {S : List UInt8} {M M0 : Gd.Vol} {F : Nat → Prop} {w a : World} {Ls : List (Nat × Obj)} (h : Tl x t S M c K F w a Ls) (hG : Gd.Good S M0) :
    Calls Tryz.prog 26 #[.pointer (some ⟨t, 0, none⟩)] a fun e b => e = .returned (.tuple #[]) ∧ Tl x t S M0 0 K F w b Ls := by
  obtain ⟨F1, h1, h2⟩ := h
  refine (mdrop a h1.inv hG).mono ?_
  rintro e b ⟨rfl, ht⟩
  exact ⟨rfl, Tl.next2 h1 h2 ht⟩
theorem Tl.good {x t K : Nat} {S : List UInt8} {M : Gd.Vol} {F : Nat → Prop} {w a : World} {Ls : List (Nat × Obj)} (h : Tl x t S M 0 K F w a Ls) : Gd.Good S M := by
  obtain ⟨F1, h1, _⟩ := h
  exact h1.inv.good
theorem Tl.fopens {x t K : Nat} {S : List UInt8} {M : Gd.Vol} {F : Nat → Prop} {w a : World} {Ls : List (Nat × Obj)} (k : Nat) (hk : k < 4) (mx : Int) (h : Tl x t S M (Gd.cnt4 k) K F w a Ls) (hB : Gd.Began M (Gd.tab4 k) k (Gd.blk4 k) (Gd.mapN4 k))
    (hmx : a.cell? ⟨0, 0, none⟩ = some (.int .i64 mx)) (hml : 0 < a.heap.size) :
    Calls Tryz.prog 44 #[.pointer (some ⟨x, 0, none⟩), .int .i64 1, .string ⟨(47 :: Gd.name4 k).toArray⟩, .int .i64 1, .bool false, .int .i64 0] a fun e b => e = .returned (.tuple #[.int .i64 ((k + 2 : Nat) : Int), .int .i64 0]) ∧ ∃ N, Gd.Began N (Gd.tab4 (k + 1)) (k + 1) (Gd.blk4 (k + 1)) (Gd.mapN4 (k + 1)) ∧ Tl x t S N (Gd.cnt4 (k + 1)) K F w b Ls := by
  obtain ⟨F1, h1, h2⟩ := h
  obtain ⟨N, hN, hC⟩ := fopens_any k hk mx a h1.inv hB hmx hml
  refine hC.mono ?_
  rintro e b ⟨rfl, ht⟩
  exact ⟨rfl, N, hN, Tl.next h1 h2 ht⟩

theorem Tl.less {x t c K : Nat} {S : List UInt8} {M : Gd.Vol} {F : Nat → Prop} {w a : World} {Ls Ls' : List (Nat × Obj)} (h : Tl x t S M c K F w a Ls) (hL : ∀ p ∈ Ls', p ∈ Ls) : Tl x t S M c K F w a Ls' := by
  obtain ⟨F1, h1, h2⟩ := h
  exact ⟨F1, h1, fun p hp => h2 p (hL p hp)⟩
def namesC : Array Value := #[.string ⟨#[47, 97]⟩, .string ⟨#[47, 98]⟩, .string ⟨#[47, 99]⟩, .string ⟨#[47, 100]⟩]
def oNam : Obj := .cells namesC 9 (0, 0)
theorem names_cell {a : World} {nb k : Nat} (h : a.heap[nb]? = some oNam) (hk : k < 4) : a.cell? ⟨nb, k, none⟩ = some (.string ⟨(47 :: Gd.name4 k).toArray⟩) := by
  match k, hk with
  | 0, _ => exact cell_of_row a nb 0 _ _ _ h
  | 1, _ => exact cell_of_row a nb 1 _ _ _ h
  | 2, _ => exact cell_of_row a nb 2 _ _ _ h
  | 3, _ => exact cell_of_row a nb 3 _ _ _ h
def VolC (t x f : Nat) : Array Value := #[.pointer (some ⟨t, 0, none⟩), .pointer (some ⟨x, 0, none⟩), .pointer (some ⟨f, 0, none⟩)]
def oVol (t x f : Nat) : Obj := .cells (VolC t x f) 57 (0, 0)
def oFil (t x : Nat) : Obj := .cells (FilC t x) 104 (0, 0)
/-- a volume at v, in a call's own blocks -/
def Volu (v : Nat) (s : Nat → List UInt8) (K : Nat) (w a : World) : Prop := ∃ x t f S M, Tl x t S M 0 K Nof w a [(v, oVol t x f), (f, oFil t x)] ∧ Gd.Fils M s
theorem txn_start {m sb lb ab n t g : Nat} {S : List UInt8} {w a : World} (hM : MemAt a m sb lb ab n S 0) (h1 : w.heap.size ≤ m ∧ w.heap.size ≤ sb ∧ w.heap.size ≤ lb ∧ w.heap.size ≤ ab) (hg1 : w.heap.size ≤ g) (hg : LogAt a g m 2688 4096)
    (ht1 : w.heap.size ≤ t) (ht : a.heap[t]? = some (.cells #[.pointer (some ⟨m, 0, none⟩), .pointer (some ⟨g, 0, none⟩), .slice none 0 0] 108 (0, 0))) : TxnF t S [] 0 a fun k => w.heap.size ≤ k :=
  ⟨m, g, .slice none 0 0, ⟨sb, lb, ab, n, hM, h1⟩, ⟨ht, World.ownsRow_nil _ _ _ _⟩, hg, ht1, hg1, (fun q hq => by cases hq), ⟨(fun p hp => by cases hp), (fun p hp => by cases hp), Nat.zero_le _⟩⟩
theorem meta_start {x t : Nat} {S : List UInt8} {w a : World} (h : TxnF t S [] 0 a fun k => w.heap.size ≤ k ∧ k < x) (hx1 : w.heap.size ≤ x) (hx : a.heap[x]? = some (.cells #[.pointer (some ⟨t, 0, none⟩)] 120 (0, 0))) (hS : S.length = 23168) (he : Gd.part S 2688 8 = Gd.le 0 8) : MetaF x t S [] 0 0 a fun k => w.heap.size ≤ k ∧ k < a.heap.size :=
  ⟨(TxnF.held t S [] 0).mono h fun k hk e => ⟨⟨e.1, hk⟩, by omega⟩, hx, ⟨hx1, lt_get hx⟩, hS, he, ⟨Nat.le_refl 0, fun _ hp => by cases hp⟩, fun k hk => hk.2⟩
theorem zeros_log : Gd.part (List.replicate 23168 0) 2688 8 = Gd.le 0 8 := by
  unfold Gd.part
  rw [List.drop_replicate, List.take_replicate]
  rfl

set_option maxHeartbeats 8000000 in
set_option maxRecDepth 100000 in
theorem begin_any (mx : Int) (w : World) (hmx : w.cell? ⟨0, 0, none⟩ = some (.int .i64 mx)) (hml : 0 < w.heap.size) :
    Calls Tryz.prog 20 #[] w fun e w' => ∃ v, e = .returned (.pointer (some ⟨v, 0, none⟩)) ∧ Volu v (fun _ => []) 4000000 w w' := by
  have HP : Hid (Calls Tryz.prog 31 #[.int .i64 23168] w (NewMem w 2896 23168)) := Lib.hid (pnew_any 2896 (by omega) (by omega) (by omega) w)
  have HMx := Lib.hid (And.intro hmx hml)
  clear hmx hml
  go_enter Tryz.func20, Tryz.ntmps20
  go_wp2_with fail
  refine HP.out.mono ?_
  rintro e w1 ⟨m, sb, lb, ab, rfl, hM1, hb1, hlow1, hge1⟩
  obtain ⟨S, hS⟩ : ∃ S : List UInt8, S = List.replicate 23168 0 := ⟨_, rfl⟩
  have hSl : S.length = 23168 := by rw [hS, List.length_replicate]
  have hSe : Gd.part S 2688 8 = Gd.le 0 8 := by rw [hS]; exact zeros_log
  rw [← hS] at hM1
  have HM1 := Lib.hid hM1
  have HS := Lib.hid (And.intro hSl hSe)
  have HB1 := Lib.hid hb1
  have HGe := Lib.hid hge1
  clear HP hM1 hb1 hlow1 hge1 hS hSl hSe
  go_wp2_with fail
  refine (lnew_any w1 HM1.out HS.out.1).mono ?_
  rintro e w2 ⟨rfl, hw2⟩
  have hb2 : Below w1.heap.size w1 w2 := by rw [hw2]; exact (Below.refl _ _).alloc (Nat.le_refl _) _
  have HL2 : Hid (LogAt w2 w1.heap.size m 2688 4096) := Lib.hid (by rw [hw2]; exact heap_alloc_new _ _)
  have HM2 := Lib.hid (HM1.out.below hb2)
  have HB2 := Lib.hid (HB1.out.trans (hb2.mono HB1.out.size))
  obtain ⟨g, hg⟩ : ∃ g, g = w1.heap.size := ⟨_, rfl⟩
  have Hg : Hid (w.heap.size ≤ g) := Lib.hid (by rw [hg]; exact HB1.out.size)
  rw [← hg] at HL2 ⊢
  clear hw2 hb2 hg
  go_wp2_with fail
  refine (tnew_any m g w2).mono ?_
  rintro e w3 ⟨rfl, hw3⟩
  have hb3 : Below w2.heap.size w2 w3 := by rw [hw3]; exact (Below.refl _ _).alloc (Nat.le_refl _) _
  have hT3 : w3.heap[w2.heap.size]? = some (.cells #[.pointer (some ⟨m, 0, none⟩), .pointer (some ⟨g, 0, none⟩), .slice none 0 0] 108 (0, 0)) := by rw [hw3]; exact heap_alloc_new _ _
  obtain ⟨t, ht⟩ : ∃ t, t = w2.heap.size := ⟨_, rfl⟩
  have Ht : Hid (w.heap.size ≤ t) := Lib.hid (by rw [ht]; exact HB2.out.size)
  rw [← ht] at hT3 ⊢
  have HT3 := Lib.hid (txn_start (w := w) (HM2.out.below hb3) HGe.out Hg.out ((hb3.block g (lt_get HL2.out)).trans HL2.out) Ht.out hT3)
  have HB3 := Lib.hid (HB2.out.trans (hb3.mono HB2.out.size))
  clear hw3 hb3 hT3 ht HM1 HM2 HL2
  go_wp2_with fail
  refine (xnew_any w3 HT3.out HS.out.1).mono ?_
  rintro e w4 ⟨x, rfl, hx, hx4, hb4⟩
  have HT4 : Hid (TxnF t S [] 0 w4 fun k => w.heap.size ≤ k ∧ k < x) := Lib.hid ((TxnF.held t S [] 0).below ((TxnF.held t S [] 0).mono HT3.out fun k hk e => ⟨e, Nat.lt_of_lt_of_le hk hx⟩) hb4)
  have HM4 := Lib.hid (meta_start HT4.out (Nat.le_trans HB3.out.size hx) hx4 HS.out.1 HS.out.2)
  have HB4 := Lib.hid (HB3.out.trans (hb4.mono HB3.out.size))
  clear hx hx4 hb4 HT3 HT4
  go_wp2_with fail
  refine (fnew_any5 t x w4).mono ?_
  rintro e w5 ⟨rfl, hw5⟩
  have hb5 : Below w4.heap.size w4 w5 := by rw [hw5]; exact (Below.refl _ _).alloc (Nat.le_refl _) _
  have HF5 : Hid (w5.heap[w4.heap.size]? = some (oFil t x)) := Lib.hid (by rw [hw5]; exact heap_alloc_new _ _)
  have HM5 := Lib.hid (HM4.out.below hb5)
  have HB5 := Lib.hid (HB4.out.trans (hb5.mono HB4.out.size))
  obtain ⟨f, hf⟩ : ∃ f, f = w4.heap.size := ⟨_, rfl⟩
  rw [← hf] at HF5 HM5 ⊢
  have Hf : Hid (w.heap.size ≤ f) := Lib.hid (by rw [hf]; exact HB4.out.size)
  clear hw5 hb5 hf
  have HFm : Hid (Calls Tryz.prog 35 #[.pointer (some ⟨x, 0, none⟩)] w5 fun e b => e = .returned (.int .i64 0) ∧ Tl x t S (Gd.freshV S) 50 0 Nof w b [(f, oFil t x)]) := Lib.hid ((format_any w5 HM5.out (by omega)).mono (by
    rintro e b ⟨rfl, F6, hs⟩
    exact ⟨rfl, Tl.of_step HB5.out (fun k hk => hk.1) (hs.mono fun hi => ⟨_, hi, Gd.fresh_good HS.out.1⟩) HF5.out (fun hk => by omega) Hf.out⟩))
  clear HM5
  go_wp2_with fail
  refine HFm.out.mono ?_
  rintro e w6 ⟨rfl, hT6⟩
  have HCm := Lib.hid (hT6.commit (by omega) (by omega))
  clear hT6 HFm
  go_wp2_with fail
  refine HCm.out.mono ?_
  rintro e w7 ⟨rfl, S7, hT7⟩
  have HT7 := Lib.hid hT7
  clear hT7 HCm
  obtain ⟨w8, hw8⟩ : ∃ u, u = w7.alloc (.cells namesC 9) := ⟨_, rfl⟩
  obtain ⟨nb, hnb⟩ : ∃ nb, nb = w7.heap.size := ⟨_, rfl⟩
  have HT8 : Hid (Tl x t S7 (Gd.freshV S) 0 (0 + 2000000) Nof w w8 [(nb, oNam), (f, oFil t x)]) := Lib.hid (by
    rw [hw8, hnb]
    exact HT7.out.new ((Below.refl _ _).alloc (Nat.le_refl _) _) (Nat.le_refl _) (heap_alloc_new _ _))
  have HW8 := Lib.hid hw8.symm
  have Hnb := Lib.hid hnb.symm
  unfold namesC at HW8
  clear hw8 hnb HT7
  go_upto_region 14 with fail
  rw [HW8.out, Hnb.out]
  go_loopw [7, 8, 9] (fun i _ _ wr => ∃ (k : Nat) (M : Gd.Vol), i = .int .i64 k ∧ k ≤ 4 ∧ Hid (Gd.Began M (Gd.tab4 k) k (Gd.blk4 k) (Gd.mapN4 k)) ∧ Hid (Tl x t S7 M (Gd.cnt4 k) (0 + 2000000) Nof w wr [(nb, oNam), (f, oFil t x)])) (fun i _ _ _ => 4 - (intOf i).toNat)
  case atStart => exact ⟨0, Gd.freshV S, rfl, by omega, Lib.hid (Gd.began_fresh S), HT8⟩
  case round =>
    obtain ⟨k, M, rfl, hk, HBg, HTr⟩ := hrel
    by_cases hlt : k < 4
    · have h1 : (k : Int) < 4 := by omega
      have h0 : (0 : Int) ≤ k := by omega
      have c0 := names_cell (HTr.out.get (k := nb) (o := oNam) (by simp)) hlt
      have HOp := Lib.hid (HTr.out.fopens k hlt mx HBg.out ((HTr.out.belowW.cell (p := ⟨0, 0, none⟩) HMx.out.2).trans HMx.out.1) (Nat.lt_of_lt_of_le HMx.out.2 HTr.out.size))
      rw [show ((k + 2 : Nat) : Int) = (k : Int) + 2 by omega] at HOp
      have Hlt := Lib.hid hlt
      clear hlt
      go_wp2_with fail
      refine HOp.out.mono ?_
      rintro e w9 ⟨rfl, N, hN, hT9⟩
      have HN := Lib.hid hN
      have HT9 := Lib.hid hT9
      clear hN hT9 HOp
      go_wp2
      go_roundw
      case rel => exact ⟨k + 1, N, by go_num, by have := Hlt.out; omega, HN, HT9⟩
      case measure => simp [intOf]; have := Hlt.out; omega
    · obtain rfl : k = 4 := by omega
      have HCm := Lib.hid (HTr.out.commit (by show 16 ≤ 57; omega) (by omega))
      have HFl := Lib.hid (Gd.Fils.began HBg.out)
      clear hlt HBg HTr
      go_wp2_with fail
      refine HCm.out.mono ?_
      rintro e w9 ⟨rfl, S9, hT9⟩
      have HT9 := Lib.hid hT9
      clear hT9 HCm
      go_wp2
      go_ret
      refine ⟨_, rfl, x, t, f, S9, M, ?_, HFl.out⟩
      have hv := HT9.out.new ((Below.refl _ _).alloc (Nat.le_refl _) (oVol t x f)) (Nat.le_refl _) (heap_alloc_new w9 (oVol t x f))
      exact hv.less fun p hp => by
        simp only [List.mem_cons, List.not_mem_nil, or_false] at hp ⊢
        rcases hp with h | h
        · exact Or.inl h
        · exact Or.inr (Or.inr h)

end Go.Proofs.YtginffdngphjpaaGreatDoor

/- Walks: a volume with files: its calls. -/
namespace Go.Proofs.YtginffdngphjpaaGreatDoor
open Go.RowKit Go.Shelf

attribute [local go_sem] Oper.semAt_some

def updS (s : Nat → List UInt8) (i : Nat) (b : List UInt8) : Nat → List UInt8 := fun j => if j = i then b else s j
section
variable {x t c K f : Nat} {S : List UInt8} {M : Gd.Vol} {F : Nat → Prop} {w a : World} {Ls : List (Nat × Obj)} {s : Nat → List UInt8}
theorem Tl.fset (h : Tl x t S M c K F w a Ls) (hf : (f, oFil t x) ∈ Ls) (hF : Gd.Fils M s) (i : Nat) (i1 : 2 ≤ i) (i2 : i ≤ 5) (b : List UInt8) (hl : b.length ≤ 256) (spare : Int) (hc : c + 13 < 64) :
    Calls Tryz.prog 21 #[.pointer (some ⟨f, 0, none⟩), .int .i64 i, .string ⟨b.toArray⟩, .int .i64 spare] a fun e W =>
      ((Gd.needN (s i).length < Gd.needN b.length ∧ 128 + Gd.needN (s i).length < max 0 spare + Gd.needN b.length + Gd.countB M.map) ∧ e = .returned (.int .i64 18) ∧ ∃ M', Tl x t S M' (c + 13) K F w W Ls) ∨
      ((Gd.needN (s i).length < Gd.needN b.length → max 0 spare + Gd.needN b.length + Gd.countB M.map ≤ 128 + Gd.needN (s i).length) ∧ e = .returned (.int .i64 0) ∧ ∃ N, Tl x t S N (c + 13) K F w W Ls ∧ Gd.Fils N (updS s i b)) := by
  obtain ⟨B0, hi, hy⟩ := hF.files i i1 i2
  obtain ⟨F1, h1, h2⟩ := h
  have hn4 : Gd.needN b.length ≤ 4 := by unfold Gd.needN; omega
  have hq := Gd.setK_any (M := M) (i := i) (y := Gd.filI (s i) B0) (s0 := s i) (all := Gd.allL b) (need := Gd.needN b.length) (spare := spare) (by omega) (by omega) hy hF.rng hn4 4 0 M B0 rfl (Gd.Qs.start hi hF.sound hy)
  have hS := set_ok i b spare a h1.inv (h2 _ hf).2.2 (h2 _ hf).2.1 (by omega) (by omega) (by unfold Gd.fileE; rw [hi]; rfl) hl (by rw [hi]; exact hy.rng) (fun p hp => by
    rw [hi] at hp ⊢
    have hp' : Gd.setK (Gd.allL b) (Gd.needN b.length) spare 4 0 M B0 = some p := hp
    rw [hp'] at hq
    exact Gd.Qs.may hq (by omega) (by omega) hl) hc
  rw [hi] at hS
  obtain ⟨R, hR⟩ : ∃ R, R = Gd.setK (Gd.allL b) (Gd.needN b.length) spare 4 0 M B0 := ⟨_, rfl⟩
  have hS2 : Calls Tryz.prog 21 #[.pointer (some ⟨f, 0, none⟩), .int .i64 i, .string ⟨b.toArray⟩, .int .i64 spare] a (SetPost x t S i (Gd.filI (s i) B0) b.length R c K F1 a) := by rw [hR]; exact hS
  rw [← hR] at hq
  match R with
  | none =>
    refine hS2.mono ?_
    rintro e W ⟨he, M', ht⟩
    exact Or.inl ⟨hq, he, M', Tl.next h1 h2 ht⟩
  | some p =>
    refine hS2.mono ?_
    rintro e W ⟨he, ht⟩
    refine Or.inr ⟨fun hlt => ?_, he, _, Tl.next h1 h2 ht, hF.set i1 i2 hi hy hl hq⟩
    have hq' : Gd.Qs M i (Gd.filI (s i) B0) (s i) (Gd.allL b) (Gd.needN b.length) spare 4 p.1 p.2 := hq
    have h3 := hq'.room
    have h4 : Gd.nz (Gd.filI (s i) B0).B = Gd.needN (s i).length := hy.nz
    rw [h4, show min 4 (Gd.needN b.length) = Gd.needN b.length by omega] at h3
    have := h3 hlt
    omega
theorem Tl.fbytes (h : Tl x t S M c K F w a Ls) (hf : (f, oFil t x) ∈ Ls) (hF : Gd.Fils M s) (i : Nat) (i1 : 2 ≤ i) (i2 : i ≤ 5) :
    Calls Tryz.prog 24 #[.pointer (some ⟨f, 0, none⟩), .int .i64 i] a fun e W => e = .returned (.tuple #[.string ⟨(s i).toArray⟩, .int .i64 0]) ∧ Below a.heap.size a W := by
  obtain ⟨B0, hi, hy⟩ := hF.files i i1 i2
  obtain ⟨F1, h1, h2⟩ := h
  have hal := Gd.allL_length (s i)
  have hcat : Gd.catB M (M.ino i).B = Gd.allL (s i) := by rw [hi]; exact hy.cat
  have hsz : (M.ino i).s = ((s i).length : Int) := by rw [hi]; rfl
  have := bytes_ok i a h1.inv (h2 _ hf).2.2 (by omega) (by omega) (by unfold Gd.fileE; rw [hi]; rfl) (by rw [hi]; exact hy.rng) (by rw [hsz]; omega) (by rw [hsz, hcat, hal, Int.toNat_natCast]; unfold Gd.needN; omega)
  rw [hsz, hcat, Int.toNat_natCast, Gd.allL_take] at this
  exact this
/-- what is no file -/
def elseE (i : Int) : Int := if i < 1 ∨ 32 < i then 1 else if i = 1 then 13 else 10
theorem Tl.felse (h : Tl x t S M c K F w a Ls) (hf : (f, oFil t x) ∈ Ls) (hF : Gd.Fils M s) (i : Int) (hi : ¬ (2 ≤ i ∧ i ≤ 5)) :
    ∃ y : Gd.Ino, y.Shape ∧ Calls Tryz.prog 51 #[.pointer (some ⟨f, 0, none⟩), .int .i64 i] a fun e W => e = .returned (.tuple #[inoV y, .int .i64 (elseE i)]) ∧ Below a.heap.size a W := by
  obtain ⟨F1, h1, h2⟩ := h
  unfold elseE
  by_cases hb : i < 1 ∨ 32 < i
  · rw [if_pos hb]
    exact ⟨Gd.noIno, ⟨rfl, rfl⟩, file_bad i a h1.inv (h2 _ hf).2.2 (by omega)⟩
  · rw [if_neg hb]
    obtain ⟨k, rfl⟩ : ∃ k : Nat, i = k := ⟨i.toNat, by omega⟩
    have hk := file_any k a h1.inv (h2 _ hf).2.2 (by omega) (by omega)
    by_cases e1 : (k : Int) = 1
    · rw [if_pos e1]
      obtain rfl : k = 1 := by omega
      unfold Gd.fileE at hk
      rw [hF.root] at hk
      exact ⟨_, ⟨rfl, rfl⟩, hk⟩
    · rw [if_neg e1]
      unfold Gd.fileE at hk
      rw [hF.rest k (by omega)] at hk
      exact ⟨_, ⟨rfl, rfl⟩, hk⟩
theorem Tl.ffile (h : Tl x t S M c K F w a Ls) (hf : (f, oFil t x) ∈ Ls) (hF : Gd.Fils M s) (i : Nat) (i1 : 2 ≤ i) (i2 : i ≤ 5) :
    ∃ y : Gd.Ino, y.Shape ∧ Calls Tryz.prog 51 #[.pointer (some ⟨f, 0, none⟩), .int .i64 i] a fun e W => e = .returned (.tuple #[inoV y, .int .i64 0]) ∧ Below a.heap.size a W := by
  obtain ⟨B0, hi, hy⟩ := hF.files i i1 i2
  obtain ⟨F1, h1, h2⟩ := h
  have hk := file_any i a h1.inv (h2 _ hf).2.2 (by omega) (by omega)
  unfold Gd.fileE at hk
  rw [hi] at hk
  exact ⟨_, ⟨hy.len, rfl⟩, hk⟩
end

theorem fnew_nil (w : World) : Calls Tryz.prog 27 #[.pointer none, .pointer none] w fun e w' => e = .returned (.pointer none) ∧ w' = w := by
  go_enter Tryz.func27, Tryz.ntmps27
  go_wp2
  go_ret
  exact ⟨rfl, rfl⟩

end Go.Proofs.YtginffdngphjpaaGreatDoor

/- Walks: commonslaw15: FilesElse. -/
namespace Go.Proofs.YtginffdngphjpaaGreatDoor
open Go.RowKit Go.Shelf

attribute [local go_sem] Oper.semAt_some

/-- the library's one variable that is read holds an int -/
def Mx (w : World) : Prop := ∃ m : Int, w.cell? ⟨0, 0, none⟩ = some (.int .i64 m)
theorem mx_lt {w : World} {m : Int} (hm : w.cell? ⟨0, 0, none⟩ = some (.int .i64 m)) : 0 < w.heap.size := by
  unfold World.cell? at hm
  cases hh : w.heap[0]? with
  | none => rw [show (⟨0, 0, none⟩ : Addr).block = 0 from rfl, hh] at hm; cases hm
  | some o => exact (Array.getElem?_eq_some_iff.1 hh).1
theorem begun {w : World} (hM : Mx w) : Calls Tryz.prog 20 #[] w fun e w' => ∃ v, e = .returned (.pointer (some ⟨v, 0, none⟩)) ∧ Volu v (fun _ => []) 4000000 w w' := by
  obtain ⟨m, hm⟩ := hM
  exact begin_any m w hm (mx_lt hm)
def cutN (s : ByteArray) (n : Nat) : ByteArray := if n < s.size then s.extract 0 n else s
theorem cutN_size (s : ByteArray) (n : Nat) : (cutN s n).size ≤ n := by
  unfold cutN
  split
  · rw [ByteArray.size_extract]
    omega
  · omega
theorem vol_cells {t x f v : Nat} {a : World} (h : a.heap[v]? = some (oVol t x f)) : a.cell? ⟨v, 0, none⟩ = some (.pointer (some ⟨t, 0, none⟩)) ∧ a.cell? ⟨v, 1, none⟩ = some (.pointer (some ⟨x, 0, none⟩)) ∧ a.cell? ⟨v, 2, none⟩ = some (.pointer (some ⟨f, 0, none⟩)) :=
  ⟨cell_of_row a v 0 _ _ _ h, cell_of_row a v 1 _ _ _ h, cell_of_row a v 2 _ _ _ h⟩
def wantA (n : Int) : Int := if n < 1 ∨ 32 < n then 1 else 10
def wantE (n : Int) : Int := if n = 1 then 13 else wantA n
theorem want_else (n : Int) : elseE n = wantE n ∧ wantE n ≠ 0 := by
  unfold elseE wantE wantA
  by_cases h : n < 1 ∨ 32 < n
  · rw [if_pos h, if_neg (by omega), if_pos h]
    exact ⟨rfl, by omega⟩
  · rw [if_neg h, if_neg h]
    split
    · exact ⟨rfl, by omega⟩
    · exact ⟨rfl, by omega⟩
theorem else_calls {x t f v K : Nat} {S : List UInt8} {M : Gd.Vol} {w a : World} (h : Tl x t S M 0 K Nof w a [(v, oVol t x f), (f, oFil t x)]) (hF : Gd.Fils M fun _ => []) (n : Int) (b : ByteArray) (hb : b.size ≤ 300) :
    ∃ E G : Int, Calls Tryz.prog 24 #[.pointer (some ⟨f, 0, none⟩), .int .i64 n] a (fun e W => e = .returned (.tuple #[.string ⟨#[]⟩, .int .i64 E]) ∧ Below a.heap.size a W) ∧
      (∀ W, Below a.heap.size a W → Calls Tryz.prog 21 #[.pointer (some ⟨f, 0, none⟩), .int .i64 n, .string b, .int .i64 0] W fun e W' => e = .returned (.int .i64 G) ∧ Below w.heap.size w W') ∧
      ((2 ≤ n ∧ n ≤ 5 ∧ E = 0 ∧ ((b.size ≤ 256 ∧ G = 0) ∨ (256 < b.size ∧ G = 19))) ∨ (¬ (2 ≤ n ∧ n ≤ 5) ∧ E = wantE n ∧ G = wantE n)) := by
  have hw := h.belowW
  by_cases hn : 2 ≤ n ∧ n ≤ 5
  · obtain ⟨k, rfl⟩ : ∃ k : Nat, n = k := ⟨n.toNat, by omega⟩
    have hB := h.fbytes (f := f) (by simp) hF k (by omega) (by omega)
    by_cases hs : b.size ≤ 256
    · refine ⟨0, 0, hB, fun W hW => ?_, Or.inl ⟨hn.1, hn.2, rfl, Or.inl ⟨hs, rfl⟩⟩⟩
      have hS := (h.below hW).fset (f := f) (by simp) hF k (by omega) (by omega) b.data.toList hs 0 (by omega)
      rw [ba_mk b] at hS
      refine hS.mono ?_
      have hc := hF.count
      have hn4 : Gd.needN b.data.toList.length ≤ 4 := by
        have : b.data.toList.length ≤ 256 := hs
        unfold Gd.needN
        omega
      have h0 : Gd.needN ([] : List UInt8).length = 0 := rfl
      rintro e W' (⟨⟨_, h2⟩, _⟩ | ⟨_, rfl, N, hN, _⟩)
      · rw [h0] at hc h2
        omega
      · exact ⟨rfl, hN.belowW⟩
    · refine ⟨0, 19, hB, fun W hW => ?_, Or.inl ⟨hn.1, hn.2, rfl, Or.inr ⟨by omega, rfl⟩⟩⟩
      obtain ⟨y, hy, hf⟩ := (h.below hW).ffile (f := f) (by simp) hF k (by omega) (by omega)
      refine (set_big k b 0 W hy (by omega) (by omega) hf).mono ?_
      rintro e W' ⟨rfl, hb'⟩
      exact ⟨rfl, ((h.below hW).below hb').belowW⟩
  · obtain ⟨hwe, hne⟩ := want_else n
    obtain ⟨y, hy, hf⟩ := h.felse (f := f) (by simp) hF n hn
    rw [hwe] at hf
    refine ⟨wantE n, wantE n, bytes_err n a hy hne hf, fun W hW => ?_, Or.inr ⟨hn, rfl, rfl⟩⟩
    obtain ⟨y2, hy2, hf2⟩ := (h.below hW).felse (f := f) (by simp) hF n hn
    rw [hwe] at hf2
    refine (set_err n b 0 W hy2 hne hf2).mono ?_
    rintro e W' ⟨rfl, hb'⟩
    exact ⟨rfl, ((h.below hW).below hb').belowW⟩

set_option maxHeartbeats 8000000 in
set_option maxRecDepth 100000 in
theorem law_else (n : Int) (s : ByteArray) (w : World) (ws : s.size ≤ 9223372036854775807) (hM : Mx w) :
    Calls Tryz.prog 7 #[.int .i64 n, .string s] w fun e w' => e = .returned (.bool true) ∧ Below w.heap.size w w' := by
  have HBg := Lib.hid (begun hM)
  clear hM
  go_enter Tryz.func7, Tryz.ntmps7
  go_wp2_with fail
  refine HBg.out.mono ?_
  rintro e w1 ⟨v, rfl, x, t, f, S, M, hT, hF⟩
  obtain ⟨b, hb0⟩ : ∃ b, b = cutN s 300 := ⟨_, rfl⟩
  have hbs : b.size ≤ 300 := by rw [hb0]; exact cutN_size _ _
  obtain ⟨E, G, hBy, hSt, hcase⟩ := else_calls hT hF n b hbs
  have HV := Lib.hid (hT.get (k := v) (o := oVol t x f) (by simp))
  obtain ⟨_, _, v2⟩ := vol_cells HV.out
  have HT := Lib.hid hT.belowW
  have HBy := Lib.hid hBy
  have HSt := Lib.hid hSt
  have HCase := Lib.hid hcase
  unfold cutN at hb0
  have HB := Lib.hid hb0
  have hS31 : (s.size : Int) ≤ 9223372036854775807 := by omega
  clear hT hF hb0 hbs hBy hSt hcase HBg ws
  go_upto_if 15 with fail
  go_cut [1] from 13 to 17 (fun s1 wx => s1 = .string b ∧ wx = w1)
  case first =>
    by_cases h1 : 300 < s.size
    · have hq := HB.out
      rw [if_pos h1] at hq
      have HQ := Lib.hid hq
      have h2 : (300 : Int) ≤ s.size := by omega
      clear hq
      go_wp2_with fail
      go_meet
      exact ⟨by rw [HQ.out], rfl⟩
    · have hq := HB.out
      rw [if_neg h1] at hq
      have HQ := Lib.hid hq
      clear hq
      go_wp2_with fail
      go_meet
      exact ⟨by rw [HQ.out], rfl⟩
  case rest =>
  obtain ⟨rfl, hwc⟩ := hcut
  subst wc
  clear hS31
  go_upto_region 7 with fail
  go_cut [23] from 18 to 23 (fun c wx => c = .bool (decide (n < 1 ∨ 32 < n)) ∧ wx = w1)
  case first =>
    by_cases h1 : n < 1
    · go_wp2_with fail
      go_meet
      exact ⟨by simp [h1], rfl⟩
    · by_cases h2 : 32 < n
      · go_wp2_with fail
        go_meet
        exact ⟨by simp [h2], rfl⟩
      · go_wp2_with fail
        go_meet
        exact ⟨by simp [h1, h2], rfl⟩
  case rest =>
  obtain ⟨rfl, hwc⟩ := hcut
  subst wc
  obtain ⟨B, hB⟩ : ∃ B, B = decide (n < 1 ∨ 32 < n) := ⟨_, rfl⟩
  have HBd := Lib.hid hB
  rw [← hB]
  clear hB
  go_upto_if 23 with fail
  go_cut [6] from 18 to 23 (fun z wx => z = .int .i64 (wantA n) ∧ wx = w1)
  case first =>
    have hB := HBd.out
    cases B
    · go_wp2_with fail
      go_meet
      exact ⟨by unfold wantA; rw [if_neg (of_decide_eq_false hB.symm)], rfl⟩
    · go_wp2_with fail
      go_meet
      exact ⟨by unfold wantA; rw [if_pos (of_decide_eq_true hB.symm)], rfl⟩
  case rest =>
  obtain ⟨rfl, hwc⟩ := hcut
  subst wc
  clear HBd
  go_upto_if 25 with fail
  go_cut [6] from 24 to 25 (fun z wx => z = .int .i64 (wantE n) ∧ wx = w1)
  case first =>
    by_cases h1 : n = 1
    · go_wp2_with fail
      go_meet
      exact ⟨by unfold wantE; rw [if_pos h1], rfl⟩
    · go_wp2_with fail
      go_meet
      exact ⟨by unfold wantE; rw [if_neg h1], rfl⟩
  case rest =>
  obtain ⟨rfl, hwc⟩ := hcut
  subst wc
  go_wp2_with fail
  refine HBy.out.mono ?_
  rintro e w2 ⟨rfl, hb2⟩
  obtain ⟨_, _, v2⟩ := vol_cells ((hb2.block v (lt_get HV.out)).trans HV.out)
  have HSc := Lib.hid (HSt.out w2 hb2)
  clear hb2
  go_wp2_with fail
  refine HSc.out.mono ?_
  rintro e w3 ⟨rfl, hb3⟩
  have HB3 := Lib.hid hb3
  clear hb3 HSc v2
  rcases HCase.out with ⟨c1, c2, rfl, hc⟩ | ⟨hc, rfl, rfl⟩
  · rcases hc with ⟨hs, rfl⟩ | ⟨hs, rfl⟩
    · have hs2 : (b.size : Int) ≤ 256 := by omega
      clear hs
      go_wp2_with fail
      refine (Fl.lives_any _).mono ?_
      rintro e w4 ⟨rfl, hb4⟩
      go_wp2
      go_ret
      exact ⟨rfl, HB3.out.trans (hb4.mono HB3.out.size)⟩
    · have hs2 : ¬ (b.size : Int) ≤ 256 := by omega
      clear hs
      go_wp2_with fail
      refine (Fl.lives_any _).mono ?_
      rintro e w4 ⟨rfl, hb4⟩
      go_wp2
      go_ret
      exact ⟨ret_bool (by rw [decide_eq_false (by omega)]; rfl), HB3.out.trans (hb4.mono HB3.out.size)⟩
  · obtain ⟨z, hz⟩ : ∃ z, z = wantE n := ⟨_, rfl⟩
    rw [← hz]
    clear hz
    by_cases h1 : 2 ≤ n
    · have h2 : ¬ n ≤ 5 := by omega
      clear hc
      go_wp2_with fail
      refine (fnew_nil _).mono ?_
      rintro e w4 ⟨rfl, rfl⟩
      go_wp2_with fail
      refine (Fl.lives_any _).mono ?_
      rintro e w5 ⟨rfl, hb5⟩
      go_wp2
      go_ret
      exact ⟨rfl, HB3.out.trans (hb5.mono HB3.out.size)⟩
    · clear hc
      go_wp2_with fail
      refine (fnew_nil _).mono ?_
      rintro e w4 ⟨rfl, rfl⟩
      go_wp2_with fail
      refine (Fl.lives_any _).mono ?_
      rintro e w5 ⟨rfl, hb5⟩
      go_wp2
      go_ret
      exact ⟨rfl, HB3.out.trans (hb5.mono HB3.out.size)⟩

end Go.Proofs.YtginffdngphjpaaGreatDoor

/- Walks: commonslaw15: FilesSpace. -/
namespace Go.Proofs.YtginffdngphjpaaGreatDoor
open Go.RowKit Go.Shelf

attribute [local go_sem] Oper.semAt_some

section
variable {x t c K f : Nat} {S : List UInt8} {M : Gd.Vol} {F : Nat → Prop} {w a : World} {Ls : List (Nat × Obj)} {s : Nat → List UInt8}
theorem Tl.fmap (h : Tl x t S M c K F w a Ls) : Calls Tryz.prog 14 #[.pointer (some ⟨x, 0, none⟩)] a fun e W => e = .returned (mapV M.map) ∧ Below a.heap.size a W := by
  obtain ⟨F1, h1, h2⟩ := h
  exact map_any a h1.inv
theorem Tl.fino (h : Tl x t S M c K F w a Ls) (i : Int) (h1 : 1 ≤ i) (h2 : i ≤ 32) : Calls Tryz.prog 11 #[.pointer (some ⟨x, 0, none⟩), .int .i64 i] a fun e W => e = .returned (.tuple #[inoV (M.ino i.toNat), .int .i64 0]) ∧ Below a.heap.size a W := by
  obtain ⟨F1, k1, k2⟩ := h
  exact inode_ok i a k1.inv h1 h2
/-- where there is room -/
theorem Tl.fset_ok (h : Tl x t S M c K F w a Ls) (hf : (f, oFil t x) ∈ Ls) (hF : Gd.Fils M s) (i : Nat) (i1 : 2 ≤ i) (i2 : i ≤ 5) (b : ByteArray) (hl : b.size ≤ 256) (hc : c + 13 < 64) :
    Calls Tryz.prog 21 #[.pointer (some ⟨f, 0, none⟩), .int .i64 i, .string b, .int .i64 0] a fun e W => e = .returned (.int .i64 0) ∧ ∃ N, Tl x t S N (c + 13) K F w W Ls ∧ Gd.Fils N (updS s i b.data.toList) := by
  have hS := h.fset hf hF i i1 i2 b.data.toList hl 0 hc
  rw [ba_mk b] at hS
  refine hS.mono ?_
  have hcn := hF.count
  have hn : ∀ j, 2 ≤ j → j ≤ 5 → Gd.needN (s j).length ≤ 4 := fun j j1 j2 => by
    obtain ⟨B, _, hB⟩ := hF.files j j1 j2
    exact hB.need
  have n2 := hn 2 (by omega) (by omega)
  have n3 := hn 3 (by omega) (by omega)
  have n4 := hn 4 (by omega) (by omega)
  have n5 := hn 5 (by omega) (by omega)
  have hn4 : Gd.needN b.data.toList.length ≤ 4 := by
    have : b.data.toList.length ≤ 256 := hl
    unfold Gd.needN
    omega
  rintro e W' (⟨⟨_, h2⟩, _⟩ | ⟨_, he, hN⟩)
  · omega
  · exact ⟨he, hN⟩
end
theorem updS_same (s : Nat → List UInt8) (i : Nat) (b : List UInt8) : updS s i b i = b := if_pos rfl
theorem updS_other (s : Nat → List UInt8) {i j : Nat} (b : List UInt8) (h : j ≠ i) : updS s i b j = s j := if_neg h
/-- a text and no others -/
def oneS (b : ByteArray) : Nat → List UInt8 := updS (fun _ => []) 2 b.data.toList
theorem i64_le {n : Int} (h : (Lit.int .i64 n).wf = true) : n ≤ 9223372036854775807 := by
  have : I64 n := h
  exact this.lo.2
theorem oneS_count {M : Gd.Vol} {b : ByteArray} (h : Gd.Fils M (oneS b)) : Gd.countB M.map = 2 + Gd.needN b.size := by
  have := h.count
  have h2 : oneS b 2 = b.data.toList := updS_same _ _ _
  have h3 : oneS b 3 = [] := updS_other _ _ (by omega)
  have h4 : oneS b 4 = [] := updS_other _ _ (by omega)
  have h5 : oneS b 5 = [] := updS_other _ _ (by omega)
  rw [h2, h3, h4, h5] at this
  have h0 : Gd.needN ([] : List UInt8).length = 0 := rfl
  rw [h0] at this
  show _ = 2 + Gd.needN b.data.toList.length
  omega
/-- the first text is set; then there is room for the other one, or not -/
theorem space_again {x t f K : Nat} {S : List UInt8} {M : Gd.Vol} {w a : World} {Ls : List (Nat × Obj)} {b d : ByteArray} (h : Tl x t S M 0 K Nof w a Ls) (hf : (f, oFil t x) ∈ Ls) (hF : Gd.Fils M (oneS b)) (hd : d.size ≤ 256) (p : Int) (hp : 0 ≤ p) :
    Calls Tryz.prog 21 #[.pointer (some ⟨f, 0, none⟩), .int .i64 2, .string d, .int .i64 p] a fun e W =>
      ((Gd.needN b.size < Gd.needN d.size ∧ 126 < p + Gd.needN d.size) ∧ e = .returned (.int .i64 18) ∧ ∃ M', Tl x t S M' 13 K Nof w W Ls) ∨
      ((Gd.needN b.size < Gd.needN d.size → p + Gd.needN d.size ≤ 126) ∧ e = .returned (.int .i64 0) ∧ ∃ N, Tl x t S N 13 K Nof w W Ls ∧ Gd.Fils N (updS (oneS b) 2 d.data.toList)) := by
  have hS := h.fset hf hF 2 (by omega) (by omega) d.data.toList hd p (by omega)
  rw [ba_mk d, oneS_count hF, Nat.zero_add, show oneS b 2 = b.data.toList from updS_same _ _ _] at hS
  have e1 : b.data.toList.length = b.size := rfl
  have e2 : d.data.toList.length = d.size := rfl
  rw [e1, e2, show max 0 p = p by omega] at hS
  refine hS.mono ?_
  rintro e W (⟨⟨h1, h2⟩, h3⟩ | ⟨h1, h3⟩)
  · exact Or.inl ⟨⟨h1, by omega⟩, h3⟩
  · exact Or.inr ⟨fun hlt => by have := h1 hlt; omega, h3⟩
theorem space_bytes {x t f c K : Nat} {S : List UInt8} {M : Gd.Vol} {F : Nat → Prop} {w a : World} {Ls : List (Nat × Obj)} {b : ByteArray} {s : Nat → List UInt8} (h : Tl x t S M c K F w a Ls) (hf : (f, oFil t x) ∈ Ls) (hF : Gd.Fils M s) (hs : s 2 = b.data.toList) :
    Calls Tryz.prog 24 #[.pointer (some ⟨f, 0, none⟩), .int .i64 2] a fun e W => e = .returned (.tuple #[.string b, .int .i64 0]) ∧ Below a.heap.size a W := by
  have := h.fbytes hf hF 2 (by omega) (by omega)
  rw [hs, ba_mk b] at this
  exact this

set_option maxHeartbeats 8000000 in
set_option maxRecDepth 100000 in
theorem law_space (s d : ByteArray) (p : Int) (w : World) (ws : s.size ≤ 9223372036854775807) (wd : d.size ≤ 9223372036854775807) (hp : p ≤ 9223372036854775807) (hM : Mx w) :
    Calls Tryz.prog 6 #[.string s, .string d, .int .i64 p] w fun e w' => e = .returned (.bool true) ∧ Below w.heap.size w w' := by
  have HBg := Lib.hid (begun hM)
  clear hM
  go_enter Tryz.func6, Tryz.ntmps6
  go_wp2_with fail
  refine HBg.out.mono ?_
  rintro e w1 ⟨v, rfl, x, t, f, S, M, hT, hF⟩
  have HT := Lib.hid hT
  have HF := Lib.hid hF
  obtain ⟨b, hb0⟩ : ∃ b, b = cutN s 256 := ⟨_, rfl⟩
  have hbs : b.size ≤ 256 := by rw [hb0]; exact cutN_size _ _
  obtain ⟨g, hg0⟩ : ∃ g, g = cutN d 256 := ⟨_, rfl⟩
  have hgs : g.size ≤ 256 := by rw [hg0]; exact cutN_size _ _
  have HSz := Lib.hid (And.intro hbs hgs)
  obtain ⟨nb, hnb⟩ : ∃ n, n = Gd.needN b.size := ⟨_, rfl⟩
  obtain ⟨ng, hng⟩ : ∃ n, n = Gd.needN g.size := ⟨_, rfl⟩
  have nb4 : nb ≤ 4 := by rw [hnb]; unfold Gd.needN; omega
  have ng4 : ng ≤ 4 := by rw [hng]; unfold Gd.needN; omega
  have HN1 : Hid (∀ W, Calls Tryz.prog 23 #[.int .i64 g.size] W fun e w' => e = .returned (.int .i64 ng) ∧ w' = W) := Lib.hid fun W => by rw [hng]; exact needs_any g.size (by omega) W
  have HN2 : Hid (∀ W, Calls Tryz.prog 23 #[.int .i64 b.size] W fun e w' => e = .returned (.int .i64 nb) ∧ w' = W) := Lib.hid fun W => by rw [hnb]; exact needs_any b.size (by omega) W
  have HNb := Lib.hid hnb
  have HNg := Lib.hid hng
  unfold cutN at hb0 hg0
  have HB := Lib.hid hb0
  have HG := Lib.hid hg0
  have hS31 : (s.size : Int) ≤ 9223372036854775807 := by omega
  have hD31 : (d.size : Int) ≤ 9223372036854775807 := by omega
  have HP := Lib.hid hp
  clear hT hF hb0 hg0 hbs hgs HBg ws wd hp hnb hng
  go_upto_if 21 with fail
  go_cut [0] from 19 to 23 (fun s1 wx => s1 = .string b ∧ wx = w1)
  case first =>
    by_cases h1 : 256 < s.size
    · have hq := HB.out
      rw [if_pos h1] at hq
      have HQ := Lib.hid hq
      have h2 : (256 : Int) ≤ s.size := by omega
      clear hq
      go_wp2_with fail
      go_meet
      exact ⟨by rw [HQ.out], rfl⟩
    · have hq := HB.out
      rw [if_neg h1] at hq
      have HQ := Lib.hid hq
      clear hq
      go_wp2_with fail
      go_meet
      exact ⟨by rw [HQ.out], rfl⟩
  case rest =>
  obtain ⟨rfl, hwc⟩ := hcut
  subst wc
  clear hS31
  go_upto_if 26 with fail
  go_cut [1] from 24 to 28 (fun s1 wx => s1 = .string g ∧ wx = w1)
  case first =>
    by_cases h1 : 256 < d.size
    · have hq := HG.out
      rw [if_pos h1] at hq
      have HQ := Lib.hid hq
      have h2 : (256 : Int) ≤ d.size := by omega
      clear hq
      go_wp2_with fail
      go_meet
      exact ⟨by rw [HQ.out], rfl⟩
    · have hq := HG.out
      rw [if_neg h1] at hq
      have HQ := Lib.hid hq
      clear hq
      go_wp2_with fail
      go_meet
      exact ⟨by rw [HQ.out], rfl⟩
  case rest =>
  obtain ⟨rfl, hwc⟩ := hcut
  subst wc
  clear hD31
  have HS1 := Lib.hid (HT.out.fset_ok (f := f) (by simp) HF.out 2 (by omega) (by omega) b HSz.out.1 (by omega))
  obtain ⟨_, _, v2⟩ := vol_cells (HT.out.get (k := v) (o := oVol t x f) (by simp))
  go_wp2_with fail
  refine HS1.out.mono ?_
  rintro e w2 ⟨rfl, N, hT2, hF2⟩
  have HT2 := Lib.hid hT2
  have HF2 : Hid (Gd.Fils N (oneS b)) := Lib.hid hF2
  obtain ⟨v0, _, _⟩ := vol_cells (HT2.out.get (k := v) (o := oVol t x f) (by simp))
  have HC2 := Lib.hid (HT2.out.commit (by omega) (by omega))
  clear hT2 hF2 HS1 HT HF v2
  go_wp2_with fail
  refine HC2.out.mono ?_
  rintro e w3 ⟨rfl, S3, hT3⟩
  have HT3 := Lib.hid hT3
  obtain ⟨_, v1, _⟩ := vol_cells (HT3.out.get (k := v) (o := oVol t x f) (by simp))
  have HM3 := Lib.hid HT3.out.fmap
  have HCo := Lib.hid fun W => count_any N.map HF2.out.sound.mapl W
  rw [oneS_count HF2.out, ← HNb.out, show ((2 + nb : Nat) : Int) = 2 + (nb : Int) by omega] at HCo
  clear hT3 HC2 v0 HT2
  go_wp2_with fail
  refine HM3.out.mono ?_
  rintro e w4 ⟨rfl, hb4⟩
  have HT4 := Lib.hid (HT3.out.below hb4)
  clear hb4 HM3 v1
  go_wp2_with fail
  refine (HCo.out _).mono ?_
  rintro e w5 ⟨rfl, hb5⟩
  have HT5 := Lib.hid (HT4.out.below hb5)
  clear hb5 HCo HT3 HT4
  go_wp2_with fail
  refine (HN1.out _).mono ?_
  rintro e w6 ⟨rfl, rfl⟩
  go_wp2_with fail
  refine (HN2.out _).mono ?_
  rintro e w7 ⟨rfl, rfl⟩
  clear HN1 HN2
  go_upto_if 59 with fail
  go_cut [2] from 58 to 59 (fun z wx => z = .int .i64 (max 0 p) ∧ wx = w7)
  case first =>
    by_cases h1 : p < 0
    · go_wp2_with fail
      go_meet
      exact ⟨by rw [show max 0 p = 0 by omega], rfl⟩
    · go_wp2_with fail
      go_meet
      exact ⟨by rw [show max 0 p = p by omega], rfl⟩
  case rest =>
  obtain ⟨rfl, hwc⟩ := hcut
  subst wc
  obtain ⟨q, hq⟩ : ∃ q, q = max 0 p := ⟨_, rfl⟩
  have q0 : 0 ≤ q := by omega
  have q1 : q ≤ 9223372036854775807 := by have := HP.out; omega
  rw [← hq]
  have HSt := Lib.hid (space_again (f := f) (d := g) HT5.out (by simp) HF2.out HSz.out.2 q q0)
  rw [← HNb.out, ← HNg.out] at HSt
  obtain ⟨_, _, v2⟩ := vol_cells (HT5.out.get (k := v) (o := oVol t x f) (by simp))
  clear hq HP
  go_wp2_with fail
  refine HSt.out.mono ?_
  clear HSt v2
  rintro e w8 (⟨⟨h1, h2⟩, rfl, M8, hT8⟩ | ⟨h1, rfl, M8, hT8, hF8⟩)
  · have HT8 := Lib.hid hT8
    have HDr := Lib.hid (HT8.out.drop HT5.out.good)
    obtain ⟨v0, _, _⟩ := vol_cells (HT8.out.get (k := v) (o := oVol t x f) (by simp))
    have e1 : decide ((ng : Int) - nb ≤ 0) = false := decide_eq_false (by omega)
    have e2 : decide ((ng : Int) - nb ≤ 128 - (2 + nb) - q) = false := decide_eq_false (by omega)
    clear hT8
    go_upto_region 15 with fail
    go_cut [11] from 67 to 80 (fun z wx => z = .bool false ∧ wx = w8)
    case first =>
      have h3 : ¬ ((ng : Int) - nb ≤ 0) := by omega
      by_cases hq : q ≤ 128 - (2 + (nb : Int))
      · go_wp2_with fail
        go_meet
        exact ⟨by simp [e2], rfl⟩
      · go_wp2_with fail
        go_meet
        exact ⟨rfl, rfl⟩
    case rest =>
    obtain ⟨rfl, hwc⟩ := hcut
    subst wc
    go_wp2_with fail
    refine HDr.out.mono ?_
    rintro e w9 ⟨rfl, hT9⟩
    have HT9 := Lib.hid hT9
    obtain ⟨_, _, v2⟩ := vol_cells (HT9.out.get (k := v) (o := oVol t x f) (by simp))
    have HBy := Lib.hid (space_bytes (f := f) (b := b) HT9.out (by simp) HF2.out (updS_same _ _ _))
    clear hT9 HDr v0
    go_wp2_with fail
    refine HBy.out.mono ?_
    rintro e w10 ⟨rfl, hb10⟩
    have HB10 := Lib.hid (HT9.out.below hb10).belowW
    clear hb10 HBy v2
    go_wp2_with fail
    refine (Fl.lives_any _).mono ?_
    rintro e w11 ⟨rfl, hb11⟩
    go_wp2
    go_ret
    exact ⟨rfl, HB10.out.trans (hb11.mono HB10.out.size)⟩
  · have HT8 := Lib.hid hT8
    have HF8 := Lib.hid hF8
    obtain ⟨_, _, v2⟩ := vol_cells (HT8.out.get (k := v) (o := oVol t x f) (by simp))
    clear hT8 hF8
    go_upto_region 15 with fail
    go_cut [11] from 67 to 80 (fun z wx => z = .bool true ∧ wx = w8)
    case first =>
      by_cases hm : (ng : Int) - nb ≤ 0
      · go_wp2_with fail
        go_meet
        exact ⟨rfl, rfl⟩
      · have hq := h1 (by omega)
        have e1 : q ≤ 128 - (2 + (nb : Int)) := by omega
        have e2 : decide ((ng : Int) - nb ≤ 128 - (2 + nb) - q) = true := decide_eq_true (by omega)
        go_wp2_with fail
        go_meet
        exact ⟨by simp [e2], rfl⟩
    case rest =>
    obtain ⟨rfl, hwc⟩ := hcut
    subst wc
    have HBy := Lib.hid (space_bytes (f := f) (b := g) HT8.out (by simp) HF8.out (updS_same _ _ _))
    clear h1
    go_wp2_with fail
    refine HBy.out.mono ?_
    rintro e w10 ⟨rfl, hb10⟩
    have HB10 := Lib.hid (HT8.out.below hb10).belowW
    clear hb10 HBy v2
    go_wp2_with fail
    refine (Fl.lives_any _).mono ?_
    rintro e w11 ⟨rfl, hb11⟩
    go_wp2
    go_ret
    exact ⟨rfl, HB10.out.trans (hb11.mono HB10.out.size)⟩

end Go.Proofs.YtginffdngphjpaaGreatDoor

/- Arguments of the statements of chapter 15: rows of texts; how long files are. -/
namespace Go.Proofs.YtginffdngphjpaaGreatDoor
open Go.RowKit Go.Shelf

/-- texts that lie in memory -/
def SR (w : World) (A : Option Addr) (L : List (List UInt8)) : Prop :=
  L = [] ∨ ∃ b o, A = some ⟨b, o, none⟩ ∧ b < w.heap.size ∧ ∀ j x, L[j]? = some x → w.cell? ⟨b, o + j, none⟩ = some (.string ⟨x.toArray⟩)
def Raw (w : World) (A : Option Addr) (n c : Nat) : Prop := ∃ L : List (List UInt8), n = L.length ∧ n ≤ c ∧ n ≤ 9223372036854775807 ∧ (∀ x ∈ L, x.length ≤ 9223372036854775807) ∧ SR w A L

set_option maxRecDepth 100000 in
theorem open_list {H : Type} {enc : TypeId × Value → H} {W : World} {base : Nat} {v : Value} {d : DataW H} {p : List MemPlace} (hv : Value.okWide Tryz.prog W .any base 52 v) (hd : DataW.Trod enc Tryz.prog W 0 (fun _ => true) true 52 v d p) (hlt : ∀ x ∈ p, x.block < W.heap.size) :
    ∃ A n c, v = .slice A n c ∧ Raw W A n c := by
  obtain ⟨a0, len, cap, rfl⟩ := Go.WideShapes.okWide_slice Tryz.underlying52 hv
  obtain ⟨fuel, hf⟩ := hd
  rcases Go.ChangeShapes.open_strings Tryz.underlying52 Tryz.underlying9 (by kernel_rfl) hf with ⟨hcs, hx⟩ | ⟨a, len', cap', ss, hcs, _, hl, hm, hz, hx, hcell, hsz⟩
  · simp [Value.cells] at hcs
    obtain ⟨rfl, rfl, rfl⟩ := hcs
    exact ⟨none, 0, 0, rfl, [], rfl, Nat.le_refl _, by omega, by simp, Or.inl rfl⟩
  · simp [Value.cells] at hcs
    obtain ⟨rfl, rfl, rfl⟩ := hcs
    simp only [if_true] at hz
    simp only [Prod.mk.injEq] at hx
    obtain ⟨_, rfl⟩ := hx
    unfold maxLen at hm hsz
    refine ⟨_, _, _, rfl, (ss.take len).map (·.data.toList), by simp; omega, hl, by omega, ?_, ?_⟩
    · intro x hx
      rw [List.mem_map] at hx
      obtain ⟨s, hs, rfl⟩ := hx
      have := hsz s (List.mem_of_mem_take hs)
      rw [Lib.size_eq] at this
      exact this
    · by_cases h0 : len = 0
      · left; rw [h0]; rfl
      · right
        obtain ⟨b, o, spot⟩ := a
        have hspot : spot = none := by simpa [Addr.add] using World.cell?_spot (hcell 0 (by omega))
        subst hspot
        refine ⟨b, o, rfl, hlt (.cell b o) (MemPlace.mem_row.2 ⟨0, by omega, by simp⟩), fun j x hj => ?_⟩
        rw [List.getElem?_map] at hj
        cases hs : (ss.take len)[j]? with
        | none => rw [hs] at hj; cases hj
        | some y =>
          rw [hs] at hj
          cases hj
          rw [List.getElem?_take] at hs
          split at hs
          · have h1 := (List.getElem?_eq_some_iff.1 hs).1
            have h2 := hcell j h1
            rw [Addr.add_lit, List.getD_eq_getElem?_getD, hs] at h2
            rw [h2]
            show _ = some (Value.string ⟨y.data.toList.toArray⟩)
            rw [ba_mk]; rfl
          · cases hs


theorem SR.keep {w w' : World} {A : Option Addr} {L : List (List UInt8)} (h : SR w A L) (hb : Below w.heap.size w w') : SR w' A L := by
  rcases h with h | ⟨b, o, h1, h2, h3⟩
  · exact Or.inl h
  · have := hb.size
    exact Or.inr ⟨b, o, h1, by omega, fun j x hx => (hb.cell (p := ⟨b, o + j, none⟩) h2).trans (h3 j x hx)⟩
/-- the text of a number in a row -/
theorem raw_at {w w' : World} {A : Option Addr} {n c j : Nat} (h : Raw w A n c) (hb : Below w.heap.size w w') (hj : j < n) : ∃ b o u, A = some ⟨b, o, none⟩ ∧ w'.cell? ⟨b, o + j, none⟩ = some (.string u) ∧ u.size ≤ 9223372036854775807 := by
  obtain ⟨L, rfl, _, _, hz, hS⟩ := h
  rcases hS.keep hb with h | ⟨b, o, h1, h2, h3⟩
  · rw [h] at hj
    exact absurd hj (by simp)
  · exact ⟨b, o, _, h1, h3 j _ (List.getElem?_eq_getElem hj), hz _ (List.getElem_mem hj)⟩
/-- how long the four files are -/
def szC (s : Nat → List UInt8) : Array Value := #[.int .i64 (s 2).length, .int .i64 (s 3).length, .int .i64 (s 4).length, .int .i64 (s 5).length]
def oSz (s : Nat → List UInt8) : Obj := .cells (szC s) 3 (0, 0)
theorem szC_set (s : Nat → List UInt8) {k : Nat} (hk : k < 4) (b : List UInt8) : (szC s).setIfInBounds k (.int .i64 b.length) = szC (updS s (k + 2) b) := by
  match k, hk with
  | 0, _ => rfl
  | 1, _ => rfl
  | 2, _ => rfl
  | 3, _ => rfl
theorem sz_cell {a : World} {sb k : Nat} {s : Nat → List UInt8} (h : a.heap[sb]? = some (oSz s)) (hk : k < 4) : a.cell? ⟨sb, k, none⟩ = some (.int .i64 (s (k + 2)).length) := by
  match k, hk with
  | 0, _ => exact cell_of_row a sb 0 _ _ _ h
  | 1, _ => exact cell_of_row a sb 1 _ _ _ h
  | 2, _ => exact cell_of_row a sb 2 _ _ _ h
  | 3, _ => exact cell_of_row a sb 3 _ _ _ h
/-- the blocks of the first files -/
def sumN (s : Nat → List UInt8) : Nat → Nat
  | 0 => 0
  | j + 1 => sumN s j + Gd.needN (s (j + 2)).length
theorem fils_sum {M : Gd.Vol} {s : Nat → List UInt8} (h : Gd.Fils M s) : Gd.countB M.map = 2 + sumN s 4 := by
  have := h.count
  show _ = 2 + (0 + Gd.needN (s 2).length + Gd.needN (s 3).length + Gd.needN (s 4).length + Gd.needN (s 5).length)
  omega
theorem sumN_le {M : Gd.Vol} {s : Nat → List UInt8} (h : Gd.Fils M s) : ∀ j, j ≤ 4 → sumN s j ≤ 4 * j
  | 0, _ => Nat.le_refl _
  | j + 1, hj => by
    have h1 := sumN_le h j (by omega)
    obtain ⟨B, _, hB⟩ := h.files (j + 2) (by omega) (by omega)
    have := hB.need
    show sumN s j + _ ≤ _
    omega

end Go.Proofs.YtginffdngphjpaaGreatDoor
