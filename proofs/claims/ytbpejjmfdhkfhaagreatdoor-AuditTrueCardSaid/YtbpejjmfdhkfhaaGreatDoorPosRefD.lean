/- Walks: the document's take. -/
import Derived.Test.YtbpejjmfdhkfhaaGreatDoorPosRefC
import Derived.Laws.Rows
import Derived.Test.YtbpejjmfdhkfhaaGreatDoorPosBase
set_option linter.unusedVariables false
set_option linter.unusedSimpArgs false
namespace Go.Proofs.YtbpejjmfdhkfhaaGreatDoor
open Go.RowKit

theorem row_low {w : World} {B B' e sz n : Nat} {v : Value} {xs : List Value} (h : w.ownsRow B' e sz v n xs) (hB : B ≤ B') : w.ownsRow B e sz v n xs :=
  ⟨h.1, h.2.imp id fun ⟨g, cap, cur, a, b, c⟩ => ⟨g, cap, cur, a, Nat.le_trans hB b, c⟩⟩

set_option maxHeartbeats 4000000 in
set_option maxRecDepth 8192 in
theorem take_any (r : Nat) (S : Pz.Fil) (i : Nat) (s : ByteArray) (w : World) (F : Nat → Prop) (hE : S.E.length ≤ 1000000) (hR : RefF r S w F) :
    Calls Tryz.prog 42 #[.pointer (some ⟨r, 0, none⟩), .int .i64 i, .string s] w fun e w' => e = .returned (.tuple #[]) ∧ RefF r { S with E := Pz.take S.E i s.data.toList } w' (Gr F w) ∧ Only F w w' := by
  obtain ⟨vN, vE, vO, hA, hr, hiN, hiE, hiO⟩ := hR
  have HI := Lib.hid (And.intro hr (And.intro hiN (And.intro hiE hiO)))
  clear hr hiN hiE hiO
  have HA := Lib.hid hA
  obtain ⟨A, c, rfl, hc, hrow⟩ := row3 hA.oE
  have hc1 := hA.c1
  have hlt := hA.lt
  have hfr := hA.fr 1
  have HR := Lib.hid hrow
  clear hrow hA hc
  obtain ⟨n, hn⟩ : ∃ n, n = S.E.length := ⟨_, rfl⟩
  rw [← hn] at hc1 hE
  have Hn := Lib.hid hn; clear hn
  obtain ⟨i0, hi, hz0, hz1, hz2⟩ := info_parts Tryz.infoE
  go_enter Tryz.func42, Tryz.ntmps42
  go_wp2
  go_loopw [6, 7] (fun u v wr => ∃ (k : Nat) (T : List Pz.En), k ≤ n ∧ T.length ≤ k ∧ v = .int .i64 k ∧ wr.ownsRow w.heap.size 116 3 u T.length (cE T) ∧ Hid (T = Pz.take (S.E.take k) i s.data.toList) ∧ Below w.heap.size w wr) (fun _ v _ => n - (intOf v).toNat)
  case atStart => exact ⟨0, [], by omega, by simp, rfl, World.ownsRow_nil _ _ _ _, by show [] = Pz.take (S.E.take 0) i _; rfl, Below.refl _ _⟩
  case round =>
    obtain ⟨k, T, hk, hT, rfl, hown, hok, hbw⟩ := hrel
    have hc1' : wr.cell? ⟨r, 1, none⟩ = some (.slice A n c) := (hbw.cell (p := ⟨r, 1, none⟩) hlt).trans hc1
    obtain ⟨A', c', hv, hc', _⟩ := row3 hown
    rw [hv] at hown
    rw [hv]
    by_cases hkn : k < n
    · obtain ⟨e, he⟩ : ∃ e, S.E[k]? = some e := ⟨_, List.getElem?_eq_getElem (by have := Hn.out; omega)⟩
      obtain ⟨b, rfl, _, hb, h0, h1, h2, _⟩ := HR.out k e he
      have hst := Pz.take_step (i := i) (x := s.data.toList) he
      rw [← hok.out] at hst
      have Hst := Lib.hid hst
      obtain ⟨x, hx⟩ : ∃ x : ByteArray, x = ⟨e.name.toArray⟩ := ⟨_, rfl⟩
      rw [← hx] at h1
      have Hx := Lib.hid hx
      have g0 := (hbw.cell (p := ⟨b, k * 3, none⟩) hb).trans h0
      have g1 := (hbw.cell (p := ⟨b, k * 3 + 1, none⟩) hb).trans h1
      have g2 := (hbw.cell (p := ⟨b, k * 3 + 2, none⟩) hb).trans h2
      clear h0 h1 h2 he hst hc1 hx
      have hk1 : (0 : Int) ≤ k := by omega
      have hk2 : (k : Int) < n := by omega
      have hsn : cE T ++ [.int .i64 e.dir, .string x, .int .i64 e.node] = cE (T ++ [e]) := by
        unfold cE
        rw [Pz.three_snoc, Hx.out]
      have Hsn := Lib.hid hsn
      clear hsn
      by_cases hd : e.dir = i
      · subst hd
        go_wp2_with (at_builtin; refine wpList_append_own _ rfl _ _ 42 rfl w.heap.size 116 i0 _ 3 32 Tryz.underlying42 hi hz0 hz1 hz2 rfl (by decide) (.slice A' T.length c') T.length (cE T) rfl (hown.alloc _) ⟨wr.heap.size, 0, none⟩ 1 1 [.int .i64 e.dir, .string x, .int .i64 e.node] rfl rfl (cells_new3 _ _ _ _ _) (by intro u hu; simp at hu; rcases hu with rfl | rfl | rfl <;> rfl) (by unfold maxLen; omega) (by omega) (by have := hbw.size; simp; omega) ?_; intro v' w1 hown' hgrow _)
        · have hne : ¬ (e.dir = e.dir ∧ e.name = s.data.toList) := by
            have h1 : (!x.toList == s.toList) = true := by assumption
            rintro ⟨_, h2⟩
            rw [Hx.out, Lib.toList_data, Lib.toList_data] at h1
            simp [h2] at h1
          have Hne := Lib.hid hne
          clear hne
          rw [Hsn.out, show T.length + 1 = (T ++ [e]).length by simp] at hown'
          have hB1 : Below w.heap.size w w1 := (hbw.alloc hbw.size _).grown hgrow (by have := hbw.size; simp; omega) (fun q hq => (hown.lt q hq).1)
          obtain ⟨A2, c2, hv', _, _⟩ := row3 hown'
          rw [hv'] at hown'
          rw [hv']
          have HO := Lib.hid hown'
          clear hown' hown hv' hv
          go_wp2
          go_roundw
          case rel => exact ⟨k + 1, T ++ [e], by omega, by simp; omega, by go_num, HO.out, by show T ++ [e] = _; rw [Hst.out, if_neg Hne.out], hB1⟩
          case measure => simp [intOf]; omega
        · have hps : e.dir = e.dir ∧ e.name = s.data.toList := by
            have h1 : (!x.toList == s.toList) = false := by assumption
            rw [Hx.out, Lib.toList_data, Lib.toList_data] at h1
            exact ⟨rfl, by simpa using h1⟩
          go_roundw
          case rel => exact ⟨k + 1, T, by omega, by omega, by go_num, hown, by show T = _; rw [Hst.out, if_pos hps]; simp, hbw⟩
          case measure => simp [intOf]; omega
      · have hd1 : ((e.dir : Int) == i) = false := by rw [beq_eq_false_iff_ne]; omega
        have Hne : Hid (¬ (e.dir = i ∧ e.name = s.data.toList)) := Lib.hid fun h => hd h.1
        go_wp2_with (at_builtin; refine wpList_append_own _ rfl _ _ 42 rfl w.heap.size 116 i0 _ 3 32 Tryz.underlying42 hi hz0 hz1 hz2 rfl (by decide) (.slice A' T.length c') T.length (cE T) rfl (hown.alloc _) ⟨wr.heap.size, 0, none⟩ 1 1 [.int .i64 e.dir, .string x, .int .i64 e.node] rfl rfl (cells_new3 _ _ _ _ _) (by intro u hu; simp at hu; rcases hu with rfl | rfl | rfl <;> rfl) (by unfold maxLen; omega) (by omega) (by have := hbw.size; simp; omega) ?_; intro v' w1 hown' hgrow _)
        rw [Hsn.out, show T.length + 1 = (T ++ [e]).length by simp] at hown'
        have hB1 : Below w.heap.size w w1 := (hbw.alloc hbw.size _).grown hgrow (by have := hbw.size; simp; omega) (fun q hq => (hown.lt q hq).1)
        obtain ⟨A2, c2, hv', _, _⟩ := row3 hown'
        rw [hv'] at hown'
        rw [hv']
        have HO := Lib.hid hown'
        clear hown' hown hv' hv
        go_wp2
        go_roundw
        case rel => exact ⟨k + 1, T ++ [e], by omega, by simp; omega, by go_num, HO.out, by show T ++ [e] = _; rw [Hst.out, if_neg Hne.out], hB1⟩
        case measure => simp [intOf]; omega
    · have hk2 : (n : Int) ≤ k := by omega
      have hTE : T = Pz.take S.E i s.data.toList := by rw [hok.out, List.take_of_length_le (by have := Hn.out; omega)]
      have hat : Lies w (.slice A S.E.length c) (.slice A' T.length c') := by
        cases hv : (Value.slice A' T.length c').ownBlock with
        | none => exact Or.inr (Or.inl hv)
        | some q => exact Or.inr (Or.inr ⟨q, (hown.lt q hv).1, hv⟩)
      obtain ⟨hr, hiN, hiE, hiO⟩ := HI.out
      have hR' := HA.out.putE hr hiN hiE hiO (gbut (grown_of hbw)) (row_low hown (Nat.zero_le _)) hat
      have f1' : wr.frozen? ⟨r, 1, none⟩ = false := (hbw.frozen (p := ⟨r, 1, none⟩) hlt).trans hfr
      have HR' := Lib.hid hR'
      clear hR' hown hat hr hiN hiE hiO
      go_wp2
      go_end0
      rw [← hTE]
      exact ⟨rfl, HR'.out⟩

end Go.Proofs.YtbpejjmfdhkfhaaGreatDoor

/- Walks: the document's Drop. -/
namespace Go.Proofs.YtbpejjmfdhkfhaaGreatDoor
open Go.RowKit

set_option maxHeartbeats 4000000 in
set_option maxRecDepth 8192 in
theorem drop_any (r : Nat) (S : Pz.Fil) (cl : Int) (w : World) (F : Nat → Prop) (hE : S.O.length ≤ 1000000) (hR : RefF r S w F) :
    Calls Tryz.prog 20 #[.pointer (some ⟨r, 0, none⟩), .int .i64 cl] w fun e w' => e = .returned (.tuple #[]) ∧ RefF r { S with O := Pz.drop S.O cl } w' (Gr F w) ∧ Only F w w' := by
  obtain ⟨vN, vE, vO, hA, hr, hiN, hiE, hiO⟩ := hR
  have HI := Lib.hid (And.intro hr (And.intro hiN (And.intro hiE hiO)))
  clear hr hiN hiE hiO
  have HA := Lib.hid hA
  obtain ⟨A, c, rfl, hc, hrow⟩ := row3 hA.oO
  have hc1 := hA.c2
  have hlt := hA.lt
  have hfr := hA.fr 2
  have HR := Lib.hid hrow
  clear hrow hA hc
  obtain ⟨n, hn⟩ : ∃ n, n = S.O.length := ⟨_, rfl⟩
  rw [← hn] at hc1 hE
  have Hn := Lib.hid hn; clear hn
  obtain ⟨i0, hi, hz0, hz1, hz2⟩ := info_parts Tryz.infoO
  go_enter Tryz.func20, Tryz.ntmps20
  go_wp2
  go_loopw [4, 5] (fun u v wr => ∃ (k : Nat) (T : List Pz.Op), k ≤ n ∧ T.length ≤ k ∧ v = .int .i64 k ∧ wr.ownsRow w.heap.size 96 3 u T.length (cO T) ∧ Hid (T = Pz.drop (S.O.take k) cl) ∧ Below w.heap.size w wr) (fun _ v _ => n - (intOf v).toNat)
  case atStart => exact ⟨0, [], by omega, by simp, rfl, World.ownsRow_nil _ _ _ _, by show [] = Pz.drop (S.O.take 0) cl; rfl, Below.refl _ _⟩
  case round =>
    obtain ⟨k, T, hk, hT, rfl, hown, hok, hbw⟩ := hrel
    have hc1' : wr.cell? ⟨r, 2, none⟩ = some (.slice A n c) := (hbw.cell (p := ⟨r, 2, none⟩) hlt).trans hc1
    obtain ⟨A', c', hv, hc', _⟩ := row3 hown
    rw [hv] at hown
    rw [hv]
    by_cases hkn : k < n
    · obtain ⟨e, he⟩ : ∃ e, S.O[k]? = some e := ⟨_, List.getElem?_eq_getElem (by have := Hn.out; omega)⟩
      obtain ⟨b, rfl, _, hb, h0, h1, h2, _⟩ := HR.out k e he
      have hst := Pz.drop_step (c := cl) he
      rw [← hok.out] at hst
      have Hst := Lib.hid hst
      have g0 := (hbw.cell (p := ⟨b, k * 3, none⟩) hb).trans h0
      have g1 := (hbw.cell (p := ⟨b, k * 3 + 1, none⟩) hb).trans h1
      have g2 := (hbw.cell (p := ⟨b, k * 3 + 2, none⟩) hb).trans h2
      clear h0 h1 h2 he hst hc1
      have hk1 : (0 : Int) ≤ k := by omega
      have hk2 : (k : Int) < n := by omega
      have hsn : cO T ++ [.int .i64 e.client, .int .i64 e.fd, .int .i64 e.node] = cO (T ++ [e]) := by
        unfold cO
        rw [Pz.three_snoc]
      have Hsn := Lib.hid hsn
      clear hsn
      by_cases hd : e.client = cl
      · have hd1 : (e.client == cl) = true := by rw [beq_iff_eq]; exact hd
        go_wp2
        go_roundw
        case rel => exact ⟨k + 1, T, by omega, by omega, by go_num, hown, by show T = _; rw [Hst.out, if_pos hd]; simp, hbw⟩
        case measure => simp [intOf]; omega
      · have hd1 : (e.client == cl) = false := by rw [beq_eq_false_iff_ne]; exact hd
        have Hne : Hid (¬ e.client = cl) := Lib.hid hd
        go_wp2_with (at_builtin; refine wpList_append_own _ rfl _ _ 43 rfl w.heap.size 96 i0 _ 3 24 Tryz.underlying43 hi hz0 hz1 hz2 rfl (by decide) (.slice A' T.length c') T.length (cO T) rfl (hown.alloc _) ⟨wr.heap.size, 0, none⟩ 1 1 [.int .i64 e.client, .int .i64 e.fd, .int .i64 e.node] rfl rfl (cells_new3 _ _ _ _ _) (by intro u hu; simp at hu; rcases hu with rfl | rfl | rfl <;> rfl) (by unfold maxLen; omega) (by omega) (by have := hbw.size; simp; omega) ?_; intro v' w1 hown' hgrow _)
        rw [Hsn.out, show T.length + 1 = (T ++ [e]).length by simp] at hown'
        have hB1 : Below w.heap.size w w1 := (hbw.alloc hbw.size _).grown hgrow (by have := hbw.size; simp; omega) (fun q hq => (hown.lt q hq).1)
        obtain ⟨A2, c2, hv', _, _⟩ := row3 hown'
        rw [hv'] at hown'
        rw [hv']
        have HO := Lib.hid hown'
        clear hown' hown hv' hv
        go_wp2
        go_roundw
        case rel => exact ⟨k + 1, T ++ [e], by omega, by simp; omega, by go_num, HO.out, by show T ++ [e] = _; rw [Hst.out, if_neg Hne.out], hB1⟩
        case measure => simp [intOf]; omega
    · have hk2 : (n : Int) ≤ k := by omega
      have hTE : T = Pz.drop S.O cl := by rw [hok.out, List.take_of_length_le (by have := Hn.out; omega)]
      have hat : Lies w (.slice A S.O.length c) (.slice A' T.length c') := by
        cases hv : (Value.slice A' T.length c').ownBlock with
        | none => exact Or.inr (Or.inl hv)
        | some q => exact Or.inr (Or.inr ⟨q, (hown.lt q hv).1, hv⟩)
      obtain ⟨hr, hiN, hiE, hiO⟩ := HI.out
      have hR' := HA.out.putO hr hiN hiE hiO (gbut (grown_of hbw)) (row_low hown (Nat.zero_le _)) hat
      have f1' : wr.frozen? ⟨r, 2, none⟩ = false := (hbw.frozen (p := ⟨r, 2, none⟩) hlt).trans hfr
      have HR' := Lib.hid hR'
      clear hR' hown hat hr hiN hiE hiO
      go_wp2
      go_end0
      rw [← hTE]
      exact ⟨rfl, HR'.out⟩

end Go.Proofs.YtbpejjmfdhkfhaaGreatDoor

/- Walks: the document's fails, Sized, New. -/
namespace Go.Proofs.YtbpejjmfdhkfhaaGreatDoor
open Go.RowKit

/-- a reply as a value -/
def replyV (errno fd : Int) (data : ByteArray) (names : Value) (k l s : Int) : Value := .agg #[.int .i64 errno, .int .i64 fd, .string data, names, .int .i64 k, .int .i64 l, .int .i64 s]

theorem Tryz.infoR : (Tryz.prog.info? 36).map (·.size) = some 7 := by kernel_rfl

set_option maxHeartbeats 1000000 in
theorem rfails_any (e0 : Int) (w : World) :
    Calls Tryz.prog 32 #[.int .i64 e0] w fun e w' => e = .returned (replyV e0 0 ⟨#[]⟩ (.slice none 0 0) 0 0 0) ∧ Below w.heap.size w w' := by
  go_enter Tryz.func32, Tryz.ntmps32
  go_wp2
  try simp only [Exit.inBlock, Exit.then]
  refine bodyPost_ret (results_cell_row rfl _ _ w.heap.size _ #[.int .i64 e0, .int .i64 0, .string ⟨#[]⟩, .slice none 0 0, .int .i64 0, .int .i64 0, .int .i64 0] _ _ rfl (heap_alloc_new _ _) Tryz.underlying36 rfl Tryz.infoR) rfl ?_
  exact ⟨rfl, (Below.refl _ _).alloc (Nat.le_refl _) _⟩

theorem snoc_nought {u s : List UInt8} {k : Nat} (h : u = s ++ List.replicate k 0) : u ++ [0] = s ++ List.replicate (k + 1) 0 := by
  rw [h, List.append_assoc, List.replicate_succ']

set_option maxHeartbeats 1000000 in
theorem rsized_any (s : ByteArray) (n : Nat) (w : World) (hs : s.size ≤ 1000000) (hn : n ≤ 1000000) :
    Calls Tryz.prog 62 #[.string s, .int .i64 n] w fun e w' => (∃ u, e = .returned (.string u) ∧ u.data.toList = Pz.sized s.data.toList n) ∧ w = w' := by
  by_cases h : n < s.size
  · have h1 : (n : Int) < s.size := by omega
    have h2 : (0 : Int) ≤ n := by omega
    have h3 : (n : Int) ≤ s.size := by omega
    have hc := Pz.sized_cut (s := s.data.toList) (n := n) (by rw [← Lib.size_eq]; omega)
    have Hc := Lib.hid hc
    clear hc
    go_enter Tryz.func62, Tryz.ntmps62
    go_wp2
    go_ret
    exact ⟨⟨_, rfl, by rw [Hc.out]; exact ba_head s n⟩, rfl⟩
  · have h1 : (s.size : Int) ≤ n := by omega
    go_enter Tryz.func62, Tryz.ntmps62
    go_wp2
    go_loopw [0] (fun v wr => ∃ (u : ByteArray) (k : Nat), v = .string u ∧ u.size = s.size + k ∧ u.size ≤ n ∧ Hid (u.data.toList = s.data.toList ++ List.replicate k 0) ∧ w = wr) (fun v _ => match v with | .string u => n - u.size | _ => 0)
    case atStart => exact ⟨s, 0, rfl, rfl, by omega, by show _ = _; simp, rfl⟩
    case round =>
      obtain ⟨u, k, rfl, hk, hun, hu, rfl⟩ := hrel
      by_cases hlt : u.size < n
      · have h2 : (u.size : Int) < n := by omega
        go_wp2
        go_roundw
        case rel =>
          have h0 : (⟨#[0]⟩ : ByteArray).size = 1 := rfl
          exact ⟨_, k + 1, rfl, by rw [ByteArray.size_append]; omega, by rw [ByteArray.size_append]; omega, by show _ = _; rw [ba_app]; exact snoc_nought hu.out, trivial⟩
        case measure =>
          have h0 : (⟨#[0]⟩ : ByteArray).size = 1 := rfl
          simp only [ByteArray.size_append]
          omega
      · have h2 : (n : Int) ≤ u.size := by omega
        have hlen : Hid (u.data.toList = Pz.sized s.data.toList n) := Lib.hid (by rw [Pz.sized_long (by rw [← Lib.size_eq]; omega), hu.out, ← Lib.size_eq, show n - s.size = k by omega])
        go_wp2
        go_ret
        exact ⟨⟨_, rfl, hlen.out⟩, rfl⟩

def newFS : Pz.Fil := { N := [⟨true, [], 1⟩], E := [], O := [] }

theorem ref_empty (w : World) (t : TypeId) : RefAt (w.alloc (.cells #[.slice none 0 0, .slice none 0 0, .slice none 0 0] t)) 0 w.heap.size (.slice none 0 0) (.slice none 0 0) (.slice none 0 0) { N := [], E := [], O := [] } where
  lo := Nat.zero_le _
  lt := by simp
  c0 := by simp
  c1 := by simp
  c2 := by simp
  fr := fun j => frozen_new _ _ _ _
  oN := World.ownsRow_nil _ _ _ _
  oE := World.ownsRow_nil _ _ _ _
  oO := World.ownsRow_nil _ _ _ _
  aN := by simp [Value.ownBlock]
  aE := by simp [Value.ownBlock]
  aO := by simp [Value.ownBlock]
  nE := Or.inl rfl
  nO := Or.inl rfl
  eO := Or.inl rfl

set_option maxHeartbeats 2000000 in
set_option maxRecDepth 8192 in
theorem rnew_any (w : World) :
    Calls Tryz.prog 15 #[] w fun e w' => e = .returned (.pointer (some ⟨w.heap.size, 0, none⟩)) ∧ RefF w.heap.size newFS w' (fun k => w.heap.size ≤ k) ∧ Below w.heap.size w w' := by
  obtain ⟨i0, hi, hz0, hz1, hz2⟩ := info_parts Tryz.infoN

  go_enter Tryz.func15, Tryz.ntmps15
  go_wp2_with (at_builtin; go_loud (refine wpList_append_own_at _ rfl _ _ 41 rfl 0 79 i0 _ 3 32 Tryz.underlying41 hi hz0 hz1 hz2 rfl (by decide) (.slice none 0 0) 0 [] rfl (World.ownsRow_nil _ _ _ _) ⟨w.heap.size + 1, 0, none⟩ 1 1 [.bool true, .string ByteArray.empty, .int .i64 1] rfl rfl ?_ (by intro u hu; simp at hu; rcases hu with rfl | rfl | rfl <;> rfl) (by unfold maxLen; omega) (by omega) (Nat.zero_le _) ?_))
  · intro j u hu
    have := cells_new3 (w.alloc (.cells #[.slice none 0 0, .slice none 0 0, .slice none 0 0] 45)) (.bool true) (.string ByteArray.empty) (.int .i64 1) 79 j u hu
    rwa [show (w.alloc (.cells #[.slice none 0 0, .slice none 0 0, .slice none 0 0] 45)).heap.size = w.heap.size + 1 by simp] at this
  intro v' w1 hown hgrow _ hat
  have hA0 := (ref_empty w 45).keep ((Below.refl _ _).alloc (Nat.le_refl _) (.cells #[.bool true, .string ⟨#[]⟩, .int .i64 1] 79))
  have hBa := ((Below.refl w.heap.size w).alloc (Nat.le_refl _) (.cells #[.slice none 0 0, .slice none 0 0, .slice none 0 0] 45)).alloc (by simp) (.cells #[.bool true, .string ⟨#[]⟩, .int .i64 1] 79)
  obtain ⟨A', c', rfl, _, _⟩ := row3 (L := [(⟨true, [], 1⟩ : Pz.Nd)]) (f := fun x => .bool x.dir) (g := fun x => .string ⟨x.data.toArray⟩) (h := fun x => .int .i64 x.links) hown
  obtain ⟨hR', hb'⟩ := hA0.putN (F := fun k => w.heap.size ≤ k) (L := [(⟨true, [], 1⟩ : Pz.Nd)]) (Nat.le_refl _) (by intro k hk; cases hk) (by intro k hk; cases hk) (by intro k hk; cases hk) hgrow hown (lies_at (by simpa using hat))
  have hre : some w.heap.size ≠ (Value.slice none 0 0).ownBlock := by simp [Value.ownBlock]
  have c1' := (gcell (j := 0) hgrow hA0.lt hre).trans hA0.c0
  have f1' := (gfrozen (j := 0) hgrow hA0.lt hre).trans (hA0.fr 0)
  have hB2 := hBa.trans (hb'.below (B := w.heap.size) (by simp; omega) (fun k hk => by omega))
  have hR2 := (RefF.held _ _).mono (G := fun k => w.heap.size ≤ k) hR' fun k _ e => e.elim id fun e => by simp at e; omega
  have HR' := Lib.hid hR2
  clear hR' hA0 hown hb' hat hBa hR2
  go_wp2
  go_ret
  exact ⟨rfl, HR'.out, hB2⟩

end Go.Proofs.YtbpejjmfdhkfhaaGreatDoor

/- The document's file system in memory: a node's bytes, or its links, laid anew. -/
namespace Go.Proofs.YtbpejjmfdhkfhaaGreatDoor
open Go.RowKit

/-- the nodes' row is written over, in its place -/
theorem RefAt.upN {w w1 : World} {r : Nat} {vN vE vO : Value} {S : Pz.Fil} {L : List Pz.Nd} (h : RefAt w 0 r vN vE vO S) (hg : w.grownBy w1 vN.ownBlock) (hown : w1.ownsRow 0 79 3 vN L.length (cN L)) :
    RefAt w1 0 r vN vE vO { S with N := L } := by
  have hre : some r ≠ vN.ownBlock := fun e => h.aN e.symm
  exact { h with
    lt := Nat.lt_of_lt_of_le h.lt hg.size
    c0 := (gcell (j := 0) hg h.lt hre).trans h.c0
    c1 := (gcell (j := 1) hg h.lt hre).trans h.c1
    c2 := (gcell (j := 2) hg h.lt hre).trans h.c2
    fr := fun j => (gfrozen (j := j) hg h.lt hre).trans (h.fr j)
    oN := hown
    oE := h.oE.kept hg (apart_swap h.nE)
    oO := h.oO.kept hg (apart_swap h.nO) }

/-- where a node lies, and what comes of a store into it -/
theorem RefF.node {w : World} {r n : Nat} {S : Pz.Fil} {F : Nat → Prop} {x : Pz.Nd} (h : RefF r S w F) (hn : S.N[n]? = some x) :
    ∃ b c, w.cell? ⟨r, 0, none⟩ = some (.slice (some ⟨b, 0, none⟩) S.N.length c) ∧ r < w.heap.size ∧ F r ∧ F b ∧ b < w.heap.size ∧ w.cell? ⟨b, n * 3, none⟩ = some (.bool x.dir) ∧ w.cell? ⟨b, n * 3 + 1, none⟩ = some (.string ⟨x.data.toArray⟩) ∧ w.cell? ⟨b, n * 3 + 2, none⟩ = some (.int .i64 x.links) ∧ (∀ j, w.frozen? ⟨b, j, none⟩ = false) ∧
      (∀ d : List UInt8, RefF r { S with N := S.N.set n { x with data := d } } (w.setCell ⟨b, n * 3 + 1, none⟩ (.string ⟨d.toArray⟩)) F ∧ Only F w (w.setCell ⟨b, n * 3 + 1, none⟩ (.string ⟨d.toArray⟩))) ∧
      (∀ l : Int, RefF r { S with N := S.N.set n { x with links := l } } (w.setCell ⟨b, n * 3 + 2, none⟩ (.int .i64 l)) F ∧ Only F w (w.setCell ⟨b, n * 3 + 2, none⟩ (.int .i64 l))) := by
  obtain ⟨vN, vE, vO, h, hr, hiN, hiE, hiO⟩ := h
  obtain ⟨A, c, hv, hc, hrow⟩ := row3 h.oN
  obtain ⟨b, hb, h1, h2, h3, h4, h5, h6⟩ := hrow n x hn
  subst hb
  subst hv
  have hFb : F b := hiN b rfl
  refine ⟨b, c, h.c0, h.lt, hr, hFb, h2, h3, h4, h5, h6, fun d => ?_, fun l => ?_⟩
  · obtain ⟨ho, hg⟩ := h.oN.stored (n * 3 + 1) (.string ⟨d.toArray⟩)
    have e := Pz.three_set1 (fun x : Pz.Nd => Value.bool x.dir) (fun x => Value.string ⟨x.data.toArray⟩) (fun x => Value.int .i64 x.links) S.N n x { x with data := d } hn rfl rfl
    have ho2 : (w.setCell ⟨b, n * 3 + 1, none⟩ (.string ⟨d.toArray⟩)).ownsRow 0 79 3 (.slice (some ⟨b, 0, none⟩) S.N.length c) (S.N.set n { x with data := d }).length (cN (S.N.set n { x with data := d })) := by
      rw [List.length_set]
      unfold cN at ho ⊢
      rw [← e]; exact ho
    exact ⟨⟨_, _, _, h.upN hg ho2, hr, hiN, hiE, hiO⟩, only_setCell _ _ _ hFb⟩
  · obtain ⟨ho, hg⟩ := h.oN.stored (n * 3 + 2) (.int .i64 l)
    have e := Pz.three_set2 (fun x : Pz.Nd => Value.bool x.dir) (fun x => Value.string ⟨x.data.toArray⟩) (fun x => Value.int .i64 x.links) S.N n x { x with links := l } hn rfl rfl
    have ho2 : (w.setCell ⟨b, n * 3 + 2, none⟩ (.int .i64 l)).ownsRow 0 79 3 (.slice (some ⟨b, 0, none⟩) S.N.length c) (S.N.set n { x with links := l }).length (cN (S.N.set n { x with links := l })) := by
      rw [List.length_set]
      unfold cN at ho ⊢
      rw [← e]; exact ho
    exact ⟨⟨_, _, _, h.upN hg ho2, hr, hiN, hiE, hiO⟩, only_setCell _ _ _ hFb⟩

end Go.Proofs.YtbpejjmfdhkfhaaGreatDoor

/- A reply in a cell: what a call that answers by one holds, and how it ends. -/
namespace Go.Proofs.YtbpejjmfdhkfhaaGreatDoor
open Go.RowKit

/-- a call as a value -/
def callV (kind : Int) (p p2 : ByteArray) (flags fd off n : Int) (data : ByteArray) : Value := .agg #[.int .i64 kind, .string p, .string p2, .int .i64 flags, .int .i64 fd, .int .i64 off, .int .i64 n, .string data]
/-- an answer as a value -/
def repV (q : Pz.Rep) (A : Option Addr) (c : Nat) : Value := .agg #[.int .i64 q.errno, .int .i64 q.fd, .string ⟨q.data.toArray⟩, .slice A q.names.length c, .int .i64 q.kind, .int .i64 q.links, .int .i64 q.size]

theorem set7_0 {w : World} {g t : Nat} {a0 a1 a2 a3 a4 a5 a6 : Value} (v : Value) (h : w.heap[g]? = some (.cells #[a0, a1, a2, a3, a4, a5, a6] t (0, 0))) : (w.setCell ⟨g, 0, none⟩ v).heap[g]? = some (.cells #[v, a1, a2, a3, a4, a5, a6] t (0, 0)) := heap_setCell_same w g 0 _ t v h
theorem set7_1 {w : World} {g t : Nat} {a0 a1 a2 a3 a4 a5 a6 : Value} (v : Value) (h : w.heap[g]? = some (.cells #[a0, a1, a2, a3, a4, a5, a6] t (0, 0))) : (w.setCell ⟨g, 1, none⟩ v).heap[g]? = some (.cells #[a0, v, a2, a3, a4, a5, a6] t (0, 0)) := heap_setCell_same w g 1 _ t v h
theorem set7_2 {w : World} {g t : Nat} {a0 a1 a2 a3 a4 a5 a6 : Value} (v : Value) (h : w.heap[g]? = some (.cells #[a0, a1, a2, a3, a4, a5, a6] t (0, 0))) : (w.setCell ⟨g, 2, none⟩ v).heap[g]? = some (.cells #[a0, a1, v, a3, a4, a5, a6] t (0, 0)) := heap_setCell_same w g 2 _ t v h
theorem set7_3 {w : World} {g t : Nat} {a0 a1 a2 a3 a4 a5 a6 : Value} (v : Value) (h : w.heap[g]? = some (.cells #[a0, a1, a2, a3, a4, a5, a6] t (0, 0))) : (w.setCell ⟨g, 3, none⟩ v).heap[g]? = some (.cells #[a0, a1, a2, v, a4, a5, a6] t (0, 0)) := heap_setCell_same w g 3 _ t v h
theorem set7_4 {w : World} {g t : Nat} {a0 a1 a2 a3 a4 a5 a6 : Value} (v : Value) (h : w.heap[g]? = some (.cells #[a0, a1, a2, a3, a4, a5, a6] t (0, 0))) : (w.setCell ⟨g, 4, none⟩ v).heap[g]? = some (.cells #[a0, a1, a2, a3, v, a5, a6] t (0, 0)) := heap_setCell_same w g 4 _ t v h
theorem set7_5 {w : World} {g t : Nat} {a0 a1 a2 a3 a4 a5 a6 : Value} (v : Value) (h : w.heap[g]? = some (.cells #[a0, a1, a2, a3, a4, a5, a6] t (0, 0))) : (w.setCell ⟨g, 5, none⟩ v).heap[g]? = some (.cells #[a0, a1, a2, a3, a4, v, a6] t (0, 0)) := heap_setCell_same w g 5 _ t v h
theorem set7_6 {w : World} {g t : Nat} {a0 a1 a2 a3 a4 a5 a6 : Value} (v : Value) (h : w.heap[g]? = some (.cells #[a0, a1, a2, a3, a4, a5, a6] t (0, 0))) : (w.setCell ⟨g, 6, none⟩ v).heap[g]? = some (.cells #[a0, a1, a2, a3, a4, a5, v] t (0, 0)) := heap_setCell_same w g 6 _ t v h
/-- a reply's seven cells, each laid anew -/
theorem row7 {w : World} {g t : Nat} {a0 a1 a2 a3 a4 a5 a6 : Value} (h : w.heap[g]? = some (.cells #[a0, a1, a2, a3, a4, a5, a6] t (0, 0))) (v0 v1 v2 v3 v4 v5 v6 : Value) :
    (((((((w.setCell ⟨g, 0, none⟩ v0).setCell ⟨g, 1, none⟩ v1).setCell ⟨g, 2, none⟩ v2).setCell ⟨g, 3, none⟩ v3).setCell ⟨g, 4, none⟩ v4).setCell ⟨g, 5, none⟩ v5).setCell ⟨g, 6, none⟩ v6).heap[g]? = some (.cells #[v0, v1, v2, v3, v4, v5, v6] t (0, 0)) := (set7_6 v6 (set7_5 v5 (set7_4 v4 (set7_3 v3 (set7_2 v2 (set7_1 v1 (set7_0 v0 h)))))))
theorem cells7 {w : World} {g t : Nat} {a0 a1 a2 a3 a4 a5 a6 : Value} (h : w.heap[g]? = some (.cells #[a0, a1, a2, a3, a4, a5, a6] t (0, 0))) : w.cell? ⟨g, 0, none⟩ = some a0 ∧ w.cell? ⟨g, 1, none⟩ = some a1 ∧ w.cell? ⟨g, 2, none⟩ = some a2 ∧ w.cell? ⟨g, 3, none⟩ = some a3 ∧ w.cell? ⟨g, 4, none⟩ = some a4 ∧ w.cell? ⟨g, 5, none⟩ = some a5 ∧ w.cell? ⟨g, 6, none⟩ = some a6 ∧ ∀ j, w.frozen? ⟨g, j, none⟩ = false :=
  ⟨cell_of_row w g 0 _ t _ h, cell_of_row w g 1 _ t _ h, cell_of_row w g 2 _ t _ h, cell_of_row w g 3 _ t _ h, cell_of_row w g 4 _ t _ h, cell_of_row w g 5 _ t _ h, cell_of_row w g 6 _ t _ h, fun j => frozen_of_row w g j _ t h⟩


theorem only7 (w : World) (g : Nat) (v0 v1 v2 v3 v4 v5 v6 : Value) : Only (fun k => k = g) w (((((((w.setCell ⟨g, 0, none⟩ v0).setCell ⟨g, 1, none⟩ v1).setCell ⟨g, 2, none⟩ v2).setCell ⟨g, 3, none⟩ v3).setCell ⟨g, 4, none⟩ v4).setCell ⟨g, 5, none⟩ v5).setCell ⟨g, 6, none⟩ v6) := by
  have s := fun (W : World) (j : Nat) (v : Value) => only_setCell W ⟨g, j, none⟩ v (F := fun k => k = g) rfl
  exact ((((((s w 0 v0).trans (s _ 1 v1) fun _ _ e => e).trans (s _ 2 v2) fun _ _ e => e).trans (s _ 3 v3) fun _ _ e => e).trans (s _ 4 v4) fun _ _ e => e).trans (s _ 5 v5) fun _ _ e => e).trans (s _ 6 v6) fun _ _ e => e

theorem Strs.only {w w' : World} {B : Nat} {A : Option Addr} {L : List (List UInt8)} {G : Nat → Prop} (h : Strs w B A L) (ho : Only G w w') (hG : ∀ k, B ≤ k → k < w.heap.size → ¬ G k) : Strs w' B A L := by
  rcases h with h | ⟨b, o, h1, h2, h3, h4, h5⟩
  · exact Or.inl h
  · refine Or.inr ⟨b, o, h1, h2, Nat.lt_of_lt_of_le h3 ho.size, fun j x hx => ?_, fun j => ?_⟩
    · exact (ho.cell (p := ⟨b, o + j, none⟩) h3 (hG b h2 h3)).trans (h4 j x hx)
    · exact (ho.frozen (p := ⟨b, j, none⟩) h3 (hG b h2 h3)).trans (h5 j)

/-- a call comes to this: the file system, and the answer -/
def Does (I : Pz.Fil → World → (Nat → Prop) → Prop) (out : Pz.Fil × Pz.Rep) (w : World) (F : Nat → Prop) (e : Ending) (w' : World) : Prop :=
  ∃ A c, e = .returned (repV out.2 A c) ∧ Strs w' w.heap.size A out.2.names ∧ I out.1 w' (Gr F w) ∧ Only F w w'

def zero7 : Array Value := #[.int .i64 0, .int .i64 0, .string ⟨#[]⟩, .slice none 0 0, .int .i64 0, .int .i64 0, .int .i64 0]
/-- what a call holds that laid its own call and its own reply, in this order -/
structure Fx (I : World → (Nat → Prop) → Prop) (F : Nat → Prop) (w0 : World) (C : Array Value) (w : World) : Prop where
  st : St I F w0 2 w
  box : w.heap[w0.heap.size]? = some (.cells C 24 (0, 0))
  res : w.heap[w0.heap.size + 1]? = some (.cells #[.int .i64 0, .int .i64 0, .string ⟨#[]⟩, .slice none 0 0, .int .i64 0, .int .i64 0, .int .i64 0] 36 (0, 0))

theorem Fx.start {I : World → (Nat → Prop) → Prop} (hH : Held I) {F : Nat → Prop} {w : World} (h : I w F) (C : Array Value) :
    Fx I F w C ((w.alloc (.cells C 24)).alloc (.cells #[.int .i64 0, .int .i64 0, .string ⟨#[]⟩, .slice none 0 0, .int .i64 0, .int .i64 0, .int .i64 0] 36)) where
  st := St.start hH h (((Below.refl w.heap.size w).alloc (Nat.le_refl _) _).alloc (by simp) _) (by simp)
  box := by
    rw [Below.heap_alloc _ _ _ (by simp)]
    exact heap_alloc_new _ _
  res := heap_alloc2_new _ _ _
theorem Fx.read {I : World → (Nat → Prop) → Prop} (hH : Held I) {F : Nat → Prop} {w0 w w' : World} {C : Array Value} (h : Fx I F w0 C w) (hb : Below w.heap.size w w') : Fx I F w0 C w' where
  st := h.st.read hH hb
  box := (hb.block _ (by have := h.st.size; omega)).trans h.box
  res := (hb.block _ (by have := h.st.size; omega)).trans h.res
theorem Fx.write {I J : World → (Nat → Prop) → Prop} (hJ : Held J) {F : Nat → Prop} {w0 w w' : World} {C : Array Value} (h : Fx I F w0 C w) (hi : J w' (Gr (Ft F w0 2) w)) (ho : Only (Ft F w0 2) w w') : Fx J F w0 C w' where
  st := h.st.write hJ hi ho
  box := (h.st.own ho (Nat.le_refl _) (by omega)).trans h.box
  res := (h.st.own ho (by omega) (by omega)).trans h.res
/-- a store into the thing's own blocks -/
theorem Fx.put {I J : World → (Nat → Prop) → Prop} (hJ : Held J) {F : Nat → Prop} {w0 w w' : World} {C : Array Value} (h : Fx I F w0 C w) (hi : J w' (Ft F w0 2)) (ho : Only (Ft F w0 2) w w') : Fx J F w0 C w' :=
  h.write hJ (hJ.mono hi fun _ _ e => Or.inl e) ho
theorem Fx.inv {I : World → (Nat → Prop) → Prop} {F : Nat → Prop} {w0 w : World} {C : Array Value} (h : Fx I F w0 C w) : I w (Ft F w0 2) := h.st.inv
theorem Fx.c8 {I : World → (Nat → Prop) → Prop} {F : Nat → Prop} {w0 w : World} {a0 a1 a2 a3 a4 a5 a6 a7 : Value} (h : Fx I F w0 #[a0, a1, a2, a3, a4, a5, a6, a7] w) :
    w.cell? ⟨w0.heap.size, 0, none⟩ = some a0 ∧ w.cell? ⟨w0.heap.size, 1, none⟩ = some a1 ∧ w.cell? ⟨w0.heap.size, 2, none⟩ = some a2 ∧ w.cell? ⟨w0.heap.size, 3, none⟩ = some a3 ∧ w.cell? ⟨w0.heap.size, 4, none⟩ = some a4 ∧ w.cell? ⟨w0.heap.size, 5, none⟩ = some a5 ∧ w.cell? ⟨w0.heap.size, 6, none⟩ = some a6 ∧ w.cell? ⟨w0.heap.size, 7, none⟩ = some a7 :=
  ⟨cell_of_row w _ 0 _ _ _ h.box, cell_of_row w _ 1 _ _ _ h.box, cell_of_row w _ 2 _ _ _ h.box, cell_of_row w _ 3 _ _ _ h.box, cell_of_row w _ 4 _ _ _ h.box, cell_of_row w _ 5 _ _ _ h.box, cell_of_row w _ 6 _ _ _ h.box, cell_of_row w _ 7 _ _ _ h.box⟩
/-- the end: the reply's cells are laid -/
theorem Fx.done {I : Pz.Fil → World → (Nat → Prop) → Prop} (hH : ∀ S, Held (I S)) {S : Pz.Fil} {F : Nat → Prop} {w0 w : World} {C : Array Value} (h : Fx (I S) F w0 C w) (q : Pz.Rep) (A : Option Addr) (c : Nat) (hS : Strs w (w0.heap.size + 2) A q.names) (v0 v1 v2 v3 v4 v5 v6 : Value) :
    Does I (S, q) w0 F (.returned (repV q A c)) (((((((w.setCell ⟨w0.heap.size + 1, 0, none⟩ v0).setCell ⟨w0.heap.size + 1, 1, none⟩ v1).setCell ⟨w0.heap.size + 1, 2, none⟩ v2).setCell ⟨w0.heap.size + 1, 3, none⟩ v3).setCell ⟨w0.heap.size + 1, 4, none⟩ v4).setCell ⟨w0.heap.size + 1, 5, none⟩ v5).setCell ⟨w0.heap.size + 1, 6, none⟩ v6) := by
  have ho := only7 w (w0.heap.size + 1) v0 v1 v2 v3 v4 v5 v6
  obtain ⟨h1, h2⟩ := h.st.fin (hH S) (ho.mono fun k _ e => by omega)
  exact ⟨A, c, rfl, (hS.only ho fun k hk _ => by omega).low (by omega), h1, h2⟩
/-- the end where nothing was laid into the reply -/
theorem Fx.void {I : Pz.Fil → World → (Nat → Prop) → Prop} (hH : ∀ S, Held (I S)) {S : Pz.Fil} {F : Nat → Prop} {w0 w : World} {C : Array Value} (h : Fx (I S) F w0 C w) (q : Pz.Rep) (A : Option Addr) (c : Nat) (hS : Strs w w0.heap.size A q.names) : Does I (S, q) w0 F (.returned (repV q A c)) w := by
  obtain ⟨h1, h2⟩ := h.st.fin (hH S) (Only.refl _ _)
  exact ⟨A, c, rfl, hS, h1, h2⟩

end Go.Proofs.YtbpejjmfdhkfhaaGreatDoor

/- Walks: the document's rmdir. -/
namespace Go.Proofs.YtbpejjmfdhkfhaaGreatDoor
open Go.RowKit

theorem ne_of_err {v : Int} (h : v = 10 ∨ v = 12 ∨ v = 15) : (v != 0) = true ∧ (v == 0) = false ∧ ¬ v = 0 := by
  rcases h with rfl | rfl | rfl <;> decide
theorem path_ne {p : ByteArray} (h : ¬ p.data.toList = [47]) : (p.toList == [47]) = false := by rw [beq_eq_false_iff_ne, Lib.toList_data]; exact h

/-- a node's cells, for a walk -/
theorem RefF.dirAt {w : World} {r n : Nat} {S : Pz.Fil} {F : Nat → Prop} (h : RefF r S w F) (hn : n < S.N.length) :
    ∃ b c, w.cell? ⟨r, 0, none⟩ = some (.slice (some ⟨b, 0, none⟩) S.N.length c) ∧ w.cell? ⟨b, n * 3, none⟩ = some (.bool (Pz.isDir S.N n)) ∧ w.cell? ⟨b, n * 3 + 1, none⟩ = some (.string ⟨(Pz.nodeD S.N n).data.toArray⟩) ∧ w.cell? ⟨b, n * 3 + 2, none⟩ = some (.int .i64 (Pz.nodeD S.N n).links) := by
  obtain ⟨x, hx⟩ : ∃ x, S.N[n]? = some x := ⟨_, List.getElem?_eq_getElem hn⟩
  obtain ⟨b, c, h1, _, _, _, _, h2, h3, h4, _⟩ := h.node hx
  refine ⟨b, c, h1, ?_, ?_, ?_⟩
  · unfold Pz.isDir; rw [hx]; exact h2
  · unfold Pz.nodeD; rw [hx]; exact h3
  · unfold Pz.nodeD; rw [hx]; exact h4

/-- a node's cells, and what comes of a store into them -/
theorem RefF.nodeAt {w : World} {r n : Nat} {S : Pz.Fil} {F : Nat → Prop} (h : RefF r S w F) (hn : n < S.N.length) :
    ∃ b c, w.cell? ⟨r, 0, none⟩ = some (.slice (some ⟨b, 0, none⟩) S.N.length c) ∧ w.cell? ⟨b, n * 3, none⟩ = some (.bool (Pz.isDir S.N n)) ∧ w.cell? ⟨b, n * 3 + 1, none⟩ = some (.string ⟨(Pz.nodeD S.N n).data.toArray⟩) ∧ w.cell? ⟨b, n * 3 + 2, none⟩ = some (.int .i64 (Pz.nodeD S.N n).links) ∧
      w.frozen? ⟨b, n * 3 + 1, none⟩ = false ∧ w.frozen? ⟨b, n * 3 + 2, none⟩ = false ∧
      (∀ d : List UInt8, RefF r { S with N := S.N.set n { Pz.nodeD S.N n with data := d } } (w.setCell ⟨b, n * 3 + 1, none⟩ (.string ⟨d.toArray⟩)) F ∧ Only F w (w.setCell ⟨b, n * 3 + 1, none⟩ (.string ⟨d.toArray⟩))) ∧
      (∀ l : Int, RefF r { S with N := S.N.set n { Pz.nodeD S.N n with links := l } } (w.setCell ⟨b, n * 3 + 2, none⟩ (.int .i64 l)) F ∧ Only F w (w.setCell ⟨b, n * 3 + 2, none⟩ (.int .i64 l))) := by
  obtain ⟨x, hx⟩ : ∃ x, S.N[n]? = some x := ⟨_, List.getElem?_eq_getElem hn⟩
  obtain ⟨b, c, h1, _, _, _, _, h2, h3, h4, h5, h6, h7⟩ := h.node hx
  have e : Pz.nodeD S.N n = x := by unfold Pz.nodeD; rw [hx]
  rw [e]
  refine ⟨b, c, h1, ?_, h3, h4, h5 _, h5 _, h6, h7⟩
  unfold Pz.isDir; rw [hx]; exact h2

set_option maxHeartbeats 4000000 in
set_option maxRecDepth 8192 in
theorem rrmdir_any (r : Nat) (S : Pz.Fil) (kind flags fd off n : Int) (p p2 data : ByteArray) (w : World) (F : Nat → Prop) (hp : p.size ≤ 100000) (hG : Pz.Good 1000 S) (hR : RefF r S w F) :
    Calls Tryz.prog 40 #[.pointer (some ⟨r, 0, none⟩), callV kind p p2 flags fd off n data] w (Does (RefF r) (Pz.rmdirR S p.data.toList) w F) := by
  have HFail := Lib.hid rfails_any
  have hE := hG.e
  have hN := hG.n
  have h1 := fun W G (hR : RefF r S W G) => find_any 0 r S p W hp (by omega) (by omega) hG.ok hR.is
  have FX := Lib.hid (Fx.start (RefF.held r S) hR #[.int .i64 kind, .string p, .string p2, .int .i64 flags, .int .i64 fd, .int .i64 off, .int .i64 n, .string data])
  unfold callV
  by_cases h47 : p.data.toList = [47]
  · rw [Pz.rmdirR, if_pos h47]
    obtain rfl : p = ⟨#[47]⟩ := ba_ext h47
    clear h1 hR hG h47 hp hE hN
    go_enter Tryz.func40, Tryz.ntmps40
    go_wp2_with fail
    refine (HFail.out 15 _).mono ?_
    rintro e wf ⟨rfl, hbf⟩
    have FXF := Lib.hid (FX.out.read ((RefF.held r) _) hbf)
    unfold replyV
    have fxe := FXF.out
    obtain ⟨c0, c1, c2, c3, c4, c5, c6, hf7⟩ := cells7 fxe.res
    have f0 := hf7 0
    have f1 := hf7 1
    have f2 := hf7 2
    have f3 := hf7 3
    have f4 := hf7 4
    have f5 := hf7 5
    have f6 := hf7 6
    have HG := Lib.hid fxe
    clear hf7 fxe
    go_wp2
    try simp only [Exit.inBlock, Exit.then]
    refine bodyPost_ret (results_cell_row rfl _ _ (w.heap.size + 1) _ _ _ _ rfl (row7 HG.out.res _ _ _ _ _ _ _) Tryz.underlying36 rfl Tryz.infoR) rfl ?_
    exact HG.out.done (RefF.held r) (Pz.er 15) none 0 (Or.inl rfl) _ _ _ _ _ _ _
  · rw [Pz.rmdirR, if_neg h47]
    have hp47 := path_ne h47
    cases hf : Pz.find S p.data.toList with
    | error v =>
      obtain ⟨hv1, hv2, hv3⟩ := ne_of_err (Pz.find_err hf)
      rw [hf] at h1
      simp only [toT] at h1
      have HF := Lib.hid h1
      clear h1 hR hG h47 hf hE hN
      show Calls _ _ _ _ (Does (RefF r) (S, Pz.er v) w F)
      go_enter Tryz.func40, Tryz.ntmps40
      go_wp2_with fail
      refine (HF.out _ _ FX.out.inv).mono ?_
      rintro e w1 ⟨rfl, hb1⟩
      have FX1 := Lib.hid (FX.out.read (RefF.held _ _) hb1)
      go_wp2_with fail
      refine (HFail.out v _).mono ?_
      rintro e wf ⟨rfl, hbf⟩
      have FXF := Lib.hid (FX1.out.read ((RefF.held r) _) hbf)
      unfold replyV
      have fxe := FXF.out
      obtain ⟨c0, c1, c2, c3, c4, c5, c6, hf7⟩ := cells7 fxe.res
      have f0 := hf7 0
      have f1 := hf7 1
      have f2 := hf7 2
      have f3 := hf7 3
      have f4 := hf7 4
      have f5 := hf7 5
      have f6 := hf7 6
      have HG := Lib.hid fxe
      clear hf7 fxe
      go_wp2
      try simp only [Exit.inBlock, Exit.then]
      refine bodyPost_ret (results_cell_row rfl _ _ (w.heap.size + 1) _ _ _ _ rfl (row7 HG.out.res _ _ _ _ _ _ _) Tryz.underlying36 rfl Tryz.infoR) rfl ?_
      exact HG.out.done (RefF.held r) (Pz.er v) none 0 (Or.inl rfl) _ _ _ _ _ _ _
    | ok m =>
      obtain ⟨d, x, hpl, hlk, hdd⟩ := Pz.place_of_find hf h47
      have hm := Pz.find_lt hG.ok hf
      rw [hf] at h1
      simp only [toT] at h1
      have HF := Lib.hid h1
      have HD := Lib.hid fun W G (h : RefF r S W G) => h.dirAt hm
      have HC := Lib.hid fun W G (h : RefF r S W G) => count_any 0 r S m W (by omega) h.is
      have h2 := fun W G (h : RefF r S W G) => place_any 0 r S p W hp (by omega) (by omega) hG.ok h.is
      rw [hpl] at h2
      simp only [toP] at h2
      have HP := Lib.hid h2
      have HT := Lib.hid fun W G (h : RefF r S W G) => take_any r S d ⟨x.toArray⟩ W G (by omega) h
      simp only [hpl]
      obtain ⟨q, hq⟩ : ∃ q, q = S.N.length := ⟨_, rfl⟩
      obtain ⟨D, hD⟩ : ∃ D, D = Pz.isDir S.N m := ⟨_, rfl⟩
      obtain ⟨C, hC⟩ : ∃ C, C = Pz.count S.E m := ⟨_, rfl⟩
      rw [← hq, ← hD] at HD
      rw [← hC] at HC
      rw [← hq] at hm
      rw [← hD, ← hC]
      have hm1 : (0 : Int) ≤ m := by omega
      have hm2 : (m : Int) < q := by omega
      clear h1 h2 hR hG h47 hf hE hN hpl hlk hdd hq hD hC
      cases D with
      | false =>
        show Calls _ _ _ _ (Does (RefF r) (S, Pz.er 12) w F)
        go_enter Tryz.func40, Tryz.ntmps40
        go_wp2_with fail
        refine (HF.out _ _ FX.out.inv).mono ?_
        rintro e w1 ⟨rfl, hb1⟩
        have FX1 := Lib.hid (FX.out.read (RefF.held _ _) hb1)
        obtain ⟨b, c, g, g0, _, _⟩ := HD.out _ _ FX1.out.inv
        go_wp2_with fail
        refine (HFail.out 12 _).mono ?_
        rintro e wf ⟨rfl, hbf⟩
        have FXF := Lib.hid (FX1.out.read ((RefF.held r) _) hbf)
        unfold replyV
        have fxe := FXF.out
        obtain ⟨c0, c1, c2, c3, c4, c5, c6, hf7⟩ := cells7 fxe.res
        have f0 := hf7 0
        have f1 := hf7 1
        have f2 := hf7 2
        have f3 := hf7 3
        have f4 := hf7 4
        have f5 := hf7 5
        have f6 := hf7 6
        have HG := Lib.hid fxe
        clear hf7 fxe
        go_wp2
        try simp only [Exit.inBlock, Exit.then]
        refine bodyPost_ret (results_cell_row rfl _ _ (w.heap.size + 1) _ _ _ _ rfl (row7 HG.out.res _ _ _ _ _ _ _) Tryz.underlying36 rfl Tryz.infoR) rfl ?_
        exact HG.out.done (RefF.held r) (Pz.er 12) none 0 (Or.inl rfl) _ _ _ _ _ _ _
      | true =>
        by_cases hC : 0 < C
        · rw [if_pos rfl, if_pos hC]
          have hC2 : (0 : Int) < C := by omega
          go_enter Tryz.func40, Tryz.ntmps40
          go_wp2_with fail
          refine (HF.out _ _ FX.out.inv).mono ?_
          rintro e w1 ⟨rfl, hb1⟩
          have FX1 := Lib.hid (FX.out.read (RefF.held _ _) hb1)
          obtain ⟨b, c, g, g0, _, _⟩ := HD.out _ _ FX1.out.inv
          go_wp2_with fail
          refine (HC.out _ _ FX1.out.inv).mono ?_
          rintro e w2 ⟨rfl, hb2⟩
          have FX2 := Lib.hid (FX1.out.read (RefF.held _ _) hb2)
          clear g g0
          go_wp2_with fail
          refine (HFail.out 14 _).mono ?_
          rintro e wf ⟨rfl, hbf⟩
          have FXF := Lib.hid (FX2.out.read ((RefF.held r) _) hbf)
          unfold replyV
          have fxe := FXF.out
          obtain ⟨c0, c1, c2, c3, c4, c5, c6, hf7⟩ := cells7 fxe.res
          have f0 := hf7 0
          have f1 := hf7 1
          have f2 := hf7 2
          have f3 := hf7 3
          have f4 := hf7 4
          have f5 := hf7 5
          have f6 := hf7 6
          have HG := Lib.hid fxe
          clear hf7 fxe
          go_wp2
          try simp only [Exit.inBlock, Exit.then]
          refine bodyPost_ret (results_cell_row rfl _ _ (w.heap.size + 1) _ _ _ _ rfl (row7 HG.out.res _ _ _ _ _ _ _) Tryz.underlying36 rfl Tryz.infoR) rfl ?_
          exact HG.out.done (RefF.held r) (Pz.er 14) none 0 (Or.inl rfl) _ _ _ _ _ _ _
        · rw [if_pos rfl, if_neg hC]
          have hC2 : (C : Int) ≤ 0 := by omega
          have hC3 : ¬ (0 : Int) < C := by omega
          go_enter Tryz.func40, Tryz.ntmps40
          go_wp2_with fail
          refine (HF.out _ _ FX.out.inv).mono ?_
          rintro e w1 ⟨rfl, hb1⟩
          have FX1 := Lib.hid (FX.out.read (RefF.held _ _) hb1)
          obtain ⟨b, c, g, g0, _, _⟩ := HD.out _ _ FX1.out.inv
          go_wp2_with fail
          refine (HC.out _ _ FX1.out.inv).mono ?_
          rintro e w2 ⟨rfl, hb2⟩
          have FX2 := Lib.hid (FX1.out.read (RefF.held _ _) hb2)
          clear g g0
          obtain ⟨b0, b1, b2, b3, b4, b5, b6, b7⟩ := FX2.out.c8
          go_wp2_with fail
          refine (HP.out _ _ FX2.out.inv).mono ?_
          rintro e w3 ⟨rfl, hb3⟩
          have FX3 := Lib.hid (FX2.out.read (RefF.held _ _) hb3)
          clear b0 b1 b2 b3 b4 b5 b6 b7
          go_wp2_with fail
          refine (HT.out _ _ FX3.out.inv).mono ?_
          rintro e w4 ⟨rfl, hi4, ho4⟩
          have FX4 := Lib.hid (FX3.out.write (RefF.held _ _) hi4 ho4)
          clear hi4 ho4
          have fxe := FX4.out
          obtain ⟨c0, c1, c2, c3, c4, c5, c6, hf7⟩ := cells7 fxe.res
          have f0 := hf7 0
          have f1 := hf7 1
          have f2 := hf7 2
          have f3 := hf7 3
          have f4 := hf7 4
          have f5 := hf7 5
          have f6 := hf7 6
          have HG := Lib.hid fxe
          clear hf7 fxe
          go_wp2
          try simp only [Exit.inBlock, Exit.then]
          refine bodyPost_ret (results_cell_row rfl _ _ (w.heap.size + 1) _ _ _ _ rfl (row7 HG.out.res _ _ _ _ _ _ _) Tryz.underlying36 rfl Tryz.infoR) rfl ?_
          exact HG.out.done (RefF.held r) (Pz.er 0) none 0 (Or.inl rfl) _ _ _ _ _ _ _

end Go.Proofs.YtbpejjmfdhkfhaaGreatDoor
