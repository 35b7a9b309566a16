/- Noughts behind bytes that the call owns. -/
import Derived.Test.YtccpdkjonepoiaaGreatDoorW00
import Derived.Lib.AppendZerosOnto
import Derived.Lib.AppendStr
import Derived.Test.YtccpdkjonepoiaaGreatDoorW04
import Derived.Test.YtccpdkjonepoiaaGreatDoorW01
set_option linter.unusedVariables false
set_option linter.unusedSimpArgs false
set_option linter.unusedSectionVars false
namespace Go.Proofs.YtccpdkjonepoiaaGreatDoor
open Go.RowKit Go.Lib

theorem zeros_cells (k : Nat) : (Builtin.zeroCells (Value.int .u8 0).cells k).toList = Lib.byteCells (List.replicate k 0) := by
  have hz : (Value.int IntKind.u8 0).cells = #[Value.int .u8 0] := rfl
  rw [hz]
  unfold Builtin.zeroCells Lib.byteCells
  rw [Array.toList_map, Array.toList_range]
  apply List.ext_getElem?
  intro j
  rw [List.getElem?_map, List.getElem?_map]
  by_cases h : j < k
  · rw [List.getElem?_range (by simpa using h), List.getElem?_replicate, if_pos h]
    simp [Nat.mod_one]
  · rw [List.getElem?_eq_none (by simpa using h), List.getElem?_eq_none (by simpa using h)]
    rfl
theorem zeros_one (k : Nat) : ∀ u ∈ Lib.byteCells (List.replicate k 0), u.oneCell' = true := by
  intro u hu
  simp only [Lib.byteCells, List.mem_map] at hu
  obtain ⟨b, _, rfl⟩ := hu
  rfl
theorem byteCells_len' (L : List UInt8) : (Lib.byteCells L).length = L.length := by
  unfold Lib.byteCells
  rw [List.length_map]

section
variable {P : Program} (w : World)
theorem run_append_room_zeros (t tn ty e : TypeId) (i : TypeInfo) (kq kn : IntKind) (ht : P.underlying t = some (.slice e)) (htn : P.underlying tn = some (.int kn)) (hi : P.info? e = some i) (hz : i.zero = some (.int .u8 0)) (hs1 : i.size = 1) (hby : i.bytes = 1)
    (g sLen sCap : Nat) (cur : Array Value) (hg : w.heap[g]? = some (.cells cur e (0, 0))) (k : Nat) (h0 : 0 < k) (hk : k ≤ 1000000)
    (hroom : sLen + k ≤ sCap) (hfit : sLen + k ≤ cur.size) :
    (Builtin.append_ #[t, tn] ty #[.slice (some ⟨g, 0, none⟩) sLen sCap, .int kq k]).run P w =
      .ok (.slice (some ⟨g, 0, none⟩) (sLen + k) sCap) (w.setRow g (cur.toList.take sLen ++ Lib.byteCells (List.replicate k 0) ++ cur.toList.drop (sLen + k)).toArray) := by
  have hw : IntKind.i64.wrap (k : Int) = k := by rw [IntKind.wrap_i64]; omega
  have h48i : ¬ (281474976710656 < (k : Int)) := by omega
  have hneg : ¬ ((k : Int) < 0) := by omega
  have hk0 : k ≠ 0 := by omega
  have hst := run_storeCells_at P g sLen e (Lib.byteCells (List.replicate k 0)) 0 cur w hg (by simpa [byteCells_len'] using hfit) (zeros_one k)
  simp only [Nat.add_zero, byteCells_len', List.length_replicate] at hst
  have hzc := zeros_cells k
  simp [Builtin.append_, run_underlying ht, run_underlying htn, sizeOf, typeInfo, zeroValue, hi, hz, hs1, hby, asInt, asIntOf, hw, hroom, hneg, hk0, h48i, Addr.add_lit, hst, hzc]

/-- noughts behind bytes that the call owns -/
theorem run_append_own_zeros (base : Nat) (t tn ty e : TypeId) (i : TypeInfo) (kq kn : IntKind) (ht : P.underlying t = some (.slice e)) (htn : P.underlying tn = some (.int kn)) (hi : P.info? e = some i) (hz : i.zero = some (.int .u8 0)) (hsize : i.size = 1) (hby : i.bytes = 1)
    (v : Value) (n : Nat) (xs : List Value) (hown : w.ownsRow base e 1 v n xs) (k : Nat) (hk : n + k ≤ 1000000) (hbase : base ≤ w.heap.size) :
    ∃ v' w', (Builtin.append_ #[t, tn] ty #[v, .int kq k]).run P w = .ok v' w' ∧ w'.ownsRow base e 1 v' (n + k) (xs ++ Lib.byteCells (List.replicate k 0)) ∧ w.grownBy w' v.ownBlock := by
  have hxl : xs.length = n := by simpa using hown.1
  have hbl : (Lib.byteCells (List.replicate k 0)).length = k := by rw [byteCells_len', List.length_replicate]
  have hlen : (xs ++ Lib.byteCells (List.replicate k 0)).length = (n + k) * 1 := by rw [List.length_append, hxl, hbl, Nat.mul_one]
  by_cases h0 : k = 0
  · subst h0
    refine ⟨v, w, ?_, by simpa [Lib.byteCells] using hown, ⟨rfl, rfl, rfl, Nat.le_refl _, fun _ _ _ => rfl⟩⟩
    have hw0 : IntKind.i64.wrap 0 = 0 := by rw [IntKind.wrap_i64]; omega
    rcases hown.2 with ⟨rfl, rfl⟩ | ⟨g, cap, cur, rfl, hbg, hg, hnc, hcm, hcs, htake⟩
    · simp [Builtin.append_, run_underlying ht, run_underlying htn, sizeOf, typeInfo, hi, hsize, hby, asInt, asIntOf, hw0]
    · simp [Builtin.append_, run_underlying ht, run_underlying htn, sizeOf, typeInfo, hi, hsize, hby, asInt, asIntOf, hw0, hnc, storeCells]
  have grown : ∀ (old : Nat), old < n + k → ∀ (row : Option Nat),
      (w.drew.alloc (.cells (xs.toArray ++ Builtin.zeroCells (Value.int .u8 0).cells k ++ Builtin.zeroCells (Value.int .u8 0).cells (grownCap w (n + k) old e - (n + k))) e)).ownsRow base e 1
        (.slice (some ⟨w.heap.size, 0, none⟩) (n + k) (grownCap w (n + k) old e)) (n + k) (xs ++ Lib.byteCells (List.replicate k 0)) ∧
      w.grownBy (w.drew.alloc (.cells (xs.toArray ++ Builtin.zeroCells (Value.int .u8 0).cells k ++ Builtin.zeroCells (Value.int .u8 0).cells (grownCap w (n + k) old e - (n + k))) e)) row := by
    intro old ho row
    have hge := grownCap_ge w (n + k) old e
    have hcm : grownCap w (n + k) old e ≤ maxLen := grownCap_le_maxLen w (n + k) old e (by unfold maxLen; omega)
    refine ⟨⟨hlen, .inr ⟨w.heap.size, _, _, rfl, hbase, heap_alloc_new w.drew _, hge, hcm, ?_, ?_⟩⟩, ⟨rfl, rfl, rfl, by simp, fun j hj _ => Below.heap_alloc w.drew _ j hj⟩⟩
    · have hz1 : (Value.int IntKind.u8 0).cells.size = 1 := rfl
      simp only [Array.size_append, List.size_toArray, size_zeroCells, hz1, hxl]
      omega
    · simp only [Array.toList_append, zeros_cells, List.append_assoc]
      rw [← List.append_assoc, ← hlen]
      exact List.take_left
  rcases hown.2 with ⟨rfl, rfl⟩ | ⟨g, cap, cur, rfl, hbg, hg, hnc, hcm, hcs, htake⟩
  · have hx : xs = [] := List.eq_nil_of_length_eq_zero hxl
    subst hx
    have hr := run_append_nil_zeros (P := P) w t tn ty e i (.int .u8 0) kq kn ht htn hi hz k (by omega) (by omega) (by omega) (by rw [hby]; omega)
    have hgr := grown 0 (by omega) (Value.ownBlock (.slice none 0 0))
    simp only [Nat.zero_add, List.nil_append, Array.empty_append] at hgr ⊢
    exact ⟨_, _, hr, hgr.1, hgr.2⟩
  · by_cases hroom : n + k ≤ cap
    · have hcs' : cur.size = cap := by simpa using hcs
      have hr := run_append_room_zeros (P := P) w t tn ty e i kq kn ht htn hi hz hsize hby g n cap cur hg k (by omega) (by omega) hroom (by omega)
      refine ⟨_, _, hr, ⟨hlen, .inr ⟨g, cap, _, rfl, hbg, setRow_heap w g cur _ e _ hg, hroom, hcm, ?_, ?_⟩⟩, ⟨rfl, rfl, rfl, by simp, fun j _ hj => setRow_other w g j _ (fun e => hj (by simp [Value.ownBlock, e]))⟩⟩
      · simp only [List.size_toArray, List.length_append, List.length_take, List.length_drop, Array.length_toList, hbl]
        omega
      · have ht' : cur.toList.take n = xs := by simpa using htake
        rw [ht', ← hlen]
        exact List.take_left
    · have holds : ∀ j u, xs[j]? = some u → w.drew.cell? ((⟨g, 0, none⟩ : Addr).add j) = some u := hown.cells (g := g) rfl
      have hf := run_firstCells_some (P := P) w.drew i.size n ⟨g, 0, none⟩ n cap xs (by rw [hsize]; simpa using hxl) holds
      have hr := run_append_grow_zeros (P := P) w t tn ty e i (.int .u8 0) kq kn ht htn hi hz (some ⟨g, 0, none⟩) n cap xs hf k (by omega) (by omega) (by omega) (by omega) (by rw [hby]; omega) (by rw [hby]; exact growslice_fits (by omega) (by omega))
      have hgr := grown cap (by omega) (Value.ownBlock (.slice (some ⟨g, 0, none⟩) n cap))
      exact ⟨_, _, hr, hgr.1, hgr.2⟩
end

theorem Tryz.intU : Tryz.prog.underlying 3 = some (.int .i64) := Tryz.underlying3
/-- the operation -/
theorem app_zeros {ops : Array Oper} {rest : List Oper} {o : Oper} {a : Act} {Q : Exit → Act → World → Prop} (hgd : o.guard = none) (s x : Operand) (ho : o.op = .call { callee := .builtin .append, args := #[s, x], argTypes := #[22, 3] })
    (B : Nat) (v : Value) (L : List UInt8) (w0 : World) (hs : a.eval s = v) (hown : OwnB w0 B v L) (k : Nat) (ck : Int) (hx : a.eval x = .int .i64 ck) (hck : ck = k) (hlen : L.length + k ≤ 1000000) (hB : B ≤ w0.heap.size)
    (h : ∀ v' w', OwnB w' B v' (L ++ List.replicate k 0) → Below B w0 w' → wpList Tryz.prog ops Q rest (a.put o.dst v') w') : wpList Tryz.prog ops Q (o :: rest) a w0 := by
  subst hck
  obtain ⟨i0, hi, hz0, hz1, hz2⟩ := info_parts Tryz.infoU8
  have hb := own_block hown
  obtain ⟨v', w', hr, h1, h2⟩ := run_append_own_zeros (P := Tryz.prog) w0 B 22 3 o.type 5 i0 .i64 .i64 Tryz.underlying22 Tryz.intU hi hz0 hz1 hz2 v L.length (Lib.byteCells L) hown k hlen hB
  refine wpList_append_run w0 hgd s x _ _ ho v _ hs hx v' w' hr (h v' w' ?_ (below_grown h2 hB fun k hk => (hb k hk).1))
  unfold OwnB
  rw [List.length_append, List.length_replicate, ← byteCells_app]
  exact h1

end Go.Proofs.YtccpdkjonepoiaaGreatDoor

/- Walk: plog.Encode. -/
namespace Go.Proofs.YtccpdkjonepoiaaGreatDoor
open Go.RowKit Go.Shelf

attribute [local go_sem] Oper.semAt_some

theorem putn_any (v : Value) (L : List UInt8) (n k : Nat) (hk : Gd.wid k) (hn : n < 256 ^ k) (hn2 : n ≤ 9223372036854775807) (w : World) (h : BytesAt w v L) (hl : L.length ≤ 900000) : Calls Tryz.prog 130 #[v, .int .i64 n, .int .i64 k] w (GivesB w (L ++ Gd.le n k)) := by
  have := put_any v L n k hk (nat_I64 hn2) w h hl
  unfold Gd.put at this
  rw [if_pos (by unfold Gd.fitsB; rw [decide_eq_true (show (0 : Int) ≤ n by omega), Bool.true_and, decide_eq_true (show (n : Int) < ((256 ^ k : Nat) : Int) by omega), Bool.or_true]), Int.toNat_natCast] at this
  exact this
theorem strCells_bytes (L : List UInt8) : Lib.strCells ⟨L.toArray⟩ = Lib.byteCells L := rfl
theorem app_str {ops : Array Oper} {rest : List Oper} {o : Oper} {a : Act} {Q : Exit → Act → World → Prop} (hgd : o.guard = none) (s x : Operand) (ho : o.op = .call { callee := .builtin .append, args := #[s, x], argTypes := #[22, 9] })
    (B : Nat) (v : Value) (L : List UInt8) (w0 : World) (hs : a.eval s = v) (hown : OwnB w0 B v L) (M : List UInt8) (sM : ByteArray) (hsM : sM = ⟨M.toArray⟩) (hx : a.eval x = .string sM) (hlen : L.length + M.length ≤ 1000000) (hB : B ≤ w0.heap.size)
    (h : ∀ v' w', OwnB w' B v' (L ++ M) → Below B w0 w' → wpList Tryz.prog ops Q rest (a.put o.dst v') w') : wpList Tryz.prog ops Q (o :: rest) a w0 := by
  obtain ⟨i0, hi, hz0, hz1, hz2⟩ := info_parts Tryz.infoU8
  have hb := own_block hown
  subst hsM
  have hsz : (⟨M.toArray⟩ : ByteArray).size = M.length := rfl
  refine Lib.wpList_append_own_string w0 hgd s x _ _ ho B 5 i0 Tryz.underlying22 Tryz.underlying9 hi hz0 hz1 hz2 v L.length (Lib.byteCells L) hs hown ⟨M.toArray⟩ hx (by rw [hsz]; unfold maxLen; omega) (by rw [hsz]; omega) hB ?_
  intro v' w' h1 h2 _
  refine h v' w' ?_ (below_grown h2 hB fun k hk => (hb k hk).1)
  unfold OwnB
  rw [hsz, strCells_bytes] at h1
  rw [List.length_append, ← byteCells_app]
  exact h1
/-- a row of changes -/
def PasAt (w : World) (v : Value) (P : List Gd.Pa) : Prop := ∃ A c, v = .slice A P.length c ∧ ((A = none ∧ P = []) ∨ ∃ b, A = some ⟨b, 0, none⟩ ∧ b < w.heap.size ∧ ∀ (k : Nat) (p : Gd.Pa), P[k]? = some p → w.cell? ⟨b, k * 2, none⟩ = some (.int .i64 p.1) ∧ w.cell? ⟨b, k * 2 + 1, none⟩ = some (.string ⟨p.2.toArray⟩))
theorem pas_step {P : List Gd.Pa} {i : Nat} {p : Gd.Pa} (h : P[i]? = some p) : Gd.pasB (P.take (i + 1)) = Gd.pasB (P.take i) ++ Gd.le p.1 4 ++ Gd.le p.2.length 2 ++ p.2 := by
  rw [Gd.take_next h, Gd.pasB_snoc]
  unfold Gd.paB
  simp only [List.append_assoc]
theorem pas_len : ∀ {P : List Gd.Pa} (_ : ∀ p ∈ P, Gd.PaMay p), (Gd.pasB P).length ≤ P.length * 262
  | [], _ => Nat.le_refl _
  | p :: r, h => by
    have h1 := pas_len (P := r) fun q hq => h q (List.mem_cons_of_mem _ hq)
    have h2 := (h p (List.mem_cons_self ..)).2
    show (Gd.paB p ++ Gd.pasB r).length ≤ _
    rw [List.length_append, Gd.paB_length, List.length_cons]
    omega

set_option maxHeartbeats 8000000 in
set_option maxRecDepth 100000 in
theorem encode_any (v : Value) (P : List Gd.Pa) (w : World) (h : PasAt w v P) (hP : ∀ p ∈ P, Gd.PaMay p) (hn : P.length ≤ 64) :
    Calls Tryz.prog 128 #[v] w (Loads w (Gd.recB P)) := by
  obtain ⟨A, c, rfl, hrow⟩ := h
  have HR := Lib.hid hrow
  have HP := Lib.hid hP
  obtain ⟨n, hnn⟩ : ∃ n, n = P.length := ⟨_, rfl⟩
  have HPl := Lib.hid (pas_len hP)
  rw [← hnn] at hn ⊢
  have Hn := Lib.hid hnn
  have HPt := Lib.hid (putn_any (.slice none 0 0) [] n 2 (Or.inr (Or.inl rfl)) (by omega) (by omega) w (OwnB.at_ (B := 0) (World.ownsRow_nil _ _ _ _)) (by simp))
  have HPl2 : Hid (∀ i, (Gd.pasB (P.take i)).length ≤ 64 * 262) := Lib.hid fun i => by
    have h1 := pas_len (P := P.take i) fun q hq => hP q (List.mem_of_mem_take hq)
    rw [List.length_take] at h1
    have : min i P.length ≤ 64 := by omega
    have := Nat.mul_le_mul_right 262 this
    omega
  clear hrow hP hnn
  go_enter Tryz.func128, Tryz.ntmps128
  go_wp2_with fail
  refine HPt.out.mono ?_
  rintro e w1 ⟨v1, rfl, ho1, hb1⟩
  rw [List.nil_append] at ho1
  have HO1 := Lib.hid ho1
  have HB1 := Lib.hid hb1
  clear ho1 hb1 HPt
  go_upto_region 5 with fail
  go_loopw [4, 15] (fun u z wr => ∃ i : Nat, z = .int .i64 i ∧ i ≤ n ∧ Hid (OwnB wr w.heap.size u (Gd.le n 2 ++ Gd.pasB (P.take i))) ∧ Hid (Below w.heap.size w wr)) (fun _ z _ => n - (intOf z).toNat)
  case atStart => exact ⟨0, rfl, by omega, Lib.hid (by rw [List.take_zero]; show OwnB _ _ _ (Gd.le n 2 ++ []); rw [List.append_nil]; exact HO1.out), HB1⟩
  case round =>
    obtain ⟨i, rfl, hin, HO, HB⟩ := hrel
    by_cases hlt : i < n
    · obtain ⟨p, hp⟩ : ∃ p, P[i]? = some p := ⟨_, List.getElem?_eq_getElem (by have := Hn.out; omega)⟩
      rcases HR.out with ⟨_, h0⟩ | ⟨b, rfl, hbl, hcell⟩
      · rw [h0] at hp; simp at hp
      obtain ⟨q0, q1⟩ := hcell i p hp
      have r0 := (HB.out.cell (p := ⟨b, i * 2, none⟩) hbl).trans q0
      have r1 := (HB.out.cell (p := ⟨b, i * 2 + 1, none⟩) hbl).trans q1
      have h1 : (i : Int) < n := by omega
      have h0 : (0 : Int) ≤ i := by omega
      have HX := Lib.hid hp
      have Hpm := Lib.hid (HP.out p (List.mem_of_getElem? hp))
      clear hp hcell q0 q1 hlt
      go_upto_region 7 with fail
      obtain ⟨q, hq⟩ : ∃ q, q = p.1 := ⟨_, rfl⟩
      obtain ⟨s, hs⟩ : ∃ s : ByteArray, s = ⟨p.2.toArray⟩ := ⟨_, rfl⟩
      obtain ⟨l, hl⟩ : ∃ l, l = p.2.length := ⟨_, rfl⟩
      have hsz : s.size = l := by rw [hs, hl]; rfl
      rw [← hq, ← hs]
      obtain ⟨wz, hwz⟩ : ∃ u, u = wr.alloc (.cells #[.int .i64 q, .string s] 122) := ⟨_, rfl⟩
      rw [← hwz]
      have hbz : Below wr.heap.size wr wz := by rw [hwz]; exact (Below.refl _ _).alloc (Nat.le_refl _) _
      have hz : wz.heap[wr.heap.size]? = some (.cells #[.int .i64 q, .string s] 122 (0, 0)) := by rw [hwz]; exact heap_alloc_new _ _
      obtain ⟨zb, hzb⟩ : ∃ zb, zb = wr.heap.size := ⟨_, rfl⟩
      rw [← hzb] at hz ⊢
      have HZ := Lib.hid hz
      have z0 := cell_of_row wz zb 0 _ _ _ hz
      have z1 := cell_of_row wz zb 1 _ _ _ hz
      have HBz : Hid (Below w.heap.size w wz) := Lib.hid (HB.out.trans (hbz.mono HB.out.size))
      have HOz := Lib.hid (HO.out.keep hbz)
      have HQ := Lib.hid (And.intro hq (And.intro hs hl))
      have hl2 : (l : Int) ≤ 256 := by have := Hpm.out.2; omega
      have HLn : Hid ((Gd.le n 2 ++ Gd.pasB (P.take i)).length ≤ 17000) := Lib.hid (by rw [List.length_append, Gd.le_length]; have := HPl2.out i; omega)
      have HFit : Hid (Calls Tryz.prog 161 #[.int .i64 q, .int .i64 (4 : Nat)] wz fun e w' => e = .returned (.bool true) ∧ w' = wz) := Lib.hid (by
        have hp1 := Hpm.out.1
        have := fits_any (q : Int) 4 (Or.inr (Or.inr (Or.inl rfl))) (nat_I64 (by omega)) wz
        rw [show Gd.fitsB (q : Int) 4 = true by unfold Gd.fitsB; simp; omega] at this
        exact this)
      have HP1 := Lib.hid (putn_any u4 _ q 4 (Or.inr (Or.inr (Or.inl rfl))) (by have := Hpm.out.1; omega) (by have := Hpm.out.1; omega) wz HOz.out.at_ (by have := HLn.out; omega))
      clear hwz hbz hz r0 r1 hq hs hl hzb
      go_wp2_with fail
      refine HFit.out.mono ?_
      rintro e w3 ⟨rfl, rfl⟩
      clear HFit
      go_wp2_with fail
      refine HP1.out.mono ?_
      rintro e w4 ⟨v4, rfl, ho4, hb4⟩
      have HO4 := Lib.hid (ho4.mono HBz.out.size)
      have HB4 := Lib.hid (HBz.out.trans (hb4.mono HBz.out.size))
      have HZ4 := Lib.hid ((hb4.block zb (lt_get HZ.out)).trans HZ.out)
      clear ho4 hb4 HP1 z0 z1
      have z0 := cell_of_row w4 zb 0 _ _ _ HZ4.out
      have z1 := cell_of_row w4 zb 1 _ _ _ HZ4.out
      have HP2 := Lib.hid (putn_any v4 _ l 2 (Or.inr (Or.inl rfl)) (by omega) (by omega) w4 HO4.out.at_ (by rw [List.length_append, Gd.le_length]; have := HLn.out; omega))
      go_wp2_with fail
      refine HP2.out.mono ?_
      rintro e w5 ⟨v5, rfl, ho5, hb5⟩
      have HO5 := Lib.hid (ho5.mono HB4.out.size)
      have HB5 := Lib.hid (HB4.out.trans (hb5.mono HB4.out.size))
      have HZ5 := Lib.hid ((hb5.block zb (lt_get HZ4.out)).trans HZ4.out)
      clear ho5 hb5 HP2 z0 z1
      have z0 := cell_of_row w5 zb 0 _ _ _ HZ5.out
      have z1 := cell_of_row w5 zb 1 _ _ _ HZ5.out
      go_wp2_with (at_builtin; refine app_str rfl _ _ rfl w.heap.size v5 _ w5 rfl HO5.out p.2 s HQ.out.2.1 rfl (by rw [List.length_append, List.length_append, Gd.le_length, Gd.le_length]; have := HLn.out; have := Hpm.out.2; omega) HB5.out.size ?_; intro v6 w6 ho6 hb6)
      have HO6 : Hid (OwnB w6 w.heap.size v6 (Gd.le n 2 ++ Gd.pasB (P.take (i + 1)))) := Lib.hid (by
        rw [pas_step HX.out]
        simp only [← List.append_assoc]
        rw [← HQ.out.1, ← HQ.out.2.2]
        exact ho6)
      have HB6 := Lib.hid (HB5.out.trans hb6)
      clear ho6 hb6 z0 z1
      go_wp2
      go_roundw
      case rel => exact ⟨i + 1, by go_num, by omega, HO6, HB6⟩
      case measure => simp [intOf]; omega
    · obtain rfl : i = n := by omega
      clear hlt
      go_upto_region 13 with fail
      have HOb : Hid (OwnB wr w.heap.size u4 (Gd.recBody P)) := Lib.hid (by
        have := HO.out
        rw [List.take_of_length_le (by have := Hn.out; omega), Hn.out] at this
        exact this)
      obtain ⟨R, hR⟩ : ∃ R, R = Gd.recBody P := ⟨_, rfl⟩
      rw [← hR] at HOb
      have HLn : Hid (R.length ≤ 17000) := Lib.hid (by
        rw [hR, Gd.recBody_length]
        unfold Gd.wt
        have h1 := HPl.out
        have h2 := Hn.out
        have h3 : P.length * 262 ≤ 64 * 262 := Nat.mul_le_mul_right 262 (by omega)
        omega)
      have HE : Hid (Gd.recB P = R ++ Gd.le (Gd.crc R) 4 ++ List.replicate (Gd.up8 (R.length + 4) - (R.length + 4)) 0) := Lib.hid (by rw [hR]; rfl)
      have hcl := Gd.crc_lt R
      have HCr := Lib.hid (crc_any u4 R wr HOb.out.at_ (by have := HLn.out; omega))
      obtain ⟨cc, hcc⟩ : ∃ cc, cc = Gd.crc R := ⟨_, rfl⟩
      rw [← hcc] at HCr HE hcl
      clear hR hcc HO
      have hc2 : (cc : Int) < 4294967296 := by omega
      go_wp2_with fail
      refine HCr.out.mono ?_
      rintro e w3 ⟨rfl, hb3⟩
      have HB3 := Lib.hid (HB.out.trans (hb3.mono HB.out.size))
      have HO3 := Lib.hid (HOb.out.keep hb3)
      have HP3 := Lib.hid (putn_any u4 R cc 4 (Or.inr (Or.inr (Or.inl rfl))) (by omega) (by omega) w3 HO3.out.at_ (by have := HLn.out; omega))
      clear hb3 HCr HOb
      go_wp2_with fail
      refine HP3.out.mono ?_
      rintro e w4 ⟨v4, rfl, ho4, hb4⟩
      have HO4 := Lib.hid (ho4.mono HB3.out.size)
      have HB4 := Lib.hid (HB3.out.trans (hb4.mono HB3.out.size))
      clear ho4 hb4 HP3 HO3
      obtain ⟨A4, c4, rfl, ht4⟩ := HO4.out.at_
      have hl4 : (R ++ Gd.le cc 4).length = R.length + 4 := by rw [List.length_append, Gd.le_length]
      obtain ⟨r, hr⟩ : ∃ r, r = (R ++ Gd.le cc 4).length := ⟨_, rfl⟩
      rw [← hr] at hl4 HO4 ⊢
      have hr2 : r ≤ 17004 := by have := HLn.out; omega
      obtain ⟨u, hu8⟩ : ∃ u, u = Gd.up8 r := ⟨_, rfl⟩
      have hu := Gd.up8_ge r
      have HUp := Lib.hid (up_any r (by omega) w4)
      rw [← hu8] at hu HUp
      obtain ⟨hu1, hu2, -⟩ := hu
      have HRr := Lib.hid hr
      have HE2 : Hid (Gd.recB P = R ++ Gd.le cc 4 ++ List.replicate (u - r) 0) := Lib.hid (by rw [HE.out, ← hl4, ← hu8])
      clear ht4 hl4 hu8 hr HE
      go_wp2_with fail
      refine HUp.out.mono ?_
      rintro e w5 ⟨rfl, rfl⟩
      clear HUp
      have f1 : (r : Int) ≤ u := by omega
      have f2 : (u : Int) < r + 8 := by omega
      go_wp2_with (at_builtin; refine app_zeros rfl _ _ rfl w.heap.size (.slice A4 r c4) _ w5 rfl HO4.out (u - r) _ rfl (by omega) (by have := HRr.out; omega) HB4.out.size ?_; intro v6 w6 ho6 hb6)
      have HO6 := Lib.hid ho6
      have HB6 := Lib.hid (HB4.out.trans hb6)
      clear ho6 hb6
      go_wp2
      go_ret2
      refine ⟨v6, rfl, ?_, HB6.out⟩
      rw [HE2.out]
      exact HO6.out

end Go.Proofs.YtccpdkjonepoiaaGreatDoor

/- A log's record, read piece by piece. -/
namespace Go.Proofs.YtccpdkjonepoiaaGreatDoor
namespace Gd
theorem dec_many {P : List Pa} (h : P.length ≤ 64) : getN (recB P) 0 2 = P.length := by
  have e : recB P = [] ++ (le P.length 2 ++ (pasB P ++ (le (crc (recBody P)) 4 ++ pad8 ((recBody P).length + 4)))) := by
    unfold recB recBody
    simp only [List.append_assoc, List.nil_append]
  rw [e]
  exact getN_mid [] _ P.length 2 (by omega)
theorem dec_at {P : List Pa} {k : Nat} {p : Pa} (h : P[k]? = some p) (hp : PaMay p) :
    getN (recB P) (paOff P k) 4 = p.1 ∧ getN (recB P) (paOff P k + 4) 2 = p.2.length ∧ part (recB P) (paOff P k + 4 + 2) p.2.length = p.2 ∧ paOff P k + 4 + 2 + p.2.length ≤ (recB P).length := by
  obtain ⟨A, C, e, hA⟩ := recB_split h
  have hp1 := hp.1
  have hp2 := hp.2
  have h4 : (A ++ le p.1 4).length = paOff P k + 4 := by rw [List.length_append, le_length, hA]
  have h6 : (A ++ le p.1 4 ++ le p.2.length 2).length = paOff P k + 4 + 2 := by rw [List.length_append, h4, le_length]
  refine ⟨?_, ?_, ?_, ?_⟩
  · rw [e, ← hA]
    exact getN_mid A _ p.1 4 (by omega)
  · rw [e, ← h4, ← List.append_assoc]
    exact getN_mid _ _ p.2.length 2 (by omega)
  · rw [e, ← h6, ← List.append_assoc, ← List.append_assoc]
    exact part_mid _ p.2 C
  · rw [e, List.length_append, List.length_append, List.length_append, List.length_append, le_length, le_length, hA]
    omega
theorem dec_end (P : List Pa) : getN (recB P) (recBody P).length 4 = crc (recBody P) ∧ part (recB P) 0 (recBody P).length = recBody P ∧ (recB P).length = up8 ((recBody P).length + 4) ∧ ∀ j, (recBody P).length + 4 ≤ j → j < (recB P).length → (recB P)[j]? = some 0 := by
  have e : recB P = recBody P ++ (le (crc (recBody P)) 4 ++ pad8 ((recBody P).length + 4)) := by
    unfold recB
    rw [List.append_assoc]
  have hl : (recB P).length = up8 ((recBody P).length + 4) := by
    rw [recB_length, recBody_length]
    congr 1
    omega
  refine ⟨?_, ?_, hl, fun j h1 h2 => ?_⟩
  · rw [e]
    exact getN_mid _ _ _ 4 (by have := crc_lt (recBody P); omega)
  · rw [e]
    exact part_mid [] (recBody P) _
  · have h3 := hl ▸ h2
    rw [e, List.getElem?_append_right (by omega), List.getElem?_append_right (by rw [le_length]; omega), le_length]
    unfold pad8
    rw [List.getElem?_replicate, if_pos (by omega)]
end Gd
end Go.Proofs.YtccpdkjonepoiaaGreatDoor

/- Walk: plog.Decode's next number. -/
namespace Go.Proofs.YtccpdkjonepoiaaGreatDoor
open Go.RowKit Go.Shelf

attribute [local go_sem] Oper.semAt_some

/-- what Decode holds beside its bytes: three boxes: the bytes, where, whether they ended -/
structure DecSt (w0 : World) (v : Value) (at_ : Nat) (w : World) : Prop where
  below : Below w0.heap.size w0 w
  c1 : CellsAt w w0.heap.size 22 #[v]
  c2 : CellsAt w (w0.heap.size + 1) 3 #[.int .i64 at_]
  c3 : CellsAt w (w0.heap.size + 1 + 1) 4 #[.bool false]
theorem DecSt.read {w0 w w' : World} {v : Value} {at_ : Nat} (h : DecSt w0 v at_ w) (hb : Below w.heap.size w w') : DecSt w0 v at_ w' :=
  ⟨h.below.trans (hb.mono h.below.size), (hb.block _ h.c1.lt).trans h.c1, (hb.block _ h.c2.lt).trans h.c2, (hb.block _ h.c3.lt).trans h.c3⟩
def Dec2 (w0 : World) (k : Nat) : Prop := k = w0.heap.size + 1 ∨ k = w0.heap.size + 1 + 1

set_option maxHeartbeats 4000000 in
set_option maxRecDepth 100000 in
theorem next_any {w0 : World} {v : Value} {at_ : Nat} (L : List UInt8) (hv : BytesAt w0 v L) (k : Nat) (hk : Gd.wid k) (w : World) (h : DecSt w0 v at_ w) (hl : L.length ≤ 1000000) (hat : at_ + k ≤ L.length) (hg : Gd.getN L at_ k < 9223372036854775808) :
    Calls Tryz.prog 159 #[.int .i64 k, .pointer (some ⟨w0.heap.size, 0, none⟩), .pointer (some ⟨w0.heap.size + 1, 0, none⟩), .pointer (some ⟨w0.heap.size + 1 + 1, 0, none⟩)] w fun e w' => e = .returned (.int .i64 (Gd.getN L at_ k)) ∧ DecSt w0 v (at_ + k) w' ∧ Only (Dec2 w0) w w' := by
  have hvw := hv.keep h.below
  have HGt := Lib.hid (get_any v L at_ k hk (nat_I64 (by omega)) w hvw hl)
  have hgb : Gd.getB L at_ k = true := by
    unfold Gd.getB
    simp
    refine ⟨by omega, hg⟩
  have hge : Gd.get L at_ k = (Gd.getN L at_ k : Int) := by
    unfold Gd.get
    rw [if_pos hgb, Int.toNat_natCast]
  rw [hge, hgb] at HGt
  obtain ⟨N, hN⟩ : ∃ N, N = Gd.getN L at_ k := ⟨_, rfl⟩
  rw [← hN] at HGt ⊢
  obtain ⟨n0, hn0⟩ : ∃ n0, n0 = w0.heap.size := ⟨_, rfl⟩
  have H := Lib.hid h
  have x1 := cell_of_row w _ 0 _ _ _ h.c1
  have x2 := cell_of_row w _ 0 _ _ _ h.c2
  have x3 := cell_of_row w _ 0 _ _ _ h.c3
  have y2 := frozen_of_row w _ 0 _ _ h.c2
  have y3 := frozen_of_row w _ 0 _ _ h.c3
  rw [← hn0] at x1 x2 x3 y2 y3 ⊢
  have Hn0 := Lib.hid hn0
  have hk8 : (k : Int) ≤ 8 := by rcases hk with rfl | rfl | rfl | rfl <;> omega
  have ha : (at_ : Int) ≤ 1000000 := by omega
  clear hvw hge hgb hN hn0 h hg hat
  go_enter Tryz.func159, Tryz.ntmps159
  go_wp2_with fail
  refine HGt.out.mono ?_
  rintro e w1 ⟨rfl, rfl⟩
  clear HGt
  go_wp2
  go_ret
  have e0 := Hn0.out
  subst e0
  have hc : ((at_ : Int) + k) = ((at_ + k : Nat) : Int) := by omega
  rw [hc]
  refine ⟨rfl, ⟨(H.out.below.setCell (show w0.heap.size ≤ w0.heap.size + 1 + 1 by omega) _).setCell (show w0.heap.size ≤ w0.heap.size + 1 by omega) _, ?_, ?_, ?_⟩, ?_⟩
  · exact (Go.heap_setCell_other _ _ _ _ (by simp)).trans ((Go.heap_setCell_other _ _ _ _ (by simp; omega)).trans H.out.c1)
  · exact Go.heap_setCell_same _ _ 0 _ _ _ ((Go.heap_setCell_other _ _ _ _ (by simp)).trans H.out.c2)
  · exact (Go.heap_setCell_other _ _ _ _ (by simp)).trans (Go.heap_setCell_same _ _ 0 _ _ _ H.out.c3)
  · exact (only_setCell _ _ _ (Or.inr rfl)).trans (only_setCell _ _ _ (F := Dec2 w0) (Or.inl rfl)) fun _ _ e => e

end Go.Proofs.YtccpdkjonepoiaaGreatDoor

/- Walk: plog.Decode, of a record. -/
namespace Go.Proofs.YtccpdkjonepoiaaGreatDoor
open Go.RowKit Go.Shelf

attribute [local go_sem] Oper.semAt_some

theorem row_only {w w' : World} {B e s n : Nat} {v : Value} {xs : List Value} {F : Nat → Prop} (h : w.ownsRow B e s v n xs) (hO : Only F w w') (hF : ∀ k, B ≤ k → ¬ F k) : w'.ownsRow B e s v n xs :=
  ⟨h.1, h.2.imp id fun ⟨q, cap, cur, hv, hB, hg, hr⟩ => ⟨q, cap, cur, hv, hB, (hO.block q (lt_get hg) (hF q hB)).trans hg, hr⟩⟩
theorem row_below {w w' : World} {B e s n : Nat} {v : Value} {xs : List Value} (h : w.ownsRow B e s v n xs) (hb : Below w.heap.size w w') : w'.ownsRow B e s v n xs :=
  ⟨h.1, h.2.imp id fun ⟨q, cap, cur, hv, hB, hg, hr⟩ => ⟨q, cap, cur, hv, hB, (hb.block q (lt_get hg)).trans hg, hr⟩⟩
theorem row_set {w : World} {B e s n : Nat} {v : Value} {xs : List Value} (h : w.ownsRow B e s v n xs) (a : Addr) (u : Value) (hne : ∀ k, v.ownBlock = some k → k ≠ a.block) : (w.setCell a u).ownsRow B e s v n xs :=
  ⟨h.1, h.2.imp id fun ⟨q, cap, cur, hv, hB, hg, hr⟩ => ⟨q, cap, cur, hv, hB, (Go.heap_setCell_other w a q u (hne q (by rw [hv]; rfl))).trans hg, hr⟩⟩
theorem dec2_not (w0 : World) : ∀ k, w0.heap.size + 3 ≤ k → ¬ Dec2 w0 k := fun k h e => by rcases e with e | e <;> omega

set_option maxHeartbeats 8000000 in
set_option maxRecDepth 100000 in
theorem decode_any (v : Value) (P : List Gd.Pa) (B : Nat) (w : World) (hv : OwnB w B v (Gd.recB P)) (hP : ∀ p ∈ P, Gd.PaMay p) (hn : P.length ≤ 64) :
    Calls Tryz.prog 126 #[v] w fun e w' => ∃ u, e = .returned (.tuple #[u, .int .i64 (Gd.recB P).length, .int .i64 0]) ∧ w'.ownsRow w.heap.size 122 2 u P.length (flatP P) ∧ Below w.heap.size w w' := by
  obtain ⟨i0, hi, hz0, hz1, hz2⟩ := info_parts Tryz.infoPa
  have HP := Lib.hid hP
  have HAt := Lib.hid fun k p (h : P[k]? = some p) => Gd.dec_at h (hP p (List.mem_of_getElem? h))
  have HStep := Lib.hid fun k p (h : P[k]? = some p) => Gd.paOff_succ h
  have HEnd := Lib.hid (Gd.dec_end P)
  have HEo := Lib.hid (Gd.paOff_end P)
  have HMany := Lib.hid (Gd.dec_many hn)
  have HLen : Hid ((Gd.recB P).length ≤ 17000) := Lib.hid (by
    rw [Gd.recB_length]
    have h1 := pas_len hP
    have h2 := Gd.up8_ge (6 + Gd.wt P)
    have h3 : P.length * 262 ≤ 64 * 262 := Nat.mul_le_mul_right 262 hn
    unfold Gd.wt at *
    omega)
  obtain ⟨E, hE⟩ : ∃ E, E = (Gd.recBody P).length := ⟨_, rfl⟩
  have HLe : Hid (∀ k, Gd.paOff P k ≤ E) := Lib.hid fun k => by rw [hE, Gd.recBody_length]; exact Gd.paOff_le P k
  rw [← hE] at HEnd HEo
  obtain ⟨L, hL⟩ : ∃ L, L = Gd.recB P := ⟨_, rfl⟩
  rw [← hL] at HAt HEnd HMany HLen hv ⊢
  have HN := Lib.hid fun at_ k hk w1 h => next_any (w0 := w) (at_ := at_) L hv.at_ k hk w1 h (by have := HLen.out; omega)
  obtain ⟨A, c, hve, hA⟩ := hv.at_
  have hcap : L.length ≤ c := by
    rcases hv.2 with ⟨_, h0⟩ | ⟨g, cap, cur, e, _, _, hc, _⟩
    · omega
    · rw [e] at hve
      cases hve
      exact hc
  obtain ⟨ll, hll⟩ : ∃ ll, ll = L.length := ⟨_, rfl⟩
  have Hll := Lib.hid hll
  rw [← hll] at hve hcap ⊢
  obtain ⟨n, hnn⟩ : ∃ n, n = P.length := ⟨_, rfl⟩
  rw [← hnn] at hn ⊢
  have Hn := Lib.hid hnn
  subst hve
  have hll2 : ll ≤ 17000 := by rw [hll]; exact HLen.out
  obtain ⟨W, hW⟩ : ∃ W, W = ((w.alloc (.cells #[.slice A ll c] 22)).alloc (.cells #[.int .i64 0] 3)).alloc (.cells #[.bool false] 4) := ⟨_, rfl⟩
  have HD : Hid (DecSt w (.slice A ll c) 0 W) := Lib.hid (by
    rw [hW]
    refine ⟨(((Below.refl _ w).alloc (Nat.le_refl _) _).alloc (by simp) _).alloc (by simp; omega) _, CellsAt.alloc (CellsAt.alloc (heap_alloc_new w _) _) _, ?_, ?_⟩
    · have := heap_alloc_new (w.alloc (.cells #[.slice A ll c] 22)) (.cells #[.int .i64 0] 3)
      rw [World.size_alloc] at this
      exact CellsAt.alloc this _
    · have := heap_alloc_new ((w.alloc (.cells #[.slice A ll c] 22)).alloc (.cells #[.int .i64 0] 3)) (.cells #[.bool false] 4)
      rw [World.size_alloc, World.size_alloc] at this
      exact this)
  have HSz : Hid (W.heap.size = w.heap.size + 3) := Lib.hid (by rw [hW]; simp)
  have hmf : ∀ (fn : Fn) (first cap : Array Value) (w : World), (Instr.makeFunc fn first cap).run Tryz.prog w = .ok (.func fn first cap) w := fun _ _ _ _ => rfl
  have HA := Lib.hid hA
  obtain ⟨b, o, rfl, hbl, hbc⟩ : ∃ b o, A = some ⟨b, o, none⟩ ∧ b < w.heap.size ∧ ∀ (j : Nat) (x : UInt8), L[j]? = some x → w.cell? ⟨b, o + j, none⟩ = some (.int .u8 x.toNat) := by
    rcases hA with ⟨_, h0, _⟩ | h
    · have h1 := HEnd.out.2.2.1
      have h2 := Gd.up8_ge (E + 4)
      rw [h0] at h1
      simp at h1
      omega
    · exact h
  have HBc := Lib.hid (And.intro hbl hbc)
  have hcap2 : (ll : Int) ≤ c := by omega
  clear hA hP hll hnn hE hL hbl hbc HA hv hcap
  go_enter Tryz.func126, Tryz.ntmps126
  go_upto_region 3 with fail
  rw [← hW]
  clear hW
  have HN0 := Lib.hid (HN.out 0 2 (Or.inr (Or.inl rfl)) W HD.out (by have := HMany.out; have := HLen.out; have := HEnd.out.2.2.1; have := Gd.up8_ge (E + 4); omega) (by rw [HMany.out, ← Hn.out]; omega))
  rw [HMany.out, ← Hn.out] at HN0
  go_wp2_with fail
  refine HN0.out.mono ?_
  rintro e W1 ⟨rfl, hD1, hO1⟩
  rw [show (0 + 2 : Nat) = Gd.paOff P 0 from rfl] at hD1
  have HD1 := Lib.hid hD1
  have HS1 : Hid (w.heap.size + 3 ≤ W1.heap.size) := Lib.hid (by have := hO1.size; have := HSz.out; omega)
  clear hD1 hO1 HN0
  go_upto_region 8 with fail
  go_loopw [8, 10] (fun u z wr => ∃ i : Nat, z = .int .i64 i ∧ i ≤ n ∧ Hid (wr.ownsRow (w.heap.size + 3) 122 2 u i (flatP (P.take i))) ∧ Hid (DecSt w (.slice (some ⟨b, o, none⟩) ll c) (Gd.paOff P i) wr) ∧ Hid (w.heap.size + 3 ≤ wr.heap.size)) (fun _ z _ => n - (intOf z).toNat)
  case atStart => exact ⟨0, rfl, by omega, Lib.hid (World.ownsRow_nil _ _ _ _), HD1, HS1⟩
  case round =>
    obtain ⟨i, rfl, hin, HO, HDr, HSr⟩ := hrel
    by_cases hlt : i < n
    · obtain ⟨p, hp⟩ : ∃ p, P[i]? = some p := ⟨_, List.getElem?_eq_getElem (by have := Hn.out; omega)⟩
      obtain ⟨g1, g2, g3, g4⟩ := HAt.out i p hp
      have g5 := HStep.out i p hp
      have HX := Lib.hid hp
      have Hpm := HP.out p (List.mem_of_getElem? hp)
      have h1 : (i : Int) < n := by omega
      obtain ⟨at_, hat⟩ : ∃ a, a = Gd.paOff P i := ⟨_, rfl⟩
      rw [← hat] at g1 g2 g3 g4 g5 HDr
      have HNa := Lib.hid (HN.out at_ 4 (Or.inr (Or.inr (Or.inl rfl))) wr HDr.out (by omega) (by rw [g1]; have := Hpm.1; omega))
      rw [g1] at HNa
      have x3 := cell_of_row wr _ 0 _ _ _ HDr.out.c3
      have HG := Lib.hid (And.intro g2 (And.intro g3 (And.intro g4 g5)))
      have HPm := Lib.hid Hpm
      clear hp hlt g1 g2 g3 g4 g5 Hpm
      obtain ⟨q, hq⟩ : ∃ q, q = p.1 := ⟨_, rfl⟩
      rw [← hq] at HNa
      have HQ := Lib.hid hq
      have HAi := Lib.hid hat
      clear hq hat
      go_wp2_with fail
      refine HNa.out.mono ?_
      rintro e w3 ⟨rfl, hD3, hO3⟩
      have HD3 := Lib.hid hD3
      have HO3 := Lib.hid (row_only HO.out hO3 (dec2_not w))
      have HS3 : Hid (w.heap.size + 3 ≤ w3.heap.size) := Lib.hid (by have := hO3.size; have := HSr.out; omega)
      clear hD3 hO3 HNa x3
      go_upto_region 11 with fail
      obtain ⟨w4, hw4⟩ : ∃ w4, w4 = w3.alloc (.cells #[.int .i64 q, .string ⟨#[]⟩] 122) := ⟨_, rfl⟩
      rw [← hw4]
      obtain ⟨pb, hpb⟩ : ∃ pb, pb = w3.heap.size := ⟨_, rfl⟩
      rw [← hpb]
      have hb4 : Below w3.heap.size w3 w4 := by rw [hw4]; exact (Below.refl _ _).alloc (Nat.le_refl _) _
      have HC4 : Hid (CellsAt w4 pb 122 #[.int .i64 q, .string ⟨#[]⟩]) := Lib.hid (by rw [hw4, hpb]; exact heap_alloc_new _ _)
      have HD4 := Lib.hid (HD3.out.read hb4)
      have HO4 := Lib.hid (row_below HO3.out hb4)
      have HOb : Hid (∀ k, u8.ownBlock = some k → w.heap.size + 3 ≤ k ∧ k < pb) := Lib.hid fun k hk => by rw [hpb]; exact own_block HO3.out k hk
      have HS4 : Hid (w.heap.size + 3 ≤ pb) := Lib.hid (by rw [hpb]; exact HS3.out)
      have HS4' : Hid (w.heap.size + 3 ≤ w4.heap.size) := Lib.hid (by have := hb4.size; have := HS3.out; omega)
      clear hw4 hpb hb4
      have HNb := Lib.hid (HN.out (at_ + 4) 2 (Or.inr (Or.inl rfl)) w4 HD4.out (by have := HG.out.2.2.1; omega) (by rw [HG.out.1]; have := HPm.out.2; omega))
      rw [HG.out.1] at HNb
      obtain ⟨l, hl⟩ : ∃ l, l = p.2.length := ⟨_, rfl⟩
      rw [← hl] at HNb
      have HLl := Lib.hid hl
      have hl2 : (l : Int) ≤ 256 := by have := HPm.out.2; omega
      clear hl
      go_wp2_with fail
      refine HNb.out.mono ?_
      rintro e w5 ⟨rfl, hD5, hO5⟩
      have HO5 := Lib.hid (row_only HO4.out hO5 (dec2_not w))
      have HC5 : Hid (CellsAt w5 pb 122 #[.int .i64 q, .string ⟨#[]⟩]) := Lib.hid ((hO5.block pb HC4.out.lt (dec2_not w pb HS4.out)).trans HC4.out)
      have HS5 : Hid (w.heap.size + 3 ≤ w5.heap.size) := Lib.hid (by have := hO5.size; have := HS4'.out; omega)
      obtain ⟨a6, ha6⟩ : ∃ a, a = at_ + 4 + 2 := ⟨_, rfl⟩
      rw [← ha6] at hD5
      have HD5 := Lib.hid hD5
      have ha7 : a6 + l ≤ ll := by have := HG.out.2.2.1; have := HLl.out; have := Hll.out; omega
      have ha8 : a6 + l + 4 ≤ ll := by
        have h1 := HLe.out (i + 1)
        have h2 := HG.out.2.2.2
        have h3 := HLl.out
        have h4 := Gd.up8_ge (E + 4)
        have h5 := HEnd.out.2.2.1
        have h6 := Hll.out
        have h7 := HAi.out
        omega
      have f3 : ¬ a6 = c := by omega
      have f4 : (a6 : Int) < c := by omega
      have HA6 := Lib.hid ha6
      have hcv : (convert 22 9 (.slice (some ⟨b, o + a6, none⟩) l (c - a6))).run Tryz.prog w5 = .ok (.string ⟨p.2.toArray⟩) w5 := by
        have hbb := HD5.out.below
        have hg3 := HG.out.2.1
        rw [← HLl.out] at hg3
        refine conv_any _ p.2 w5 ⟨_, _, by rw [HLl.out], Or.inr ⟨b, o + a6, rfl, Nat.lt_of_lt_of_le HBc.out.1 hbb.size, fun j x hx => ?_⟩⟩
        have hj : j < l := by rw [HLl.out]; exact (List.getElem?_eq_some_iff.1 hx).1
        rw [← hg3, ← ha6, Gd.part_get hj] at hx
        rw [Nat.add_assoc]
        exact (hbb.cell (p := ⟨b, o + (a6 + j), none⟩) HBc.out.1).trans (HBc.out.2 _ _ hx)
      have x1 := cell_of_row w5 _ 0 _ _ _ HD5.out.c1
      have x2 := cell_of_row w5 _ 0 _ _ _ HD5.out.c2
      have x3 := cell_of_row w5 _ 0 _ _ _ HD5.out.c3
      have f1 : (l : Int) ≤ ll - a6 := by omega
      have f2 : (a6 : Int) + l ≤ ll := by omega
      clear hD5 hO5 HNb ha6 ha7 ha8
      go_upto_region 12 with fail
      have p0 := cell_of_row w5 pb 0 _ _ _ HC5.out
      have p1 := cell_of_row w5 pb 1 _ _ _ HC5.out
      have p2 := frozen_of_row w5 pb 1 _ _ HC5.out
      obtain ⟨s, hs⟩ : ∃ s : ByteArray, s = ⟨p.2.toArray⟩ := ⟨_, rfl⟩
      rw [← hs] at hcv
      have Hs := Lib.hid hs
      clear hs
      go_upto_region 13 with fail
      obtain ⟨w6, hw6⟩ : ∃ w6, w6 = w5.setCell ⟨pb, 1, none⟩ (.string s) := ⟨_, rfl⟩
      rw [← hw6]
      have HD6 : Hid (DecSt w (.slice (some ⟨b, o, none⟩) ll c) a6 w6) := Lib.hid (by
        have h1 := HS4.out
        rw [hw6]
        exact ⟨HD5.out.below.setCell (show w.heap.size ≤ pb by omega) _, (Go.heap_setCell_other _ _ _ _ (by simp; omega)).trans HD5.out.c1, (Go.heap_setCell_other _ _ _ _ (by simp; omega)).trans HD5.out.c2, (Go.heap_setCell_other _ _ _ _ (by simp; omega)).trans HD5.out.c3⟩)
      have HC6 : Hid (CellsAt w6 pb 122 #[.int .i64 q, .string s]) := Lib.hid (by rw [hw6]; exact Go.heap_setCell_same _ _ 1 _ _ _ HC5.out)
      have HO6 := Lib.hid (row_set HO5.out ⟨pb, 1, none⟩ (.string s) fun k hk => by have := HOb.out k hk; show k ≠ pb; omega)
      rw [← hw6] at HO6
      have HS6 : Hid (w.heap.size + 3 ≤ w6.heap.size) := Lib.hid (by rw [hw6]; simp; exact HS5.out)
      clear x1 x2 x3 p0 p1 p2 hcv hw6
      have x2 := cell_of_row w6 _ 0 _ _ _ HD6.out.c2
      have y2 := frozen_of_row w6 _ 0 _ _ HD6.out.c2
      go_upto_region 14 with fail
      rw [show ((a6 : Int) + l) = ((a6 + l : Nat) : Int) by omega]
      obtain ⟨w7, hw7⟩ : ∃ w7, w7 = w6.setCell ⟨w.heap.size + 1, 0, none⟩ (.int .i64 ((a6 + l : Nat) : Int)) := ⟨_, rfl⟩
      rw [← hw7]
      have HD7 : Hid (DecSt w (.slice (some ⟨b, o, none⟩) ll c) (a6 + l) w7) := Lib.hid (by
        rw [hw7]
        exact ⟨HD6.out.below.setCell (show w.heap.size ≤ w.heap.size + 1 by omega) _, (Go.heap_setCell_other _ _ _ _ (by simp)).trans HD6.out.c1, Go.heap_setCell_same _ _ 0 _ _ _ HD6.out.c2, (Go.heap_setCell_other _ _ _ _ (by simp)).trans HD6.out.c3⟩)
      have HC7 : Hid (CellsAt w7 pb 122 #[.int .i64 q, .string s]) := Lib.hid (by rw [hw7]; exact (Go.heap_setCell_other _ _ _ _ (by have := HS4.out; show pb ≠ w.heap.size + 1; omega)).trans HC6.out)
      have HO7 := Lib.hid (row_set HO6.out ⟨w.heap.size + 1, 0, none⟩ (.int .i64 ((a6 + l : Nat) : Int)) fun k hk => by have := HOb.out k hk; show k ≠ w.heap.size + 1; omega)
      rw [← hw7] at HO7
      have HS7 : Hid (w.heap.size + 3 ≤ w7.heap.size) := Lib.hid (by rw [hw7]; simp; exact HS6.out)
      clear x2 y2 hw7
      have p0 := cell_of_row w7 pb 0 _ _ _ HC7.out
      have p1 := cell_of_row w7 pb 1 _ _ _ HC7.out
      have hi64 : i ≤ 64 := by omega
      go_wp2_with (at_builtin; refine wpList_append_own _ rfl _ _ 65 rfl (w.heap.size + 3) 122 i0 _ 2 24 Tryz.underlying65 hi hz0 hz1 hz2 rfl (by decide) u8 i (flatP (P.take i)) rfl (row_below HO7.out ((Below.refl _ _).alloc (Nat.le_refl _) _)) ⟨w7.heap.size, 0, none⟩ 1 1 [.int .i64 q, .string s] rfl rfl (cells_new2 w7 _ _ _) (by intro u hu; simp at hu; rcases hu with rfl | rfl <;> rfl) (by unfold maxLen; omega) (by omega) (by have := HS7.out; simp; omega) ?_; intro v' w8 h1 h2 h3)
      have hba : Below w7.heap.size w7 (w7.alloc (.cells #[.int .i64 q, .string s] 122)) := (Below.refl _ _).alloc (Nat.le_refl _) _
      have HO8 : Hid (w8.ownsRow (w.heap.size + 3) 122 2 v' (i + 1) (flatP (P.take (i + 1)))) := Lib.hid (by
        rw [Gd.take_next HX.out, ← flatP_snoc]
        unfold paC
        rw [← HQ.out, ← Hs.out]
        exact h1)
      have hO8 : Only (fun k => u8.ownBlock = some k) w7 w8 := (below_only hba _).trans (grown_only h2 (F := fun k => u8.ownBlock = some k) fun k e => e) fun _ _ e => e
      have HD8 : Hid (DecSt w (.slice (some ⟨b, o, none⟩) ll c) (Gd.paOff P (i + 1)) w8) := Lib.hid (by
        have e1 : Gd.paOff P (i + 1) = a6 + l := by rw [HG.out.2.2.2, HA6.out, HLl.out]
        rw [e1]
        have hne : ∀ k, k < w.heap.size + 3 → ¬ u8.ownBlock = some k := fun k hk e => by have := HOb.out k e; omega
        exact ⟨HD7.out.below.trans (hO8.below (by have := HS7.out; omega) fun k hk => hne k (by omega)), (hO8.block _ HD7.out.c1.lt (hne _ (by omega))).trans HD7.out.c1, (hO8.block _ HD7.out.c2.lt (hne _ (by omega))).trans HD7.out.c2, (hO8.block _ HD7.out.c3.lt (hne _ (by omega))).trans HD7.out.c3⟩)
      have HS8 : Hid (w.heap.size + 3 ≤ w8.heap.size) := Lib.hid (by have := hO8.size; have := HS7.out; omega)
      clear h1 h2 h3 hO8 hba
      refine ⟨⟨i + 1, by go_num, by omega, HO8, HD8, HS8⟩, ?_⟩
      simp [intOf]; omega
    · obtain rfl : i = n := by omega
      clear hlt
      obtain ⟨cc, hcc⟩ : ∃ cc, cc = Gd.crc (Gd.recBody P) := ⟨_, rfl⟩
      have hcl : cc < 4294967296 := by rw [hcc]; exact Gd.crc_lt _
      have hc2 : (cc : Int) < 4294967296 := by omega
      have hup := Gd.up8_ge (E + 4)
      have hll3 : ll = Gd.up8 (E + 4) := by rw [Hll.out]; exact HEnd.out.2.2.1
      rw [← hll3] at hup
      obtain ⟨hu1, hu2, -⟩ := hup
      have hDe := HDr.out
      rw [Hn.out, HEo.out] at hDe
      have HDe := Lib.hid hDe
      have HOe : Hid (wr.ownsRow (w.heap.size + 3) 122 2 u8 P.length (flatP P)) := Lib.hid (by
        have := HO.out
        rw [Hn.out, List.take_length] at this
        exact this)
      have HNc := Lib.hid (HN.out E 4 (Or.inr (Or.inr (Or.inl rfl))) wr hDe (by have := Hll.out; omega) (by rw [HEnd.out.1, ← hcc]; omega))
      rw [HEnd.out.1, ← hcc] at HNc
      have x2 := cell_of_row wr _ 0 _ _ _ hDe.c2
      have x3 := cell_of_row wr _ 0 _ _ _ hDe.c3
      have HCc := Lib.hid hcc
      have HU3 := Lib.hid hll3
      clear hDe HDr HO hcc hll3
      go_wp2_with fail
      refine HNc.out.mono ?_
      rintro e w3 ⟨rfl, hD3, hO3⟩
      have HD3 := Lib.hid hD3
      have HO3 := Lib.hid (row_only HOe.out hO3 (dec2_not w))
      have HS3 : Hid (w.heap.size + 3 ≤ w3.heap.size) := Lib.hid (by have := hO3.size; have := HSr.out; omega)
      clear hD3 hO3 HNc x2 x3
      obtain ⟨e4, he4⟩ : ∃ e4, e4 = E + 4 := ⟨_, rfl⟩
      rw [← he4] at HD3 HU3 hu1 hu2
      have HUp := Lib.hid (up_any e4 (by omega) w3)
      rw [← HU3.out] at HUp
      have x1 := cell_of_row w3 _ 0 _ _ _ HD3.out.c1
      have x2 := cell_of_row w3 _ 0 _ _ _ HD3.out.c2
      have x3 := cell_of_row w3 _ 0 _ _ _ HD3.out.c3
      have HE4 := Lib.hid he4
      have HBy : Hid (BytesAt w3 (.slice (some ⟨b, o, none⟩) E c) (Gd.recBody P)) := Lib.hid (by
        have hE2 : (Gd.recBody P).length = E := by
          rw [← HEnd.out.2.1, Gd.part_length (by have := Hll.out; omega)]
        refine ⟨_, c, by rw [hE2], Or.inr ⟨b, o, rfl, Nat.lt_of_lt_of_le HBc.out.1 HD3.out.below.size, fun j x hx => ?_⟩⟩
        have hj : j < E := by rw [← hE2]; exact (List.getElem?_eq_some_iff.1 hx).1
        rw [← HEnd.out.2.1, Gd.part_get hj, Nat.zero_add] at hx
        exact (HD3.out.below.cell (p := ⟨b, o + j, none⟩) HBc.out.1).trans (HBc.out.2 _ _ hx))
      have HCr := Lib.hid (crc_any _ (Gd.recBody P) w3 HBy.out (by have h2 := HEnd.out.2.1; have h3 := congrArg List.length h2; rw [Gd.part_length (by have := Hll.out; omega)] at h3; omega))
      rw [← HCc.out] at HCr
      have hEc : (E : Int) ≤ c := by omega
      have he5 : (e4 : Int) ≤ ll := by omega
      have he6 : (E : Int) + 4 = e4 := by omega
      clear he4 HBy
      go_wp2_with fail
      refine HUp.out.mono ?_
      rintro e w4 ⟨rfl, rfl⟩
      clear HUp
      go_wp2_with fail
      refine HCr.out.mono ?_
      rintro e w5 ⟨rfl, hb5⟩
      have HD5 := Lib.hid (HD3.out.read hb5)
      have HO5 := Lib.hid (row_below HO3.out hb5)
      have HS5 : Hid (w.heap.size + 3 ≤ w5.heap.size) := Lib.hid (by have := hb5.size; have := HS3.out; omega)
      clear hb5 HCr x1 x2 x3
      have x1 := cell_of_row w5 _ 0 _ _ _ HD5.out.c1
      have x2 := cell_of_row w5 _ 0 _ _ _ HD5.out.c2
      have x3 := cell_of_row w5 _ 0 _ _ _ HD5.out.c3
      have HZ : Hid (∀ j, j < ll - e4 → w5.cell? ⟨b, o + e4 + j, none⟩ = some (.int .u8 0)) := Lib.hid fun j hj => by
        rw [Nat.add_assoc]
        have h1 := HEnd.out.2.2.2 (e4 + j) (by omega) (by have := Hll.out; omega)
        exact (HD5.out.below.cell (p := ⟨b, o + (e4 + j), none⟩) HBc.out.1).trans (HBc.out.2 _ _ h1)
      have HFin : Hid (w5.ownsRow w.heap.size 122 2 u8 i (flatP P)) := Lib.hid <| by
        rw [Hn.out]
        exact ⟨HO5.out.1, HO5.out.2.imp id fun ⟨q, cap, cur, hv, hB, r⟩ => ⟨q, cap, cur, hv, by omega, r⟩⟩
      by_cases hce : e4 = c
      · obtain rfl : ll = e4 := by omega
        subst hce
        go_upto_region 30 with fail
        go_loopw [17, 89] (fun y z wx => z = .int .i64 0 ∧ wx = w5) (fun _ _ _ => 0)
        case atStart => exact ⟨rfl, rfl⟩
        case round =>
          obtain ⟨rfl, rfl⟩ := hrel
          go_wp2
          go_ret3
          exact ⟨u8, rfl, HFin.out, HD5.out.below⟩
      · have hce' : (e4 : Int) < c := by omega
        obtain ⟨m, hm⟩ : ∃ m, ll = e4 + m := ⟨ll - e4, by omega⟩
        have hm2 : (ll : Int) - e4 = m := by omega
        have hm3 : ll - e4 = m := by omega
        have HM := Lib.hid hm
        rw [hm3] at HZ
        clear hm
        go_upto_region 30 with fail
        go_loopw [17, 89] (fun y z wx => ∃ j : Nat, z = .int .i64 j ∧ j ≤ m ∧ wx = w5) (fun _ z _ => m - (intOf z).toNat)
        case atStart => exact ⟨0, rfl, by omega, rfl⟩
        case round =>
          obtain ⟨j, rfl, hj, rfl⟩ := hrel
          by_cases hjm : j < m
          · have z0 := HZ.out j hjm
            have j1 : (j : Int) < m := by omega
            have j0 : (0 : Int) ≤ j := by omega
            go_wp2
            go_roundw
            case rel => exact ⟨j + 1, by go_num, by omega, trivial⟩
            case measure => simp [intOf]; omega
          · obtain rfl : j = m := by omega
            go_wp2
            go_ret3
            exact ⟨u8, rfl, HFin.out, HD5.out.below⟩

end Go.Proofs.YtccpdkjonepoiaaGreatDoor
