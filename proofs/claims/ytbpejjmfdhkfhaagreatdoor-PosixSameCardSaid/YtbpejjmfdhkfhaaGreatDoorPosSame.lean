/- Walks: the document's SameTree: it ends, and says of alike ones that they are the same. -/
import Derived.Test.YtbpejjmfdhkfhaaGreatDoorPosBis
import Derived.Test.YtbpejjmfdhkfhaaGreatDoorPosSaid
import Derived.Test.YtbpejjmfdhkfhaaGreatDoorPosFSame
set_option linter.unusedVariables false
set_option linter.unusedSimpArgs false
namespace Go.Proofs.YtbpejjmfdhkfhaaGreatDoor
open Go.RowKit

namespace Pz
/-- from the root to a directory -/
def Chain (S : Fil) : List Nat → Prop
  | [] => False
  | [n] => n = 0
  | n :: p :: r => (∃ x, (⟨p, x, n⟩ : En) ∈ S.E) ∧ Chain S (p :: r)
theorem chain_par {S : Fil} : ∀ (L : List Nat), Chain S L → ∀ c ∈ L, c ≠ 0 → ∃ p y, p ∈ L.tail ∧ (⟨p, y, c⟩ : En) ∈ S.E
  | [], h, _, _, _ => h.elim
  | [n], h, c, hc, h0 => by
    have h : n = 0 := h
    rcases List.mem_cons.1 hc with e | hc
    · exact absurd (e.trans h) h0
    · cases hc
  | n :: p :: r, h, c, hc, h0 => by
    obtain ⟨⟨x, hx⟩, h⟩ : (∃ x, (⟨p, x, n⟩ : En) ∈ S.E) ∧ Chain S (p :: r) := h
    rcases List.mem_cons.1 hc with e | hc
    · exact ⟨p, x, List.mem_cons_self .., by rw [e]; exact hx⟩
    · obtain ⟨q, y, hq, hy⟩ := chain_par (p :: r) h c hc h0
      exact ⟨q, y, List.mem_cons_of_mem _ hq, hy⟩
theorem chain_new {S : Fil} (hT : Tree S) {a c : Nat} {r : List Nat} {x : List UInt8} (h : Chain S (a :: r)) (hn : (a :: r).Nodup) (he : (⟨a, x, c⟩ : En) ∈ S.E) (hd : isDir S.N c = true) : c ∉ a :: r := fun hc => by
  obtain ⟨h0, h1⟩ := hT _ he hd
  obtain ⟨p, y, hp, hy⟩ := chain_par _ h c hc h0
  have := h1 _ hy rfl
  simp only [En.mk.injEq] at this
  rw [this.1] at hp
  exact (List.nodup_cons.1 hn).1 hp
theorem chain_lt {S : Fil} (hO : Ok S) : ∀ (L : List Nat), Chain S L → ∀ c ∈ L, c < S.N.length := fun L h c hc => by
  by_cases h0 : c = 0
  · rw [h0]
    exact hO.root
  · obtain ⟨p, y, _, hy⟩ := chain_par L h c hc h0
    exact (hO.ent _ hy).2
end Pz

def TreeSaid (S T : Pz.Fil) (a b : Nat) (w : World) (e : Ending) (w' : World) : Prop :=
  ∃ ok : Bool, e = .returned (.bool ok) ∧ Below w.heap.size w w' ∧ ∀ V ρ, Pz.Like S T V ρ → V a → ρ a = b → ok = true

set_option maxHeartbeats 8000000 in
set_option maxRecDepth 100000 in
theorem sametree_any {S T : Pz.Fil} (r1 r2 : Nat) (gS : Pz.Good 1000 S) (gT : Pz.Good 1000 T) (tS : Pz.Tree S) :
    ∀ (k : Nat) (P : List Nat) (a b : Nat) (w : World) (F G : Nat → Prop), S.N.length < P.length + 1 + k → Pz.Chain S (a :: P) → (a :: P).Nodup → b < T.N.length → RefF r1 S w F → RefF r2 T w G →
    Calls Tryz.prog 11 #[.pointer (some ⟨r1, 0, none⟩), .int .i64 a, .pointer (some ⟨r2, 0, none⟩), .int .i64 b] w (TreeSaid S T a b w) := by
  intro k
  induction k with
  | zero =>
    intro P a b w F G hk hch hnd
    have := nodup_len S.N.length (a :: P) hnd (Pz.chain_lt gS.ok _ hch)
    rw [List.length_cons] at this
    omega
  | succ k ih =>
    intro P a b w F G hk hch hnd hb h1 h2
    have hE := gS.e
    have hE' := gT.e
    have H1 := Lib.hid fun W (hW : Below w.heap.size w W) => (RefF.held r1 S).below h1 hW
    have H2 := Lib.hid fun W (hW : Below w.heap.size w W) => (RefF.held r2 T).below h2 hW
    obtain ⟨L, hL⟩ : ∃ L, L = Pz.namesOf S.E a := ⟨_, rfl⟩
    obtain ⟨M, hM⟩ : ∃ L, L = Pz.namesOf T.E b := ⟨_, rfl⟩
    have hL1 : L.length ≤ 1000 := by rw [hL, Pz.namesOf_count]; exact Nat.le_trans (List.length_filter_le _ _) hE
    have hM1 : M.length ≤ 1000 := by rw [hM, Pz.namesOf_count]; exact Nat.le_trans (List.length_filter_le _ _) hE'
    have HL := Lib.hid hL
    have HM := Lib.hid hM
    have HN1 := Lib.hid (rnames_any r1 S a w (by omega) h1.is)
    have HN2 := Lib.hid fun W (hW : Below w.heap.size w W) => rnames_any r2 T b W (by omega) (H2.out W hW).is
    rw [← hL] at HN1
    rw [← hM] at HN2
    have HLk1 := Lib.hid fun W (hW : Below w.heap.size w W) s => look_any 0 r1 S a s W (by omega) (H1.out W hW).is
    have HLk2 := Lib.hid fun W (hW : Below w.heap.size w W) s => look_any 0 r2 T b s W (by omega) (H2.out W hW).is
    have Ih := Lib.hid ih
    have Hk := Lib.hid hk
    have Hch := Lib.hid (And.intro hch hnd)
    have Hlen := Lib.hid (And.intro hL1 hM1)
    have Hb := Lib.hid hb
    clear ih hk hch hnd h1 h2 hL hM hL1 hM1 hE hE' hb
    go_enter Tryz.func11, Tryz.ntmps11
    go_wp2_with fail
    refine HN1.out.mono ?_
    rintro e w1 ⟨A1, c1, rfl, hS1, hb1⟩
    have HS1 := Lib.hid (hS1.low (Nat.zero_le _))
    have HB1 := Lib.hid hb1
    clear hS1 hb1
    go_wp2_with fail
    refine (HN2.out w1 HB1.out).mono ?_
    rintro e w2 ⟨A2, c2, rfl, hS2, hb2⟩
    have HS2 := Lib.hid (hS2.low (Nat.zero_le _))
    have HS1' := Lib.hid (HS1.out.keep hb2)
    have HB2 := Lib.hid (HB1.out.trans (hb2.mono HB1.out.size))
    clear hS2 hb2
    go_wp2_with fail
    refine (same_any A1 A2 L M c1 c2 0 w2 (by have := Hlen.out; omega) (by have := Hlen.out; omega) HS1'.out HS2.out).mono ?_
    rintro e w3 ⟨rfl, hb3⟩
    have HB3 := Lib.hid (HB2.out.trans (hb3.mono HB2.out.size))
    have HS3 := Lib.hid (HS1'.out.keep hb3)
    clear hb3
    by_cases heq : L = M
    case neg =>
      have hd : decide (L = M) = false := decide_eq_false heq
      rw [hd]
      have HFin : Hid (TreeSaid S T a b w (.returned (.bool false)) w3) := Lib.hid ⟨false, rfl, HB3.out, fun V ρ hL hV hρ => by
        have := (hL.names hV gS.once gT.once).1
        rw [hρ, ← HL.out, ← HM.out] at this
        exact absurd this.symm heq⟩
      clear hd heq
      go_wp2
      go_ret
      exact HFin.out
    case pos =>
    rw [decide_eq_true heq]
    have HEq := Lib.hid heq
    obtain ⟨n, hn⟩ : ∃ n, n = L.length := ⟨_, rfl⟩
    rw [← hn]
    have Hn := Lib.hid hn
    have hn1 : n ≤ 1000 := by have := Hlen.out; omega
    clear hn heq
    go_wp2
    go_loopw [11] (fun v wr => ∃ i : Nat, v = .int .i64 i ∧ i ≤ n ∧ Hid (Below w3.heap.size w3 wr)) (fun v _ => n - (intOf v).toNat)
    case atStart => exact ⟨0, rfl, by omega, Lib.hid (Below.refl _ _)⟩
    case round =>
      obtain ⟨i, rfl, hi, HBr⟩ := hrel
      by_cases hlt : i < n
      · obtain ⟨x, hx⟩ : ∃ x, L[i]? = some x := ⟨_, List.getElem?_eq_getElem (by have := Hn.out; omega)⟩
        have hmem : x ∈ Pz.namesOf S.E a := by rw [← HL.out]; exact List.mem_of_getElem? hx
        have hmem2 : x ∈ Pz.namesOf T.E b := by rw [← HM.out, ← HEq.out]; exact List.mem_of_getElem? hx
        rw [(Pz.namesOf_perm S.E a).mem_iff, Pz.names_mem] at hmem
        rw [(Pz.namesOf_perm T.E b).mem_iff, Pz.names_mem] at hmem2
        obtain ⟨n1, hn1'⟩ : ∃ j : Nat, Pz.look S.E a x = j := ⟨(Pz.look S.E a x).toNat, by omega⟩
        obtain ⟨m1, hm1⟩ : ∃ j : Nat, Pz.look T.E b x = j := ⟨(Pz.look T.E b x).toNat, by omega⟩
        have hn1l : n1 < S.N.length := (gS.ok.ent _ (Pz.look_entry hn1')).2
        have hm1l : m1 < T.N.length := (gT.ok.ent _ (Pz.look_entry hm1)).2
        rcases HS3.out with h | ⟨bb, oo, rfl, _, hbl, hcell, _⟩
        · have := Hn.out
          rw [h] at this
          simp at this
          omega
        have hcs : ∀ W, Below w3.heap.size w3 W → W.cell? ⟨bb, oo + i, none⟩ = some (.string ⟨x.toArray⟩) := fun W hW => (hW.cell (p := ⟨bb, oo + i, none⟩) hbl).trans (hcell i x hx)
        have HCs := Lib.hid hcs
        have HNm := Lib.hid (And.intro hn1' hm1)
        have HFr : Hid (∀ V ρ, Pz.Like S T V ρ → V a → ρ a = b → V n1 ∧ ρ n1 = m1) := Lib.hid fun V ρ hL hV hρ => by
          have he := hL.ent a hV x
          have hv := hL.vlook hV hn1'
          rw [hρ, hm1, hn1', if_neg (by omega), Int.toNat_natCast] at he
          exact ⟨hv, by omega⟩
        have HEn := Lib.hid (Pz.look_entry hn1')
        obtain ⟨qS, hqS⟩ : ∃ q, q = S.N.length := ⟨_, rfl⟩
        obtain ⟨qT, hqT⟩ : ∃ q, q = T.N.length := ⟨_, rfl⟩
        obtain ⟨dA, hdA⟩ : ∃ d, d = Pz.isDir S.N n1 := ⟨_, rfl⟩
        obtain ⟨dB, hdB⟩ : ∃ d, d = Pz.isDir T.N m1 := ⟨_, rfl⟩
        obtain ⟨sA, hsA⟩ : ∃ s : ByteArray, s = ⟨(Pz.nodeD S.N n1).data.toArray⟩ := ⟨_, rfl⟩
        obtain ⟨sB, hsB⟩ : ∃ s : ByteArray, s = ⟨(Pz.nodeD T.N m1).data.toArray⟩ := ⟨_, rfl⟩
        obtain ⟨lA, hlA⟩ : ∃ l, l = (Pz.nodeD S.N n1).links := ⟨_, rfl⟩
        obtain ⟨lB, hlB⟩ : ∃ l, l = (Pz.nodeD T.N m1).links := ⟨_, rfl⟩
        have HD1 := Lib.hid fun W (hW : Below w.heap.size w W) => (H1.out W hW).dirAt hn1l
        have HD2 := Lib.hid fun W (hW : Below w.heap.size w W) => (H2.out W hW).dirAt hm1l
        rw [← hqS, ← hdA, ← hsA, ← hlA] at HD1
        rw [← hqT, ← hdB, ← hsB, ← hlB] at HD2
        have HNd : Hid (Pz.nodeD T.N m1 = Pz.nodeD S.N n1 → dA = dB ∧ sA = sB ∧ lA = lB) := Lib.hid fun e => by
          rw [hdA, hdB, hsA, hsB, hlA, hlB, ← Pz.nodeD_dir, ← Pz.nodeD_dir, e]
          exact ⟨rfl, rfl, rfl⟩
        have HdA := Lib.hid hdA
        have HmT := Lib.hid hm1l
        rw [← hqS] at hn1l
        rw [← hqT] at hm1l
        have u1 : (0 : Int) ≤ n1 := by omega
        have u2 : (n1 : Int) < qS := by omega
        have u3 : (0 : Int) ≤ m1 := by omega
        have u4 : (m1 : Int) < qT := by omega
        have i1 : (0 : Int) ≤ i := by omega
        have i2 : (i : Int) < n := by omega
        have c0 := hcs wr HBr.out
        have HBw := Lib.hid (HB3.out.trans (HBr.out.mono HB3.out.size))
        clear hx hmem hmem2 hn1' hm1 hbl hcell hcs hqS hqT hdA hdB hsA hsB hlA hlB hn1l hm1l hlt
        have hk1 := HLk1.out wr HBw.out ⟨x.toArray⟩
        rw [show Pz.look S.E a (⟨x.toArray⟩ : ByteArray).data.toList = n1 from HNm.out.1] at hk1
        have HK1 := Lib.hid hk1
        clear hk1
        go_wp2_with fail
        refine HK1.out.mono ?_
        rintro e w4 ⟨rfl, hb4⟩
        have HB4 := Lib.hid (HBw.out.trans (hb4.mono HBw.out.size))
        have c4 := HCs.out w4 (HBr.out.trans (hb4.mono HBr.out.size))
        have HBr4 := Lib.hid (HBr.out.trans (hb4.mono HBr.out.size))
        have hk2 := HLk2.out w4 HB4.out ⟨x.toArray⟩
        rw [show Pz.look T.E b (⟨x.toArray⟩ : ByteArray).data.toList = m1 from HNm.out.2] at hk2
        have HK2 := Lib.hid hk2
        clear hb4 hk2 c0
        go_wp2_with fail
        refine HK2.out.mono ?_
        rintro e w5 ⟨rfl, hb5⟩
        have HB5 := Lib.hid (HB4.out.trans (hb5.mono HB4.out.size))
        have HBr5 := Lib.hid (HBr4.out.trans (hb5.mono HBr4.out.size))
        clear hb5 c4
        obtain ⟨g1, gc1, p0, p1, p2, p3⟩ := HD1.out w5 HB5.out
        obtain ⟨g2, gc2, t0, t1, t2, t3⟩ := HD2.out w5 HB5.out
        go_upto_region 10 with fail
        go_cut [59] from 45 to 59 (fun s59 wx => ∃ bad : Bool, s59 = .bool bad ∧ Hid ((bad = false → dA = dB ∧ sA = sB ∧ lA = lB) ∧ (bad = true → ¬ (dA = dB ∧ sA = sB ∧ lA = lB))) ∧ Hid (Below w5.heap.size w5 wx))
        case first =>
          cases dA with
          | false =>
            cases dB with
            | false =>
              by_cases hsd : sA = sB
              · subst hsd
                by_cases hlk : lA = lB
                · subst hlk
                  go_quiet (fail)
                  go_wp2_with fail
                  go_meet
                  exact ⟨false, rfl, Lib.hid ⟨(fun _ => (by simp)), fun h => by cases h⟩, Lib.hid (below_drewN (Below.refl _ _) _)⟩
                · have hlb : (lA == lB) = false := by rw [beq_eq_false_iff_ne]; exact hlk
                  have hln : (lA != lB) = true := by rw [bne, hlb]; rfl
                  have HNe := Lib.hid hlk
                  go_quiet (fail)
                  go_wp2_with fail
                  go_meet
                  exact ⟨true, rfl, Lib.hid ⟨(fun h => by cases h), fun _ h => HNe.out h.2.2⟩, Lib.hid (below_drewN (Below.refl _ _) _)⟩
              · have hpb : (sA.toList == sB.toList) = false := by
                  rw [beq_eq_false_iff_ne, Lib.toList_data, Lib.toList_data]
                  exact fun e => hsd (by
                    cases sA
                    cases sB
                    simp only [ByteArray.mk.injEq]
                    exact Array.toList_inj.1 e)
                have HNe := Lib.hid hsd
                clear hsd
                go_quiet (fail)
                go_wp2_with fail
                go_meet
                exact ⟨true, rfl, Lib.hid ⟨(fun h => by cases h), fun _ h => HNe.out h.2.1⟩, Lib.hid (below_drewN (Below.refl _ _) _)⟩
            | true =>
              go_quiet (fail)
              go_wp2_with fail
              go_meet
              exact ⟨true, rfl, Lib.hid ⟨(fun h => by cases h), fun _ h => by cases h.1⟩, Lib.hid (below_drewN (Below.refl _ _) _)⟩
          | true =>
            cases dB with
            | false =>
              go_quiet (fail)
              go_wp2_with fail
              go_meet
              exact ⟨true, rfl, Lib.hid ⟨(fun h => by cases h), fun _ h => by cases h.1⟩, Lib.hid (below_drewN (Below.refl _ _) _)⟩
            | true =>
              by_cases hsd : sA = sB
              · subst hsd
                by_cases hlk : lA = lB
                · subst hlk
                  go_quiet (fail)
                  go_wp2_with fail
                  go_meet
                  exact ⟨false, rfl, Lib.hid ⟨(fun _ => (by simp)), fun h => by cases h⟩, Lib.hid (below_drewN (Below.refl _ _) _)⟩
                · have hlb : (lA == lB) = false := by rw [beq_eq_false_iff_ne]; exact hlk
                  have hln : (lA != lB) = true := by rw [bne, hlb]; rfl
                  have HNe := Lib.hid hlk
                  go_quiet (fail)
                  go_wp2_with fail
                  go_meet
                  exact ⟨true, rfl, Lib.hid ⟨(fun h => by cases h), fun _ h => HNe.out h.2.2⟩, Lib.hid (below_drewN (Below.refl _ _) _)⟩
              · have hpb : (sA.toList == sB.toList) = false := by
                  rw [beq_eq_false_iff_ne, Lib.toList_data, Lib.toList_data]
                  exact fun e => hsd (by
                    cases sA
                    cases sB
                    simp only [ByteArray.mk.injEq]
                    exact Array.toList_inj.1 e)
                have HNe := Lib.hid hsd
                clear hsd
                go_quiet (fail)
                go_wp2_with fail
                go_meet
                exact ⟨true, rfl, Lib.hid ⟨(fun h => by cases h), fun _ h => HNe.out h.2.1⟩, Lib.hid (below_drewN (Below.refl _ _) _)⟩
        case rest =>
        obtain ⟨wy, rfl⟩ : ∃ v, v = wc := ⟨_, rfl⟩
        obtain ⟨bad, rfl, hbad, HBy⟩ := hcut
        have HB6 := Lib.hid (HB5.out.trans (HBy.out.mono HB5.out.size))
        have HBr6 := Lib.hid (HBr5.out.trans (HBy.out.mono HBr5.out.size))
        clear p0 p1 p2 p3 t0 t1 t2 t3
        cases bad with
        | true =>
          have HFin : Hid (TreeSaid S T a b w (.returned (.bool false)) wy) := Lib.hid ⟨false, rfl, HB6.out, fun V ρ hL hV hρ => by
            obtain ⟨e1, e2⟩ := HFr.out V ρ hL hV hρ
            have := hL.node n1 e1
            rw [e2] at this
            exact absurd (HNd.out this) (hbad.out.2 rfl)⟩
          go_wp2
          go_ret
          exact HFin.out
        | false =>
          obtain ⟨g1, gc1, p0, p1, p2, p3⟩ := HD1.out wy HB6.out
          cases dA with
          | false =>
            go_wp2
            go_roundw
            case rel => exact ⟨i + 1, by go_num, by omega, HBr6⟩
            case measure => simp [intOf]; omega
          | true =>
            have HCall := Lib.hid (Ih.out (a :: P) n1 m1 wy F G (by have := Hk.out; rw [List.length_cons]; omega) ⟨⟨x, HEn.out⟩, Hch.out.1⟩ (List.nodup_cons.2 ⟨Pz.chain_new tS Hch.out.1 Hch.out.2 HEn.out HdA.out.symm, Hch.out.2⟩) HmT.out (H1.out wy HB6.out) (H2.out wy HB6.out))
            go_wp2_with fail
            refine HCall.out.mono ?_
            rintro e w7 ⟨ok, rfl, hb7, hok⟩
            have HB7 := Lib.hid (HB6.out.trans (hb7.mono HB6.out.size))
            have HBr7 := Lib.hid (HBr6.out.trans (hb7.mono HBr6.out.size))
            have Hok := Lib.hid hok
            clear hb7 hok p0 p1 p2 p3
            cases ok with
            | true =>
              go_wp2
              go_roundw
              case rel => exact ⟨i + 1, by go_num, by omega, HBr7⟩
              case measure => simp [intOf]; omega
            | false =>
              have HFin : Hid (TreeSaid S T a b w (.returned (.bool false)) w7) := Lib.hid ⟨false, rfl, HB7.out, fun V ρ hL hV hρ => by
                obtain ⟨e1, e2⟩ := HFr.out V ρ hL hV hρ
                exact Hok.out V ρ hL e1 e2⟩
              go_wp2
              go_ret
              exact HFin.out
      · have i2 : (n : Int) ≤ i := by omega
        clear hlt
        go_wp2
        go_ret
        exact ⟨true, rfl, HB3.out.trans (HBr.out.mono HB3.out.size), fun _ _ _ _ _ => rfl⟩

end Go.Proofs.YtbpejjmfdhkfhaaGreatDoor

/- Two pairs of file systems in one memory; the program's Same tells whether two are alike. -/
namespace Go.Proofs.YtbpejjmfdhkfhaaGreatDoor
open Go.RowKit

/-- Same answers whether two are alike -/
theorem fsame_iff [Inhabited XBox] {K : Nat} {w : World} {S T : Pz.Fil} {r1 r2 : Nat} {F H : Nat → Prop} (h1 : RealF r1 S w F) (h2 : RealF r2 T w H) (gS : Pz.Good K S) (gT : Pz.Good K T) (hK : K ≤ 1000) (fS : Pz.Few S) :
    Calls Tryz.prog 10 #[.pointer (some ⟨r1, 0, none⟩), .pointer (some ⟨r2, 0, none⟩)] w fun e w' => ∃ b : Bool, e = .returned (.bool b) ∧ (b = true ↔ Pz.Alike S T) ∧ Below w.heap.size w w' := by
  obtain ⟨bo1, β, μ, q1⟩ := h1
  obtain ⟨bo2, γ, ν, q2⟩ := h2
  have s1 := q1.shape gS.ok
  by_cases ha : Pz.Alike S T
  · have ha' := ha
    obtain ⟨V, ρ, hL⟩ := ha'
    refine (fsame_any s1 (q2.shapeLike hL gS gT) (Nat.le_trans gS.e (by omega))).mono ?_
    rintro e w' ⟨rfl, hb⟩
    exact ⟨true, rfl, ⟨fun _ => ha, fun _ => rfl⟩, hb⟩
  · refine (fsaid_any s1 (q2.shape gT.ok) gS gT fS.i64).mono ?_
    rintro e w' ⟨b, rfl, h, hb⟩
    exact ⟨b, rfl, ⟨h, fun h => absurd h ha⟩, hb⟩

/-- and the document's beside the second -/
structure Four [Inhabited XBox] (w0 : World) (pr rr gr sr : Nat) (S R T U : Pz.Fil) (F G H I : Nat → Prop) (w : World) : Prop where
  three : Three w0 pr rr gr S R T F G H w
  ref : RefF sr U w I
  fi : ∀ k, I k → ¬ F k ∧ ¬ G k ∧ ¬ H k
  il : ∀ k, I k → k < w.heap.size ∧ w0.heap.size ≤ k
theorem Four.keep [Inhabited XBox] {w0 w w' : World} {pr rr gr sr : Nat} {S R T U : Pz.Fil} {F G H I : Nat → Prop} (h : Four w0 pr rr gr sr S R T U F G H I w) (hb : Below w.heap.size w w') : Four w0 pr rr gr sr S R T U F G H I w' :=
  { three := h.three.keep hb
    ref := (RefF.held _ _).below h.ref hb
    fi := h.fi
    il := fun k hk => ⟨Nat.lt_of_lt_of_le (h.il k hk).1 hb.size, (h.il k hk).2⟩ }
theorem Four.doReal [Inhabited XBox] {w0 w w' : World} {pr rr gr sr : Nat} {S S' R T U : Pz.Fil} {F G H I : Nat → Prop} (h : Four w0 pr rr gr sr S R T U F G H I w) (hi : RealF pr S' w' (Gr F w)) (ho : Only F w w') :
    Four w0 pr rr gr sr S' R T U (fun k => Gr F w k ∧ k < w'.heap.size) G H I w' :=
  { three := h.three.doReal hi ho
    ref := (RefF.held _ _).apart h.ref ho fun k _ hI hF => (h.fi k hI).1 hF
    fi := fun k hI => ⟨fun hk => hk.1.elim (h.fi k hI).1 fun e => absurd (h.il k hI).1 (by omega), (h.fi k hI).2⟩
    il := fun k hk => ⟨Nat.lt_of_lt_of_le (h.il k hk).1 ho.size, (h.il k hk).2⟩ }
theorem Four.doRef [Inhabited XBox] {w0 w w' : World} {pr rr gr sr : Nat} {S R R' T U : Pz.Fil} {F G H I : Nat → Prop} (h : Four w0 pr rr gr sr S R T U F G H I w) (hi : RefF rr R' w' (Gr G w)) (ho : Only G w w') :
    Four w0 pr rr gr sr S R' T U F (fun k => Gr G w k ∧ k < w'.heap.size) H I w' :=
  { three := h.three.doRef hi ho
    ref := (RefF.held _ _).apart h.ref ho fun k _ hI hF => (h.fi k hI).2.1 hF
    fi := fun k hI => ⟨(h.fi k hI).1, fun hk => hk.1.elim (h.fi k hI).2.1 fun e => absurd (h.il k hI).1 (by omega), (h.fi k hI).2.2⟩
    il := fun k hk => ⟨Nat.lt_of_lt_of_le (h.il k hk).1 ho.size, (h.il k hk).2⟩ }
theorem Four.doCopy [Inhabited XBox] {w0 w w' : World} {pr rr gr sr : Nat} {S R T T' U : Pz.Fil} {F G H I : Nat → Prop} (h : Four w0 pr rr gr sr S R T U F G H I w) (hi : RealF gr T' w' (Gr H w)) (ho : Only H w w') :
    Four w0 pr rr gr sr S R T' U F G (fun k => Gr H w k ∧ k < w'.heap.size) I w' :=
  { three := h.three.doCopy hi ho
    ref := (RefF.held _ _).apart h.ref ho fun k _ hI hF => (h.fi k hI).2.2 hF
    fi := fun k hI => ⟨(h.fi k hI).1, (h.fi k hI).2.1, fun hk => hk.1.elim (h.fi k hI).2.2 fun e => absurd (h.il k hI).1 (by omega)⟩
    il := fun k hk => ⟨Nat.lt_of_lt_of_le (h.il k hk).1 ho.size, (h.il k hk).2⟩ }
theorem Four.doRef2 [Inhabited XBox] {w0 w w' : World} {pr rr gr sr : Nat} {S R T U U' : Pz.Fil} {F G H I : Nat → Prop} (h : Four w0 pr rr gr sr S R T U F G H I w) (hi : RefF sr U' w' (Gr I w)) (ho : Only I w w') :
    Four w0 pr rr gr sr S R T U' F G H (fun k => Gr I w k ∧ k < w'.heap.size) w' := by
  have hz := h.three.both.below.size
  exact
  { three :=
    { both :=
      { real := (RealF.held _ _).apart h.three.both.real ho fun k _ hF hI => (h.fi k hI).1 hF
        ref := (RefF.held _ _).apart h.three.both.ref ho fun k _ hG hI => (h.fi k hI).2.1 hG
        apart := h.three.both.apart
        fl := fun k hk => ⟨Nat.lt_of_lt_of_le (h.three.both.fl k hk).1 ho.size, (h.three.both.fl k hk).2⟩
        gl := fun k hk => ⟨Nat.lt_of_lt_of_le (h.three.both.gl k hk).1 ho.size, (h.three.both.gl k hk).2⟩
        below := h.three.both.below.trans (ho.below hz fun k hk e => absurd (h.il k e).2 (by omega))
        x := h.three.both.x }
      copy := (RealF.held _ _).apart h.three.copy ho fun k _ hH hI => (h.fi k hI).2.2 hH
      fh := h.three.fh
      gh := h.three.gh
      hl := fun k hk => ⟨Nat.lt_of_lt_of_le (h.three.hl k hk).1 ho.size, (h.three.hl k hk).2⟩ }
    ref := (RefF.held _ _).mono hi fun k hk e => ⟨e, hk⟩
    fi := fun k hk => ⟨fun hF => hk.1.elim (fun e => (h.fi k e).1 hF) fun e => absurd (h.three.both.fl k hF).1 (by omega), fun hG => hk.1.elim (fun e => (h.fi k e).2.1 hG) fun e => absurd (h.three.both.gl k hG).1 (by omega), fun hH => hk.1.elim (fun e => (h.fi k e).2.2 hH) fun e => absurd (h.three.hl k hH).1 (by omega)⟩
    il := fun k hk => ⟨hk.2, hk.1.elim (fun e => (h.il k e).2) fun e => Nat.le_trans hz e⟩ }
theorem four_new [Inhabited XBox] {w0 w1 w2 : World} {pr rr gr sr : Nat} {S T : Pz.Fil} {F G H I : Nat → Prop} (h : Both w0 pr rr S S F G w1) (h2 : Both w1 gr sr T T H I w2) : Four w0 pr rr gr sr S S T T F G H I w2 := by
  have hx := h.x.lt
  have hz := h.below.size
  exact
  { three :=
    { both := h.keep h2.below
      copy := h2.real
      fh := fun k hF hH => (h2.fl k hH).2.elim id fun e => absurd (h.fl k hF).1 (by omega)
      gh := fun k hG hH => (h2.fl k hH).2.elim (fun e => absurd (h.gl k hG).2 (by omega)) fun e => absurd (h.gl k hG).1 (by omega)
      hl := fun k hk => ⟨(h2.fl k hk).1, (h2.fl k hk).2.imp id fun e => Nat.le_trans hz e⟩ }
    ref := h2.ref
    fi := fun k hI => ⟨fun hF => absurd (h.fl k hF).1 (by have := (h2.gl k hI).2; omega), fun hG => absurd (h.gl k hG).1 (by have := (h2.gl k hI).2; omega), fun hH => h2.apart k hH hI⟩
    il := fun k hk => ⟨(h2.gl k hk).1, Nat.le_trans hz (h2.gl k hk).2⟩ }

end Go.Proofs.YtbpejjmfdhkfhaaGreatDoor

/- Walks: the law PosixSame: two that were asked different things are the same just if nobody can see a difference. -/
namespace Go.Proofs.YtbpejjmfdhkfhaaGreatDoor
open Go.RowKit

theorem owns_slice {w : World} {B e k n : Nat} {v : Value} {xs : List Value} (h : w.ownsRow B e k v n xs) : ∃ A c, v = .slice A n c := by
  rcases h.2 with ⟨rfl, h0⟩ | ⟨b, cap, cur, rfl, _⟩
  · exact ⟨none, 0, by rw [h0]⟩
  · exact ⟨_, _, rfl⟩
def askC (a : Ask) : Array Value := #[.int .i64 a.cl, .int .i64 a.kind, .string a.p, .string a.p2, .int .i64 a.flags, .int .i64 a.fd, .int .i64 a.off, .int .i64 a.n, .string a.data, .bool a.drop]
def askV (a : Ask) : Value := .agg (askC a)
theorem ask9 {W : World} {g t : Nat} {a : Ask} (h : W.heap[g]? = some (.cells (askC a) t (0, 0))) : W.cell? ⟨g, 0, none⟩ = some (.int .i64 a.cl) ∧ W.cell? ⟨g, 1, none⟩ = some (.int .i64 a.kind) ∧ W.cell? ⟨g, 2, none⟩ = some (.string a.p) ∧ W.cell? ⟨g, 3, none⟩ = some (.string a.p2) ∧ W.cell? ⟨g, 4, none⟩ = some (.int .i64 a.flags) ∧ W.cell? ⟨g, 5, none⟩ = some (.int .i64 a.fd) ∧ W.cell? ⟨g, 6, none⟩ = some (.int .i64 a.off) ∧ W.cell? ⟨g, 7, none⟩ = some (.int .i64 a.n) ∧ W.cell? ⟨g, 8, none⟩ = some (.string a.data) :=
  ⟨cell_of_row W g 0 _ t _ h, cell_of_row W g 1 _ t _ h, cell_of_row W g 2 _ t _ h, cell_of_row W g 3 _ t _ h, cell_of_row W g 4 _ t _ h, cell_of_row W g 5 _ t _ h, cell_of_row W g 6 _ t _ h, cell_of_row W g 7 _ t _ h, cell_of_row W g 8 _ t _ h⟩

set_option maxHeartbeats 8000000 in
set_option maxRecDepth 100000 in
theorem law_same [Inhabited XBox] (A : Option Addr) (L : List Ask) (c : Nat) (a b l : Ask) (w : World) (hx : MxX w) (hlen : L.length ≤ 9223372036854775807) (hA : Asks w A L) (hI : ∀ a ∈ L, I64 a.cl ∧ I64 a.fd) (ha : I64 a.cl ∧ I64 a.fd) (hb : I64 b.cl ∧ I64 b.fd) (hl : I64 l.cl ∧ I64 l.fd) :
    Calls Tryz.prog 3 #[.slice A L.length c, askV a, askV b, askV l] w fun e w' => e = .returned (.bool true) ∧ Below w.heap.size w w' := by
  obtain ⟨wb, hwb⟩ : ∃ v, v = ((w.alloc (.cells (askC a) 26)).alloc (.cells (askC b) 26)).alloc (.cells (askC l) 26) := ⟨_, rfl⟩
  have hbb : Below w.heap.size w wb := by
    rw [hwb]
    exact (((Below.refl _ _).alloc (Nat.le_refl _) _).alloc (by simp) _).alloc (by simp; omega) _
  have hk1 : wb.heap[w.heap.size]? = some (.cells (askC a) 26 (0, 0)) := by
    rw [hwb, Below.heap_alloc _ _ _ (by simp; omega), Below.heap_alloc _ _ _ (by simp)]
    exact heap_alloc_new _ _
  have hk2 : wb.heap[w.heap.size + 1]? = some (.cells (askC b) 26 (0, 0)) := by
    rw [hwb, Below.heap_alloc _ _ _ (by simp)]
    have := heap_alloc_new (w.alloc (.cells (askC a) 26)) (.cells (askC b) 26)
    rw [show (w.alloc (.cells (askC a) 26)).heap.size = w.heap.size + 1 by simp] at this
    exact this
  have hk3 : wb.heap[w.heap.size + 1 + 1]? = some (.cells (askC l) 26 (0, 0)) := by
    rw [hwb]
    have := heap_alloc_new ((w.alloc (.cells (askC a) 26)).alloc (.cells (askC b) 26)) (.cells (askC l) 26)
    rw [show ((w.alloc (.cells (askC a) 26)).alloc (.cells (askC b) 26)).heap.size = w.heap.size + 1 + 1 by simp] at this
    exact this
  have HK1 := Lib.hid fun W (hW : Below wb.heap.size wb W) => ask9 ((hW.block _ (lt_of_get hk1)).trans hk1)
  have HK2 := Lib.hid fun W (hW : Below wb.heap.size wb W) => ask9 ((hW.block _ (lt_of_get hk2)).trans hk2)
  have HK3 := Lib.hid fun W (hW : Below wb.heap.size wb W) => ask9 ((hW.block _ (lt_of_get hk3)).trans hk3)
  have HP := Lib.hid (played_any A L c 20 wb (by omega) (hx.grow hbb) hlen (hA.keep hbb) hI)
  have HP2 := Lib.hid fun W (hW : Below wb.heap.size wb W) (hm : MxX W) => played_any A L c 20 W (by omega) hm hlen ((hA.keep hbb).keep hW) hI
  have HWb := Lib.hid hwb
  have HBb := Lib.hid hbb
  have HCa := Lib.hid ha
  have HCb := Lib.hid hb
  have HCl := Lib.hid hl
  obtain ⟨b1, hb1⟩ : ∃ n, n = w.heap.size := ⟨_, rfl⟩
  rw [← hb1] at HK1 HK2 HK3
  have Hb1 := Lib.hid hb1.symm
  clear hx hA hI hwb hbb hk1 hk2 hk3 ha hb hl hb1
  unfold askV askC
  unfold askC at HWb
  go_enter Tryz.func3, Tryz.ntmps3
  go_upto_region 1 with fail
  rw [← HWb.out]
  rw [Hb1.out]
  go_wp2_with fail
  refine HP.out.mono ?_
  rintro e w1 ⟨pr, rr, S, F, G, rfl, hB, hG, hF⟩
  have HB1 := Lib.hid hB
  have HGS := Lib.hid (And.intro hG hF)
  have HP3 := Lib.hid (HP2.out w1 hB.below hB.real.mxx)
  clear hB hG hF HP HP2
  go_wp2_with fail
  refine HP3.out.mono ?_
  rintro e w2 ⟨gr, sr, T, H, J, rfl, hB, hG, hF⟩
  have HF2 := Lib.hid (four_new HB1.out hB)
  have HGT := Lib.hid (And.intro hG hF)
  clear hB hG hF HP3 HB1
  obtain ⟨c0, c1, c2, c3, c4, c5, c6, c7, c8⟩ := HK1.out w2 HF2.out.three.both.below
  have hs0 : w2.drew.cell? ⟨b1, 0, none⟩ = some (.int .i64 a.cl) ∧ w2.drew.cell? ⟨b1, 1, none⟩ = some (.int .i64 a.kind) ∧ w2.drew.cell? ⟨b1, 2, none⟩ = some (.string a.p) ∧ w2.drew.cell? ⟨b1, 3, none⟩ = some (.string a.p2) ∧ w2.drew.cell? ⟨b1, 4, none⟩ = some (.int .i64 a.flags) ∧ w2.drew.cell? ⟨b1, 5, none⟩ = some (.int .i64 a.fd) ∧ w2.drew.cell? ⟨b1, 6, none⟩ = some (.int .i64 a.off) ∧ w2.drew.cell? ⟨b1, 7, none⟩ = some (.int .i64 a.n) ∧ w2.drew.cell? ⟨b1, 8, none⟩ = some (.string a.data) := HK1.out w2.drew (HF2.out.keep (Below.refl _ w2).drew).three.both.below
  have HRe := Lib.hid fun W K (hW : RealF pr S W K) => fdo_any pr S a.cl a.kind a.flags a.fd a.off a.n (cutB a.p 60) (cutB a.p2 60) (cutB a.data 100) W K HCa.out.1 HCa.out.2 (Nat.le_trans (cutB_size _ _) (by omega)) (Nat.le_trans (cutB_size _ _) (by omega)) (HGS.out.1.mono (by omega)) hW
  have HCut := Lib.hid fun W => cut_any a.kind a.flags a.fd a.off a.n a.p a.p2 a.data W
  have HDr := Lib.hid (HF2.out.keep (Below.refl _ w2).drew)
  have HPl : Hid (Pz.doA S a.cl a.kind (cutB a.p 60).data.toList (cutB a.p2 60).data.toList a.flags a.fd a.off a.n (cutB a.data 100).data.toList = Pz.plainA S a) := Lib.hid rfl
  rw [HPl.out] at HRe
  obtain ⟨R3, hR⟩ : ∃ R, R = Pz.plainA S a := ⟨_, rfl⟩
  rw [← hR] at HRe
  have HR3 := Lib.hid hR
  unfold callV at HRe HCut
  clear hR HPl
  go_upto_region 5 with fail
  go_region_held3 (fun w' => w'.cell? ⟨b1, 0, none⟩ = some (.int .i64 a.cl) ∧ w'.cell? ⟨b1, 1, none⟩ = some (.int .i64 a.kind) ∧ w'.cell? ⟨b1, 2, none⟩ = some (.string a.p) ∧ w'.cell? ⟨b1, 3, none⟩ = some (.string a.p2) ∧ w'.cell? ⟨b1, 4, none⟩ = some (.int .i64 a.flags) ∧ w'.cell? ⟨b1, 5, none⟩ = some (.int .i64 a.fd) ∧ w'.cell? ⟨b1, 6, none⟩ = some (.int .i64 a.off) ∧ w'.cell? ⟨b1, 7, none⟩ = some (.int .i64 a.n) ∧ w'.cell? ⟨b1, 8, none⟩ = some (.string a.data)) (first | exact hs0 | exact hs5 | exact hs6 | go_keep) (first | (go_at_call 8; refine (HCut.out _).mono ?_; rintro e w5 ⟨rfl, hb5⟩; have HF5 := Lib.hid (HDr.out.keep hb5); have hs5 := HK1.out w5 HF5.out.three.both.below) | (go_at_call 7; refine (HRe.out _ _ HF5.out.three.both.real).mono ?_; rintro e w3 ⟨A6, k6, rfl, -, hi6, ho6⟩; have HF3 := Lib.hid (HF5.out.doReal hi6 ho6); have hs6 := HK1.out w3 HF3.out.three.both.below))
  try simp only [Exit.then]
  clear hs0 hs5 hs6 c0 c1 c2 c3 c4 c5 c6 c7 c8 hi6 ho6 HRe HCut HDr
  obtain ⟨c0, c1, c2, c3, c4, c5, c6, c7, c8⟩ := HK1.out w3 HF3.out.three.both.below
  have hs0 : w3.drew.cell? ⟨b1, 0, none⟩ = some (.int .i64 a.cl) ∧ w3.drew.cell? ⟨b1, 1, none⟩ = some (.int .i64 a.kind) ∧ w3.drew.cell? ⟨b1, 2, none⟩ = some (.string a.p) ∧ w3.drew.cell? ⟨b1, 3, none⟩ = some (.string a.p2) ∧ w3.drew.cell? ⟨b1, 4, none⟩ = some (.int .i64 a.flags) ∧ w3.drew.cell? ⟨b1, 5, none⟩ = some (.int .i64 a.fd) ∧ w3.drew.cell? ⟨b1, 6, none⟩ = some (.int .i64 a.off) ∧ w3.drew.cell? ⟨b1, 7, none⟩ = some (.int .i64 a.n) ∧ w3.drew.cell? ⟨b1, 8, none⟩ = some (.string a.data) := HK1.out w3.drew (HF3.out.keep (Below.refl _ w3).drew).three.both.below
  have HRe := Lib.hid fun W K (hW : RefF rr S W K) => rdo_any rr S a.cl a.kind a.flags a.fd a.off a.n (cutB a.p 60) (cutB a.p2 60) (cutB a.data 100) W K (Nat.le_trans (cutB_size _ _) (by omega)) (Nat.le_trans (cutB_size _ _) (by omega)) (HGS.out.1.mono (by omega)) hW
  have HCut := Lib.hid fun W => cut_any a.kind a.flags a.fd a.off a.n a.p a.p2 a.data W
  have HDr := Lib.hid (HF3.out.keep (Below.refl _ w3).drew)
  have HPl : Hid (Pz.doA S a.cl a.kind (cutB a.p 60).data.toList (cutB a.p2 60).data.toList a.flags a.fd a.off a.n (cutB a.data 100).data.toList = Pz.plainA S a) := Lib.hid rfl
  rw [HPl.out] at HRe
  obtain ⟨R4, hR⟩ : ∃ R, R = Pz.plainA S a := ⟨_, rfl⟩
  rw [← hR] at HRe
  have HR4 := Lib.hid hR
  unfold callV at HRe HCut
  clear hR HPl
  go_upto_region 6 with fail
  go_region_held3 (fun w' => w'.cell? ⟨b1, 0, none⟩ = some (.int .i64 a.cl) ∧ w'.cell? ⟨b1, 1, none⟩ = some (.int .i64 a.kind) ∧ w'.cell? ⟨b1, 2, none⟩ = some (.string a.p) ∧ w'.cell? ⟨b1, 3, none⟩ = some (.string a.p2) ∧ w'.cell? ⟨b1, 4, none⟩ = some (.int .i64 a.flags) ∧ w'.cell? ⟨b1, 5, none⟩ = some (.int .i64 a.fd) ∧ w'.cell? ⟨b1, 6, none⟩ = some (.int .i64 a.off) ∧ w'.cell? ⟨b1, 7, none⟩ = some (.int .i64 a.n) ∧ w'.cell? ⟨b1, 8, none⟩ = some (.string a.data)) (first | exact hs0 | exact hs5 | exact hs6 | go_keep) (first | (go_at_call 8; refine (HCut.out _).mono ?_; rintro e w5 ⟨rfl, hb5⟩; have HF5 := Lib.hid (HDr.out.keep hb5); have hs5 := HK1.out w5 HF5.out.three.both.below) | (go_at_call 9; refine (HRe.out _ _ HF5.out.three.both.ref).mono ?_; rintro e w4 ⟨A6, k6, rfl, -, hi6, ho6⟩; have HF4 := Lib.hid (HF5.out.doRef hi6 ho6); have hs6 := HK1.out w4 HF4.out.three.both.below))
  try simp only [Exit.then]
  clear hs0 hs5 hs6 c0 c1 c2 c3 c4 c5 c6 c7 c8 hi6 ho6 HRe HCut HDr
  obtain ⟨c0, c1, c2, c3, c4, c5, c6, c7, c8⟩ := HK2.out w4 HF4.out.three.both.below
  have hs0 : w4.drew.cell? ⟨b1 + 1, 0, none⟩ = some (.int .i64 b.cl) ∧ w4.drew.cell? ⟨b1 + 1, 1, none⟩ = some (.int .i64 b.kind) ∧ w4.drew.cell? ⟨b1 + 1, 2, none⟩ = some (.string b.p) ∧ w4.drew.cell? ⟨b1 + 1, 3, none⟩ = some (.string b.p2) ∧ w4.drew.cell? ⟨b1 + 1, 4, none⟩ = some (.int .i64 b.flags) ∧ w4.drew.cell? ⟨b1 + 1, 5, none⟩ = some (.int .i64 b.fd) ∧ w4.drew.cell? ⟨b1 + 1, 6, none⟩ = some (.int .i64 b.off) ∧ w4.drew.cell? ⟨b1 + 1, 7, none⟩ = some (.int .i64 b.n) ∧ w4.drew.cell? ⟨b1 + 1, 8, none⟩ = some (.string b.data) := HK2.out w4.drew (HF4.out.keep (Below.refl _ w4).drew).three.both.below
  have HRe := Lib.hid fun W K (hW : RealF gr T W K) => fdo_any gr T b.cl b.kind b.flags b.fd b.off b.n (cutB b.p 60) (cutB b.p2 60) (cutB b.data 100) W K HCb.out.1 HCb.out.2 (Nat.le_trans (cutB_size _ _) (by omega)) (Nat.le_trans (cutB_size _ _) (by omega)) (HGT.out.1.mono (by omega)) hW
  have HCut := Lib.hid fun W => cut_any b.kind b.flags b.fd b.off b.n b.p b.p2 b.data W
  have HDr := Lib.hid (HF4.out.keep (Below.refl _ w4).drew)
  have HPl : Hid (Pz.doA T b.cl b.kind (cutB b.p 60).data.toList (cutB b.p2 60).data.toList b.flags b.fd b.off b.n (cutB b.data 100).data.toList = Pz.plainA T b) := Lib.hid rfl
  rw [HPl.out] at HRe
  obtain ⟨R5, hR⟩ : ∃ R, R = Pz.plainA T b := ⟨_, rfl⟩
  rw [← hR] at HRe
  have HR5 := Lib.hid hR
  unfold callV at HRe HCut
  clear hR HPl
  go_upto_region 7 with fail
  go_region_held3 (fun w' => w'.cell? ⟨b1 + 1, 0, none⟩ = some (.int .i64 b.cl) ∧ w'.cell? ⟨b1 + 1, 1, none⟩ = some (.int .i64 b.kind) ∧ w'.cell? ⟨b1 + 1, 2, none⟩ = some (.string b.p) ∧ w'.cell? ⟨b1 + 1, 3, none⟩ = some (.string b.p2) ∧ w'.cell? ⟨b1 + 1, 4, none⟩ = some (.int .i64 b.flags) ∧ w'.cell? ⟨b1 + 1, 5, none⟩ = some (.int .i64 b.fd) ∧ w'.cell? ⟨b1 + 1, 6, none⟩ = some (.int .i64 b.off) ∧ w'.cell? ⟨b1 + 1, 7, none⟩ = some (.int .i64 b.n) ∧ w'.cell? ⟨b1 + 1, 8, none⟩ = some (.string b.data)) (first | exact hs0 | exact hs5 | exact hs6 | go_keep) (first | (go_at_call 8; refine (HCut.out _).mono ?_; rintro e w5 ⟨rfl, hb5⟩; have HF5 := Lib.hid (HDr.out.keep hb5); have hs5 := HK2.out w5 HF5.out.three.both.below) | (go_at_call 7; refine (HRe.out _ _ HF5.out.three.copy).mono ?_; rintro e w5 ⟨A6, k6, rfl, -, hi6, ho6⟩; have HF5 := Lib.hid (HF5.out.doCopy hi6 ho6); have hs6 := HK2.out w5 HF5.out.three.both.below))
  try simp only [Exit.then]
  clear hs0 hs5 hs6 c0 c1 c2 c3 c4 c5 c6 c7 c8 hi6 ho6 HRe HCut HDr
  obtain ⟨c0, c1, c2, c3, c4, c5, c6, c7, c8⟩ := HK2.out w5 HF5.out.three.both.below
  have hs0 : w5.drew.cell? ⟨b1 + 1, 0, none⟩ = some (.int .i64 b.cl) ∧ w5.drew.cell? ⟨b1 + 1, 1, none⟩ = some (.int .i64 b.kind) ∧ w5.drew.cell? ⟨b1 + 1, 2, none⟩ = some (.string b.p) ∧ w5.drew.cell? ⟨b1 + 1, 3, none⟩ = some (.string b.p2) ∧ w5.drew.cell? ⟨b1 + 1, 4, none⟩ = some (.int .i64 b.flags) ∧ w5.drew.cell? ⟨b1 + 1, 5, none⟩ = some (.int .i64 b.fd) ∧ w5.drew.cell? ⟨b1 + 1, 6, none⟩ = some (.int .i64 b.off) ∧ w5.drew.cell? ⟨b1 + 1, 7, none⟩ = some (.int .i64 b.n) ∧ w5.drew.cell? ⟨b1 + 1, 8, none⟩ = some (.string b.data) := HK2.out w5.drew (HF5.out.keep (Below.refl _ w5).drew).three.both.below
  have HRe := Lib.hid fun W K (hW : RefF sr T W K) => rdo_any sr T b.cl b.kind b.flags b.fd b.off b.n (cutB b.p 60) (cutB b.p2 60) (cutB b.data 100) W K (Nat.le_trans (cutB_size _ _) (by omega)) (Nat.le_trans (cutB_size _ _) (by omega)) (HGT.out.1.mono (by omega)) hW
  have HCut := Lib.hid fun W => cut_any b.kind b.flags b.fd b.off b.n b.p b.p2 b.data W
  have HDr := Lib.hid (HF5.out.keep (Below.refl _ w5).drew)
  have HPl : Hid (Pz.doA T b.cl b.kind (cutB b.p 60).data.toList (cutB b.p2 60).data.toList b.flags b.fd b.off b.n (cutB b.data 100).data.toList = Pz.plainA T b) := Lib.hid rfl
  rw [HPl.out] at HRe
  obtain ⟨R6, hR⟩ : ∃ R, R = Pz.plainA T b := ⟨_, rfl⟩
  rw [← hR] at HRe
  have HR6 := Lib.hid hR
  unfold callV at HRe HCut
  clear hR HPl
  go_upto_region 8 with fail
  go_region_held3 (fun w' => w'.cell? ⟨b1 + 1, 0, none⟩ = some (.int .i64 b.cl) ∧ w'.cell? ⟨b1 + 1, 1, none⟩ = some (.int .i64 b.kind) ∧ w'.cell? ⟨b1 + 1, 2, none⟩ = some (.string b.p) ∧ w'.cell? ⟨b1 + 1, 3, none⟩ = some (.string b.p2) ∧ w'.cell? ⟨b1 + 1, 4, none⟩ = some (.int .i64 b.flags) ∧ w'.cell? ⟨b1 + 1, 5, none⟩ = some (.int .i64 b.fd) ∧ w'.cell? ⟨b1 + 1, 6, none⟩ = some (.int .i64 b.off) ∧ w'.cell? ⟨b1 + 1, 7, none⟩ = some (.int .i64 b.n) ∧ w'.cell? ⟨b1 + 1, 8, none⟩ = some (.string b.data)) (first | exact hs0 | exact hs5 | exact hs6 | go_keep) (first | (go_at_call 8; refine (HCut.out _).mono ?_; rintro e w5 ⟨rfl, hb5⟩; have HF5 := Lib.hid (HDr.out.keep hb5); have hs5 := HK2.out w5 HF5.out.three.both.below) | (go_at_call 9; refine (HRe.out _ _ HF5.out.ref).mono ?_; rintro e w6 ⟨A6, k6, rfl, -, hi6, ho6⟩; have HF6 := Lib.hid (HF5.out.doRef2 hi6 ho6); have hs6 := HK2.out w6 HF6.out.three.both.below))
  try simp only [Exit.then]
  clear hs0 hs5 hs6 c0 c1 c2 c3 c4 c5 c6 c7 c8 hi6 ho6 HRe HCut HDr
  have HE3 : Hid (R3.1 = R4.1) := Lib.hid (by rw [HR3.out, HR4.out])
  have HE5 : Hid (R5.1 = R6.1) := Lib.hid (by rw [HR5.out, HR6.out])
  have HG1 : Hid (Pz.Good 203 R3.1 ∧ Pz.FewT R3.1) := Lib.hid (by rw [HR3.out]; exact Pz.do_goodT HGS.out.1 HGS.out.2 _ _ _ _ _ _ _ _ _)
  have HG2 : Hid (Pz.Good 203 R5.1 ∧ Pz.FewT R5.1) := Lib.hid (by rw [HR5.out]; exact Pz.do_goodT HGT.out.1 HGT.out.2 _ _ _ _ _ _ _ _ _)
  rw [← HE3.out, ← HE5.out] at HF6
  obtain ⟨S1, hS1⟩ : ∃ S1, S1 = R3.1 := ⟨_, rfl⟩
  obtain ⟨T1, hT1⟩ : ∃ T1, T1 = R5.1 := ⟨_, rfl⟩
  rw [← hS1] at HF6 HG1
  rw [← hT1] at HF6 HG2
  clear hS1 hT1 HE3 HE5 HR3 HR4 HR5 HR6 HF2 HF3 HF4 HF5 HGS HGT
  have HS1 := Lib.hid (fsame_iff HF6.out.three.both.real HF6.out.three.copy HG1.out.1 HG2.out.1 (by omega) HG1.out.2.few)
  go_upto_region 9 with fail
  go_wp2_with fail
  refine HS1.out.mono ?_
  rintro e w7 ⟨s1, rfl, hs1, hb7⟩
  have HF7 := Lib.hid (HF6.out.keep hb7)
  have HS2 := Lib.hid (fsame_iff HF7.out.three.copy HF7.out.three.both.real HG2.out.1 HG1.out.1 (by omega) HG2.out.2.few)
  have Hs1 := Lib.hid hs1
  clear hb7 HS1 hs1
  go_wp2_with fail
  refine HS2.out.mono ?_
  rintro e w8 ⟨s2, rfl, hs2, hb8⟩
  have HF8 := Lib.hid (HF7.out.keep hb8)
  obtain rfl : s2 = s1 := Bool.eq_iff_iff.2 (hs2.trans (Iff.trans ⟨fun h => h.symm HG2.out.1 HG1.out.1, fun h => h.symm HG1.out.1 HG2.out.1⟩ Hs1.out.symm))
  clear hb8 HS2 hs2
  have HTr := Lib.hid (sametree_any rr sr (HG1.out.1.mono (by omega)) (HG2.out.1.mono (by omega)) HG1.out.2.tree S1.N.length [] 0 0 w8 _ _ (by simp) (show Pz.Chain S1 [0] from rfl) (by simp) HG2.out.1.ok.root HF8.out.three.both.ref HF8.out.ref)
  have HN1 := Lib.hid fun W (hW : Below w8.heap.size w8 W) => (HF8.out.keep hW).three.both.ref.is
  have HN2 := Lib.hid fun W (hW : Below w8.heap.size w8 W) => (HF8.out.keep hW).ref.is
  have hne : (s2 != s2) = false := by cases s2 <;> rfl
  have hnb : (s2 == s2) = true := by cases s2 <;> rfl
  go_upto_region 12 with fail
  go_wp2_with fail
  refine HTr.out.mono ?_
  rintro e w9 ⟨ok, rfl, hb9, hok⟩
  have HF9 := Lib.hid (HF8.out.keep hb9)
  obtain ⟨vN, vE, vO, q1⟩ := HN1.out w9 hb9
  obtain ⟨uN, uE, uO, q2⟩ := HN2.out w9 hb9
  have Hok := Lib.hid hok
  clear hb9 hok HTr HN1 HN2
  obtain ⟨n1, hn1⟩ : ∃ n, n = S1.O.length := ⟨_, rfl⟩
  obtain ⟨n2, hn2⟩ : ∃ n, n = T1.O.length := ⟨_, rfl⟩
  have p1 := q1.oO
  have p2 := q2.oO
  have f1 := q1.c2
  have f2 := q2.c2
  have HLen : Hid (s2 = true → ok = true ∧ n1 = n2) := Lib.hid fun h => by
    obtain ⟨V, ρ, hL⟩ := Hs1.out.1 h
    refine ⟨Hok.out V ρ hL hL.v0 hL.r0, ?_⟩
    rw [hn1, hn2]
    exact (Pz.like_olen hL HG1.out.1.one HG2.out.1.one).symm
  rw [← hn1] at p1
  rw [← hn2] at p2
  obtain ⟨A1, k1, rfl⟩ := owns_slice p1
  obtain ⟨A2, k2, rfl⟩ := owns_slice p2
  clear p1 p2 hn1 hn2 q1 q2
  have HLv := Lib.hid fun W (hW : Below w9.heap.size w9 W) => lives_any W (HF9.out.keep hW).three.both.real.mxx
  have HEnd : Hid (∀ W W' : World, Below w9.heap.size w9 W → Below W.heap.size W W' → Below w.heap.size w W') := Lib.hid fun W W' h1 h2 => HBb.out.trans ((HF9.out.three.both.below.trans ((h1.trans (h2.mono h1.size)).mono HF9.out.three.both.below.size)).mono HBb.out.size)
  cases s2 with
  | false =>
    go_upto_region 13 with fail
    go_cut [90] from 76 to 90 (fun s90 wx => (∃ bad : Bool, s90 = .bool bad) ∧ Hid (Below w9.heap.size w9 wx))
    case first =>
      cases ok with
      | false =>
        go_quiet (fail)
        go_wp2_with fail
        go_meet
        exact ⟨⟨_, rfl⟩, Lib.hid (below_drewN (Below.refl _ _) _)⟩
      | true =>
        by_cases hq : n1 = n2
        · subst hq
          go_quiet (fail)
          go_wp2_with fail
          go_meet
          exact ⟨⟨_, rfl⟩, Lib.hid (below_drewN (Below.refl _ _) _)⟩
        · have hlb : ((n1 : Int) == (n2 : Int)) = false := by rw [beq_eq_false_iff_ne]; omega
          have hln : ((n1 : Int) != (n2 : Int)) = true := by rw [bne, hlb]; rfl
          clear hq
          go_quiet (fail)
          go_wp2_with fail
          go_meet
          exact ⟨⟨_, rfl⟩, Lib.hid (below_drewN (Below.refl _ _) _)⟩
    case rest =>
    obtain ⟨wy, rfl⟩ : ∃ v, v = wc := ⟨_, rfl⟩
    obtain ⟨⟨bad, rfl⟩, HBy⟩ := hcut
    clear f1 f2
    cases bad with
    | true =>
      go_wp2_with fail
      refine (HLv.out _ HBy.out).mono ?_
      rintro e wz ⟨rfl, hbz⟩
      go_wp2
      go_ret
      exact ⟨rfl, HEnd.out _ _ HBy.out hbz⟩
    | false =>
      go_wp2_with fail
      refine (HLv.out _ HBy.out).mono ?_
      rintro e wz ⟨rfl, hbz⟩
      go_wp2
      go_ret
      exact ⟨rfl, HEnd.out _ _ HBy.out hbz⟩
  | true =>
    obtain ⟨rfl, rfl⟩ := HLen.out rfl
    go_upto_region 13 with fail
    go_cut [90] from 76 to 90 (fun s90 wx => s90 = .bool false ∧ Hid (Below w9.heap.size w9 wx))
    case first =>
      go_quiet (fail)
      go_wp2_with fail
      go_meet
      exact ⟨rfl, Lib.hid (below_drewN (Below.refl _ _) _)⟩
    case rest =>
    obtain ⟨wy, rfl⟩ : ∃ v, v = wc := ⟨_, rfl⟩
    obtain ⟨rfl, HBy⟩ := hcut
    have HFy := Lib.hid (HF9.out.keep HBy.out)
    have HAl := Lib.hid (Hs1.out.1 (by simp))
    obtain ⟨c0, c1, c2, c3, c4, c5, c6, c7, c8⟩ := HK3.out wy HFy.out.three.both.below
    clear f1 f2 HLv HEnd HLen Hok
    go_upto_region 17 with fail
    go_wp2_with fail
    refine (cut_any l.kind l.flags l.fd l.off l.n l.p l.p2 l.data wy).mono ?_
    rintro e w10 ⟨rfl, hb10⟩
    have HF10 := Lib.hid (HFy.out.keep hb10)
    obtain ⟨w11, hw11⟩ : ∃ v, v = w10.alloc (.cells #[.int .i64 l.kind, .string (cutB l.p 60), .string (cutB l.p2 60), .int .i64 l.flags, .int .i64 l.fd, .int .i64 l.off, .int .i64 l.n, .string (cutB l.data 100)] 24) := ⟨_, rfl⟩
    have hb11 : Below w10.heap.size w10 w11 := by rw [hw11]; exact (Below.refl _ _).alloc (Nat.le_refl _) _
    have h11 : w11.heap[w10.heap.size]? = some (.cells #[.int .i64 l.kind, .string (cutB l.p 60), .string (cutB l.p2 60), .int .i64 l.flags, .int .i64 l.fd, .int .i64 l.off, .int .i64 l.n, .string (cutB l.data 100)] 24 (0, 0)) := by
      rw [hw11]; exact heap_alloc_new _ _
    have HW11 := Lib.hid hw11
    have HF11 := Lib.hid (HF10.out.keep hb11)
    have HH11 := Lib.hid h11
    have HLt : Hid (w10.heap.size < w11.heap.size) := Lib.hid (lt_of_get h11)
    have k0 := cell_of_row w11 _ 0 _ _ _ h11
    have d0 := (HK3.out w11 HF11.out.three.both.below).1
    have hs0 : w11.drew.cell? ⟨b1 + 1 + 1, 0, none⟩ = some (.int .i64 l.cl) ∧ w11.drew.cell? ⟨w10.heap.size, 0, none⟩ = some (.int .i64 l.kind) ∧ w11.drew.cell? ⟨w10.heap.size, 1, none⟩ = some (.string (cutB l.p 60)) ∧ w11.drew.cell? ⟨w10.heap.size, 2, none⟩ = some (.string (cutB l.p2 60)) ∧ w11.drew.cell? ⟨w10.heap.size, 3, none⟩ = some (.int .i64 l.flags) ∧ w11.drew.cell? ⟨w10.heap.size, 4, none⟩ = some (.int .i64 l.fd) ∧ w11.drew.cell? ⟨w10.heap.size, 5, none⟩ = some (.int .i64 l.off) ∧ w11.drew.cell? ⟨w10.heap.size, 6, none⟩ = some (.int .i64 l.n) ∧ w11.drew.cell? ⟨w10.heap.size, 7, none⟩ = some (.string (cutB l.data 100)) := ⟨(HK3.out w11 HF11.out.three.both.below).1, call8 h11⟩
    clear hb10 hw11 hb11 h11 c0 c1 c2 c3 c4 c5 c6 c7 c8
    have HRe := Lib.hid fun W K (hW : RealF pr S1 W K) => fdo_any pr S1 l.cl l.kind l.flags l.fd l.off l.n (cutB l.p 60) (cutB l.p2 60) (cutB l.data 100) W K HCl.out.1 HCl.out.2 (Nat.le_trans (cutB_size _ _) (by omega)) (Nat.le_trans (cutB_size _ _) (by omega)) (HG1.out.1.mono (by omega)) hW
    have HRg := Lib.hid fun W K (hW : RealF gr T1 W K) => fdo_any gr T1 l.cl l.kind l.flags l.fd l.off l.n (cutB l.p 60) (cutB l.p2 60) (cutB l.data 100) W K HCl.out.1 HCl.out.2 (Nat.le_trans (cutB_size _ _) (by omega)) (Nat.le_trans (cutB_size _ _) (by omega)) (HG2.out.1.mono (by omega)) hW
    have HP1 : Hid (Pz.doA S1 l.cl l.kind (cutB l.p 60).data.toList (cutB l.p2 60).data.toList l.flags l.fd l.off l.n (cutB l.data 100).data.toList = Pz.plainA S1 l) := Lib.hid rfl
    have HP2 : Hid (Pz.doA T1 l.cl l.kind (cutB l.p 60).data.toList (cutB l.p2 60).data.toList l.flags l.fd l.off l.n (cutB l.data 100).data.toList = Pz.plainA T1 l) := Lib.hid rfl
    rw [HP1.out] at HRe
    rw [HP2.out] at HRg
    obtain ⟨R, hR⟩ : ∃ R, R = Pz.plainA S1 l := ⟨_, rfl⟩
    obtain ⟨Q, hQ⟩ : ∃ Q, Q = Pz.plainA T1 l := ⟨_, rfl⟩
    have HAft : Hid (R.2 = Q.2 ∧ Pz.Alike R.1 Q.1 ∧ Pz.Good 206 R.1 ∧ Pz.Good 206 Q.1 ∧ Pz.FewT R.1 ∧ R.2.names.length ≤ 1000000) := Lib.hid (by
      obtain ⟨V, ρ, hL⟩ := HAl.out
      have hl := Pz.do_like hL HG1.out.1 HG2.out.1 l.cl l.kind (cutB l.p 60).data.toList (cutB l.p2 60).data.toList l.flags l.fd l.off l.n (cutB l.data 100).data.toList
      rw [HP1.out, HP2.out, ← hR, ← hQ] at hl
      have g1 := Pz.do_goodT HG1.out.1 HG1.out.2 l.cl l.kind (cutB l.p 60).data.toList (cutB l.p2 60).data.toList l.flags l.fd l.off l.n (cutB l.data 100).data.toList
      have g2 := Pz.do_goodT HG2.out.1 HG2.out.2 l.cl l.kind (cutB l.p 60).data.toList (cutB l.p2 60).data.toList l.flags l.fd l.off l.n (cutB l.data 100).data.toList
      have hn := Pz.do_names S1 l.cl l.kind (cutB l.p 60).data.toList (cutB l.p2 60).data.toList l.flags l.fd l.off l.n (cutB l.data 100).data.toList
      rw [HP1.out, ← hR] at g1 hn
      rw [HP2.out, ← hQ] at g2
      have := HG1.out.1.e
      exact ⟨hl.1, hl.2, g1.1, g2.1, g1.2, by omega⟩)
    rw [← hR] at HRe
    rw [← hQ] at HRg
    have HQ2 := Lib.hid HAft.out.1.symm
    obtain ⟨Q1, q⟩ := Q
    obtain ⟨R1, r⟩ := R
    obtain rfl : q = r := HQ2.out
    clear hR hQ HP1 HP2 HQ2
    unfold callV at HRe HRg
    have HD11 := Lib.hid (HF11.out.keep (Below.refl _ w11).drew)
    unfold callV
    go_upto_region 18 with fail
    rw [← HW11.out]
    refine wp_region_held_drew (S := (fun w' => w'.cell? ⟨b1 + 1 + 1, 0, none⟩ = some (.int .i64 l.cl) ∧ w'.cell? ⟨w10.heap.size, 0, none⟩ = some (.int .i64 l.kind) ∧ w'.cell? ⟨w10.heap.size, 1, none⟩ = some (.string (cutB l.p 60)) ∧ w'.cell? ⟨w10.heap.size, 2, none⟩ = some (.string (cutB l.p2 60)) ∧ w'.cell? ⟨w10.heap.size, 3, none⟩ = some (.int .i64 l.flags) ∧ w'.cell? ⟨w10.heap.size, 4, none⟩ = some (.int .i64 l.fd) ∧ w'.cell? ⟨w10.heap.size, 5, none⟩ = some (.int .i64 l.off) ∧ w'.cell? ⟨w10.heap.size, 6, none⟩ = some (.int .i64 l.n) ∧ w'.cell? ⟨w10.heap.size, 7, none⟩ = some (.string (cutB l.data 100)))) (by kernel_rfl) ?_ (fun hHeld => ?_)
    · exact hs0
    refine wpAnyH_take (i := 0) (oi := _) (v := ?_) rfl (by kernel_rfl) (by kernel_rfl) (by kernel_rfl) (fun _ _ _ h => h) (Or.inl ⟨by rfl, ?_⟩) (by assumption) ?_
    rotate_left
    · intro w hSw
      (try dsimp only at hSw)
      first | (go_simp; done) | (go_simp; with_reducible rfl)
    try simp only [List.getElem_toArray, List.getElem_cons_succ, List.getElem_cons_zero, Act.put, List.setIfInBounds_toArray, List.set_cons_zero, List.set_cons_succ]
    refine wpAnyH_take (i := 1) (oi := _) (v := ?_) rfl (by kernel_rfl) (by kernel_rfl) (by kernel_rfl) (fun _ _ _ h => h) (Or.inl ⟨by rfl, ?_⟩) (by assumption) ?_
    rotate_left
    · intro w hSw
      (try dsimp only at hSw)
      first | (go_simp; done) | (go_simp; with_reducible rfl)
    try simp only [List.getElem_toArray, List.getElem_cons_succ, List.getElem_cons_zero, Act.put, List.setIfInBounds_toArray, List.set_cons_zero, List.set_cons_succ]
    refine wpAnyH_take (i := 2) (oi := _) (v := ?_) rfl (by kernel_rfl) (by kernel_rfl) (by kernel_rfl) (fun _ _ _ h => h) (Or.inl ⟨by rfl, ?_⟩) (by assumption) ?_
    rotate_left
    · intro w hSw
      (try dsimp only at hSw)
      first | (go_simp; done) | (go_simp; with_reducible rfl)
    try simp only [List.getElem_toArray, List.getElem_cons_succ, List.getElem_cons_zero, Act.put, List.setIfInBounds_toArray, List.set_cons_zero, List.set_cons_succ]
    refine wpAnyH_take (i := 3) (oi := _) (v := ?_) rfl (by kernel_rfl) (by kernel_rfl) (by kernel_rfl) (fun _ _ _ h => h) (Or.inl ⟨by rfl, ?_⟩) (by assumption) ?_
    rotate_left
    · intro w hSw
      (try dsimp only at hSw)
      first | (go_simp; done) | (go_simp; with_reducible rfl)
    try simp only [List.getElem_toArray, List.getElem_cons_succ, List.getElem_cons_zero, Act.put, List.setIfInBounds_toArray, List.set_cons_zero, List.set_cons_succ]
    refine wpAnyH_take (i := 5) (oi := _) (v := ?_) rfl (by kernel_rfl) (by kernel_rfl) (by kernel_rfl) (fun _ _ _ h => h) (Or.inl ⟨by rfl, ?_⟩) (by assumption) ?_
    rotate_left
    · intro w hSw
      (try dsimp only at hSw)
      first | (go_simp; done) | (go_simp; with_reducible rfl)
    try simp only [List.getElem_toArray, List.getElem_cons_succ, List.getElem_cons_zero, Act.put, List.setIfInBounds_toArray, List.set_cons_zero, List.set_cons_succ]
    refine wpAnyH_take (i := 6) (oi := _) (v := ?_) rfl (by kernel_rfl) (by kernel_rfl) (by kernel_rfl) (fun _ _ _ h => h) (Or.inl ⟨by rfl, ?_⟩) (by assumption) ?_
    rotate_left
    · intro w hSw
      (try dsimp only at hSw)
      first | (go_simp; done) | (go_simp; with_reducible rfl)
    try simp only [List.getElem_toArray, List.getElem_cons_succ, List.getElem_cons_zero, Act.put, List.setIfInBounds_toArray, List.set_cons_zero, List.set_cons_succ]
    refine wpAnyH_take (i := 7) (oi := _) (v := ?_) rfl (by kernel_rfl) (by kernel_rfl) (by kernel_rfl) (fun _ _ _ h => h) (Or.inl ⟨by rfl, ?_⟩) (by assumption) ?_
    rotate_left
    · intro w hSw
      (try dsimp only at hSw)
      first | (go_simp; done) | (go_simp; with_reducible rfl)
    try simp only [List.getElem_toArray, List.getElem_cons_succ, List.getElem_cons_zero, Act.put, List.setIfInBounds_toArray, List.set_cons_zero, List.set_cons_succ]
    refine wpAnyH_take (i := 8) (oi := _) (v := ?_) rfl (by kernel_rfl) (by kernel_rfl) (by kernel_rfl) (fun _ _ _ h => h) (Or.inl ⟨by rfl, ?_⟩) (by assumption) ?_
    rotate_left
    · intro w hSw
      (try dsimp only at hSw)
      first | (go_simp; done) | (go_simp; with_reducible rfl)
    try simp only [List.getElem_toArray, List.getElem_cons_succ, List.getElem_cons_zero, Act.put, List.setIfInBounds_toArray, List.set_cons_zero, List.set_cons_succ]
    refine wpAnyH_ready (rs := [4]) (by kernel_rfl) (by simp) ?_
    refine AllReadyH.cons (o := _) rfl (fun K hK => ?_) AllReadyH.nil
    go_simp
    go_at_call 7
    refine (HRe.out _ _ HD11.out.three.both.real).mono ?_
    rintro e w5 ⟨A5, c5, rfl, hS5, hi5, ho5⟩
    have HF5 := Lib.hid (HD11.out.doReal hi5 ho5)
    have HS5 := Lib.hid hS5
    have HH5 := Lib.hid ((ho5.block w10.heap.size HLt.out (fun e => absurd (HF10.out.three.both.fl _ e).1 (Nat.lt_irrefl _))).trans HH11.out)
    have HZ5 := Lib.hid (Nat.lt_of_lt_of_le HLt.out ho5.size)
    clear hS5 hi5 ho5
    dsimp only
    refine hK.out _ _ ⟨(HK3.out w5 HF5.out.three.both.below).1, call8 HH5.out⟩ (fun hHeld => ?_)
    clear hK K
    try simp only [List.getElem_toArray, List.getElem_cons_succ, List.getElem_cons_zero, Act.put, List.setIfInBounds_toArray, List.set_cons_zero, List.set_cons_succ]
    refine wpAnyH_ready (rs := [9]) (by kernel_rfl) (by simp) ?_
    refine AllReadyH.cons (o := _) rfl (fun K hK => ?_) AllReadyH.nil
    go_simp
    go_at_call 7
    refine (HRg.out _ _ HF5.out.three.copy).mono ?_
    rintro e w6 ⟨A6, c6, rfl, hS6, hi6, ho6⟩
    have HF6' := Lib.hid (HF5.out.doCopy hi6 ho6)
    have HS6 := Lib.hid (And.intro ((HS5.out.only ho6 fun j hj _ e => absurd (HF10.out.three.hl _ e).1 (by have := HLt.out; have hj : w11.heap.size ≤ j := hj; omega)).low (Nat.zero_le _)) (hS6.low (Nat.zero_le _)))
    have HH6 := Lib.hid ((ho6.block w10.heap.size HZ5.out (fun e => absurd (HF10.out.three.hl _ e).1 (Nat.lt_irrefl _))).trans HH5.out)
    clear hS6 hi6 ho6
    dsimp only
    refine hK.out _ _ ⟨(HK3.out w6 HF6'.out.three.both.below).1, call8 HH6.out⟩ (fun hHeld => ?_)
    clear hK K
    try simp only [List.getElem_toArray, List.getElem_cons_succ, List.getElem_cons_zero, Act.put, List.setIfInBounds_toArray, List.set_cons_zero, List.set_cons_succ]
    refine wpAnyH_ready (rs := [10]) (by kernel_rfl) (by simp) ?_
    refine AllReadyH.cons (o := _) rfl (fun K hK => ?_) AllReadyH.nil
    go_simp
    go_at_call 13
    refine (samereply_any q A5 A6 c5 c6 0 w6 HAft.out.2.2.2.2.2 HS6.out.1 HS6.out.2).mono ?_
    rintro e w7 ⟨rfl, hb7⟩
    have HF7' := Lib.hid (HF6'.out.keep hb7)
    have HH7 := Lib.hid ((hb7.block _ (lt_of_get HH6.out)).trans HH6.out)
    clear hb7
    dsimp only
    refine hK.out _ _ ⟨(HK3.out w7 HF7'.out.three.both.below).1, call8 HH7.out⟩ (fun hHeld => ?_)
    clear hK K
    try simp only [List.getElem_toArray, List.getElem_cons_succ, List.getElem_cons_zero, Act.put, List.setIfInBounds_toArray, List.set_cons_zero, List.set_cons_succ]
    refine wpAnyH_take (i := 11) (oi := _) (v := ?_) rfl (by kernel_rfl) (by kernel_rfl) (by kernel_rfl) (fun _ _ _ h => h) (Or.inl ⟨by rfl, ?_⟩) (by assumption) ?_
    rotate_left
    · intro w hSw
      (try dsimp only at hSw)
      first | (go_simp; done) | (go_simp; with_reducible rfl)
    try simp only [List.getElem_toArray, List.getElem_cons_succ, List.getElem_cons_zero, Act.put, List.setIfInBounds_toArray, List.set_cons_zero, List.set_cons_succ]
    refine wpAnyH_done (by kernel_rfl) ?_ _
    simp only [Exit.then]
    have HS3 := Lib.hid (fsame_iff HF7'.out.three.both.real HF7'.out.three.copy HAft.out.2.2.1 HAft.out.2.2.2.1 (by omega) HAft.out.2.2.2.2.1.few)
    clear hs0 k0 d0 HRe HRg
    go_upto_region 19 with fail
    go_wp2_with fail
    refine HS3.out.mono ?_
    rintro e w12 ⟨s3, rfl, hs3, hb12⟩
    obtain rfl : s3 = true := hs3.2 HAft.out.2.1
    have HF12 := Lib.hid (HF7'.out.keep hb12)
    clear hs3 hb12 HS3
    go_wp2_with fail
    refine (lives_any _ HF12.out.three.both.real.mxx).mono ?_
    rintro e wz ⟨rfl, hbz⟩
    go_wp2
    go_ret
    exact ⟨rfl, HBb.out.trans ((HF12.out.three.both.below.trans (hbz.mono HF12.out.three.both.below.size)).mono HBb.out.size)⟩

end Go.Proofs.YtbpejjmfdhkfhaaGreatDoor
