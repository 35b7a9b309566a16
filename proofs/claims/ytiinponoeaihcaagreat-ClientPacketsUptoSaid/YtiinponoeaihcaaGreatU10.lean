/- A client: its map of leases. -/
import Derived.Test.YtiinponoeaihcaaGreatU09
import Derived.Deep.CutRange
import Derived.BigRegion
set_option linter.unusedVariables false
set_option linter.unusedSimpArgs false
set_option linter.unusedSectionVars false
namespace Go.Proofs.YtiinponoeaihcaaGreat
open Go.RowKit Go.Shelf
open Go.Maps (Keyed)

attribute [local go_sem] Oper.semAt_some
def HoldsD (hold : Int → Option Hd) (D : DataW Unit) : Prop := ∀ i zd, I64 i → D.atKey (.int .i64 i) zd = match hold i with | none => zd | some H => .lit (.int .i64 H.b)
def updH (hold : Int → Option Hd) (i : Int) (o : Option Hd) (j : Int) : Option Hd := if j = i then o else hold j
theorem HoldsD.del {hold : Int → Option Hd} {D : DataW Unit} (h : HoldsD hold D) (i : Int) : HoldsD (updH hold i none) (D.del (.int .i64 i)) := fun j zd hj => by
  unfold updH
  by_cases e : j = i
  · subst e
    rw [if_pos rfl, Maps.atKey_del_same]
  · rw [if_neg e, Maps.atKey_del_other (by intro h; cases h; exact e rfl)]
    exact h j zd hj
theorem HoldsD.put {hold : Int → Option Hd} {D : DataW Unit} (h : HoldsD hold D) (hD : Maps.IsMap D) (i : Int) (H : Hd) : HoldsD (updH hold i (some H)) (D.put (.int .i64 i) (.lit (.int .i64 H.b))) := fun j zd hj => by
  unfold updH
  by_cases e : j = i
  · subst e
    rw [if_pos rfl, Maps.atKey_put_same hD (by trivial)]
  · rw [if_neg e, Maps.atKey_put_other (by intro h; cases h; exact e rfl)]
    exact h j zd hj
theorem holdsD_nil : HoldsD (fun _ => none) (.map []) := fun i zd _ => rfl
section
variable {cb : Nat} {S : Cs} {w0 : World} {Ls : List (Nat × Obj)}
theorem Ck.map {w : World} {m : Nat} (h : Ck cb S w0 Ls w) (hm : S.hm = some m) : ∃ D, w.ownsMap Tryz.prog 3 ptrE m S.hn D ∧ HoldsD S.hold D := by
  obtain ⟨F, h1, _⟩ := h
  exact (h1.hold m hm).own
theorem Tryz.zeroHold (w : World) : (zeroValue 96).run Tryz.prog w = .ok (.pointer none) w := by kernel_rfl
/-- a lease is looked up -/
theorem Ck.look {w : World} {m : Nat} (h : Ck cb S w0 Ls w) (hm : S.hm = some m) {i : Int} (hi : I64 i) :
    (Instr.lookup 56 (.map (some m)) (.int .i64 i) false).run Tryz.prog w = .ok (ptrV ((S.hold i).map (·.b))) w := by
  obtain ⟨D, hD, hA⟩ := h.map hm
  obtain ⟨v, ps, hrun, hv⟩ := hD.lookup Tryz.intLaw Tryz.underlying56 (Tryz.zeroHold w) (zd := .lit (.int .i64 (-1))) (zp := []) rfl (Go.Maps.keyOf_int_mk Tryz.underlying3 hi)
  rw [hA i _ hi] at hv
  rw [hrun]
  cases hh : S.hold i with
  | none =>
    rw [hh] at hv
    rcases ptrE_inv hv with ⟨rfl, _⟩ | ⟨c, _, hc⟩
    · rfl
    · simp at hc
  | some H =>
    rw [hh] at hv
    rcases ptrE_inv hv with ⟨_, hc⟩ | ⟨c, rfl, hc⟩
    · simp at hc
    · have : H.b = c := by simp at hc; omega
      subst this
      rfl
theorem Ck.holdAt {w : World} {m : Nat} (h : Ck cb S w0 Ls w) (hm : S.hm = some m) {i : Int} {H : Hd} (hH : S.hold i = some H) :
    w.heap[H.b]? = some (.cells (hdC H) 105 (0, 0)) ∧ w.ownsRow 0 112 5 H.rv H.ov.length (recsC H.ov) ∧ I64 i := by
  obtain ⟨F, h1, _⟩ := h
  obtain ⟨⟨a, _, c, _⟩, e⟩ := (h1.hold m hm).at_ i H hH
  exact ⟨a, c, e⟩
/-- leases are struck -/
theorem Ck.strike {w w' : World} {m n : Nat} {hold : Int → Option Hd} {D : DataW Unit} (h : Ck cb S w0 Ls w) (hm : S.hm = some m) (hown : w'.ownsMap Tryz.prog 3 ptrE m n D) (hD : HoldsD hold D) (ht : w.mapTurned w' m)
    (hs : ∀ i H, hold i = some H → S.hold i = some H) (hn : n = S.hn) : Ck cb { S with hold := hold } w0 Ls w' := by
  have hO : Only (fun k => k = m) w w' := grown_only ht.grown (fun k e => (Option.some.inj e).symm)
  obtain ⟨es, ck, _, _, hes, _⟩ := ht
  refine h.turn fun F hF => ⟨F, ?_, hO.mono fun k _ e => by subst e; exact (hF.hold k hm).f, fun _ e => Or.inl e⟩
  have hoth : ∀ k, F k → k ≠ m → w'.heap[k]? = w.heap[k]? := fun k hk hne => hO.block k (hF.tight k hk) hne
  have hH := hF.hold m hm
  refine ⟨(hoth cb hF.f (map_ne hF.obj hes).symm).trans hF.obj, hF.f, fun k hk => Nat.lt_of_lt_of_le (hF.tight k hk) hO.size, fun m2 hm2 => ?_, fun m2 hm2 => ?_, fun b hb => ?_, hF.mne⟩
  · obtain rfl : m = m2 := Option.some.inj (hm.symm.trans hm2)
    refine ⟨hH.f, ⟨D, hn ▸ hown, hD⟩, fun i H hi => ⟨?_, (hH.at_ i H (hs i H hi)).2⟩, fun i j H J hi hj => hH.ne i j H J (hs i H hi) (hs j J hj)⟩
    obtain ⟨⟨a1, a2, a3, a4⟩, -⟩ := hH.at_ i H (hs i H hi)
    exact ⟨(hoth _ a2 (map_ne a1 hes).symm).trans a1, a2, row_keep a3 fun k hk => hoth k (a4 k hk) (by
      rcases a3.2 with ⟨e, _⟩ | ⟨g, cap, cur, e, _, hg, _⟩
      · rw [e] at hk; cases hk
      · rw [e] at hk
        cases hk
        exact (map_ne hg hes).symm), a4⟩
  · obtain ⟨a1, a2⟩ := hF.want m2 hm2
    exact ⟨a1, map_keep a2 (hoth m2 a1 (hF.mne m m2 hm hm2).symm)⟩
  · obtain ⟨a1, a2, a3, a4⟩ := hF.work b hb
    exact ⟨(hoth _ a2 (map_ne a1 hes).symm).trans a1, a2, row_keep a3 fun k hk => hoth k (a4 k hk) (by
      rcases a3.2 with ⟨e, _⟩ | ⟨g, cap, cur, e, _, hg, _⟩
      · rw [e] at hk; cases hk
      · rw [e] at hk
        cases hk
        exact (map_ne hg hes).symm), a4⟩
/-- a new lease -/
theorem Ck.grant {w w' : World} {m : Nat} {i : Int} {H : Hd} {D : DataW Unit} (h : Ck cb S w0 ((H.b, .cells (hdC H) 105 (0, 0)) :: Ls) w) (hL : ∀ p ∈ Ls, p.1 ≠ H.b) (hm : S.hm = some m) (hi : I64 i) (hr : H.rv = .slice none 0 0) (ho : H.ov = [])
    (hown : w'.ownsMap Tryz.prog 3 ptrE m (S.hn + 1) D) (hD : HoldsD (updH S.hold i (some H)) D) (ht : w.mapTurned w' m) (hnw : ∀ j J, S.hold j = some J → J.b ≠ H.b) :
    Ck cb { S with hold := updH S.hold i (some H), hn := S.hn + 1 } w0 Ls w' := by
  have hO : Only (fun k => k = m) w w' := grown_only ht.grown (fun k e => (Option.some.inj e).symm)
  obtain ⟨es, ck, _, _, hes, _⟩ := ht
  obtain ⟨F, hF, hF0, hB, hLs⟩ := h
  obtain ⟨k1, k2, k3⟩ := hLs _ List.mem_cons_self
  dsimp only at k1 k2 k3
  have hoth : ∀ k, F k → k ≠ m → w'.heap[k]? = w.heap[k]? := fun k hk hne => hO.block k (hF.tight k hk) hne
  have hH := hF.hold m hm
  have hbm : H.b ≠ m := (map_ne k3 hes).symm
  have hb' : w'.heap[H.b]? = some (.cells (hdC H) 105 (0, 0)) := (hO.block _ (lt_get k3) hbm).trans k3
  refine ⟨fun k => F k ∨ k = H.b, ⟨(hoth cb hF.f (map_ne hF.obj hes).symm).trans hF.obj, Or.inl hF.f, ?_, fun m2 hm2 => ?_, fun m2 hm2 => ?_, fun b hb => ?_, hF.mne⟩, ?_, hB.trans (hO.below hB.size fun k hk e => by have := hF0 m hH.f; omega), fun p hp => ?_⟩
  · rintro k (hk | rfl)
    · exact Nat.lt_of_lt_of_le (hF.tight k hk) hO.size
    · exact Nat.lt_of_lt_of_le (lt_get k3) hO.size
  · obtain rfl : m = m2 := Option.some.inj (hm.symm.trans hm2)
    have hold : ∀ j J, S.hold j = some J → HdAt w' (fun k => F k ∨ k = H.b) J ∧ I64 j := fun j J hj => by
      obtain ⟨⟨a1, a2, a3, a4⟩, a5⟩ := hH.at_ j J hj
      refine ⟨⟨(hoth _ a2 (map_ne a1 hes).symm).trans a1, Or.inl a2, row_keep a3 fun k hk => hoth k (a4 k hk) ?_, fun r hr => Or.inl (a4 r hr)⟩, a5⟩
      rcases a3.2 with ⟨e, _⟩ | ⟨g, cap, cur, e, _, hg, _⟩
      · rw [e] at hk; cases hk
      · rw [e] at hk
        cases hk
        exact (map_ne hg hes).symm
    have new : HdAt w' (fun k => F k ∨ k = H.b) H ∧ I64 i := ⟨⟨hb', Or.inr rfl, by rw [hr, ho]; exact World.ownsRow_nil _ _ _ _, fun r e => by rw [hr] at e; cases e⟩, hi⟩
    refine ⟨Or.inl hH.f, ⟨D, hown, hD⟩, fun j J hj => ?_, fun j k J K hj hk hne => ?_⟩
    · change updH S.hold i (some H) j = some J at hj
      unfold updH at hj
      split at hj
      · rename_i e
        subst e
        cases hj
        exact new
      · exact hold j J hj
    · change updH S.hold i (some H) j = some J at hj
      change updH S.hold i (some H) k = some K at hk
      unfold updH at hj hk
      split at hj
      · rename_i e
        subst e
        cases hj
        rw [if_neg (fun e => hne e.symm)] at hk
        exact ⟨fun e => hnw k K hk e.symm, fun r e => by rw [hr] at e; cases e⟩
      · split at hk
        · cases hk
          exact ⟨fun e => hnw j J hj e, fun r _ => by rw [hr]; exact fun e => by cases e⟩
        · exact hH.ne j k J K hj hk hne
  · obtain ⟨a1, a2⟩ := hF.want m2 hm2
    exact ⟨Or.inl a1, map_keep a2 (hoth m2 a1 (hF.mne m m2 hm hm2).symm)⟩
  · obtain ⟨a1, a2, a3, a4⟩ := hF.work b hb
    refine ⟨(hoth _ a2 (map_ne a1 hes).symm).trans a1, Or.inl a2, row_keep a3 fun k hk => hoth k (a4 k hk) ?_, fun r hr => Or.inl (a4 r hr)⟩
    rcases a3.2 with ⟨e, _⟩ | ⟨g, cap, cur, e, _, hg, _⟩
    · rw [e] at hk; cases hk
    · rw [e] at hk
      cases hk
      exact (map_ne hg hes).symm
  · rintro k (hk | rfl)
    · exact hF0 k hk
    · exact k1
  · obtain ⟨q1, q2, q3⟩ := hLs p (List.mem_cons_of_mem _ hp)
    refine ⟨q1, fun e => e.elim q2 (hL p hp), (hO.block _ (lt_get q3) fun e => ?_).trans q3⟩
    exact q2 (e ▸ hH.f)
/-- no lease lies in a variable of one's own -/
theorem Ck.holdNe {w : World} {m : Nat} (h : Ck cb S w0 Ls w) (hm : S.hm = some m) {p : Nat × Obj} (hp : p ∈ Ls) : ∀ j J, S.hold j = some J → J.b ≠ p.1 := fun j J hj e => by
  obtain ⟨F, h1, _, _, h4⟩ := h
  exact (h4 p hp).2.1 (e ▸ ((h1.hold m hm).at_ j J hj).1.2.1)
end
end Go.Proofs.YtiinponoeaihcaaGreat

/- A client: close, give. -/
namespace Go.Proofs.YtiinponoeaihcaaGreat
open Go.RowKit Go.Shelf

attribute [local go_sem] Oper.semAt_some
theorem nums_of {X : Array Value} {xs : List Int} (hX : X.toList.take xs.length = xs.map (Value.int .i64 ·)) : ∀ j : Nat, j < xs.length → ∃ x : Int, X[j]? = some (.int .i64 x) := fun j hj => by
  have h1 : (X.toList.take xs.length)[j]? = X.toList[j]? := by rw [List.getElem?_take, if_pos hj]
  rw [hX, List.getElem?_map, List.getElem?_eq_getElem hj] at h1
  exact ⟨xs[j], by rw [← Array.getElem?_toList, ← h1]; rfl⟩
section
variable {cb : Nat} {S : Cs} {w0 : World} {Ls : List (Nat × Obj)}
set_option maxHeartbeats 4000000 in
set_option maxRecDepth 100000 in
theorem cgive_any {m : Nat} (hm : S.wm = some m) (now : Int) (w : World) (h : Ck cb S w0 Ls w) :
    Calls Tryz.prog 23 #[pC cb, .int .i64 now] w fun e w' => e = .returned (.slice none 0 0) ∧ Ck cb S w0 Ls w' := by
  have c17 : w.cell? ⟨cb, 17, none⟩ = some (.map S.wm) := h.cell 17
  rw [hm] at c17
  have hown : w.ownsMap (H := Unit) Tryz.prog 3 (plainElem Tryz.prog 4) m 0 (.map []) := by
    obtain ⟨F, h1, _⟩ := h
    exact (h1.want m hm).2
  have H := Lib.hid h
  have HO := Lib.hid hown
  clear h hown hm
  go_enter Tryz.func23, Tryz.ntmps23
  go_wp2_with (at_range; refine wpList_range_own _ rfl _ 57 rfl 3 4 Tryz.intLaw Tryz.underlying57 (plainElem Tryz.prog 4) m 0 _ rfl HO.out ?_)
  intro w1 hrg hg1 hs1
  have hB : Below w.heap.size w w1 := ⟨hg1.os, hg1.tape, hg1.output, hg1.size, fun k hk => hg1.block k hk (by simp)⟩
  have H1 := Lib.hid (H.out.below hB)
  have HRg := Lib.hid hrg
  clear hrg hg1 hs1 hB c17
  go_wp2
  go_loopw [5] (fun z wr => z = .int .i64 0 ∧ wr = w1) (fun _ _ => 0)
  case atStart => exact ⟨rfl, rfl⟩
  case round =>
    obtain ⟨rfl, rfl⟩ := hrel
    have hrg := HRg.out
    go_wp2_with (at_next; refine wpList_next_ranges _ rfl _ rfl 3 Tryz.intLaw (plainElem Tryz.prog 4) (Value.int .i64) (fun v : Value => v) (fun key kl hk => by obtain ⟨x, rfl, _⟩ := Maps.keyOf_int_inv Tryz.underlying3 hk; exact ⟨x, rfl⟩) (fun v y hv => ⟨v, rfl⟩) m w.heap.size 0 _ _ _ rfl hrg ?_ ?_)
    · intro _ _
      go_wp2
      go_ret
      exact ⟨rfl, H1.out⟩
    · intro x c kl y1 y2 w' cnt' _ hlk
      exact absurd hlk (by simp [Maps.has])
/-- some leases were struck -/
def Fewer (S : Cs) (hold : Int → Option Hd) : Prop := ∀ i H, hold i = some H → S.hold i = some H
def fdsL (S : Cs) : List Int := [S.f 0, S.f 1, S.f 2, S.f 3, S.f 4, S.f 5, S.f 6, S.f 7]
theorem Ck.fds {w : World} (h : Ck cb S w0 Ls w) : ∀ (j : Nat) (x : Int), (fdsL S)[j]? = some x → w.cell? ⟨cb, 8 + j, none⟩ = some (.int .i64 x) := fun j x hx => by
  have hj : j < 8 := (List.getElem?_eq_some_iff.1 hx).1
  rcases (by omega : j = 0 ∨ j = 1 ∨ j = 2 ∨ j = 3 ∨ j = 4 ∨ j = 5 ∨ j = 6 ∨ j = 7) with rfl | rfl | rfl | rfl | rfl | rfl | rfl | rfl <;> (cases hx; first | exact h.cell 8 | exact h.cell 9 | exact h.cell 10 | exact h.cell 11 | exact h.cell 12 | exact h.cell 13 | exact h.cell 14 | exact h.cell 15)
set_option maxHeartbeats 8000000 in
set_option maxRecDepth 100000 in
theorem cclose_any {wb m k : Nat} (hk : S.wk = some wb) (hm : S.hm = some m) (hfd : S.K.fd = k) (hk8 : k < 8) (hI : I64 (S.f k)) (h0 : 0 ≤ S.life ∧ S.life < 1048576) (h1 : 0 ≤ S.cnt ∧ S.cnt ≤ 1000000) (now : Int) (w : World) (h : Ck cb S w0 Ls w) :
    Calls Tryz.prog 25 #[pC cb, .int .i64 now] w fun e w' => ∃ hold, Fewer S hold ∧ Sends cb (ownS { S with hold := hold }) (callP 2 (ownS { S with hold := hold }).id (S.f k) 0 ⟨#[]⟩ ⟨#[]⟩ 0 0 0 0 ⟨#[]⟩) now w0 Ls e w' := by
  have c18 : w.cell? ⟨cb, 18, none⟩ = some (ptrV S.wk) := h.cell 18
  unfold ptrV at c18
  rw [hk] at c18
  dsimp only [Option.map_some] at c18
  have d4 : w.cell? ⟨wb, 4, none⟩ = some (.int .i64 (k : Int)) := by rw [← hfd]; exact cell_of_row w wb 4 _ _ _ (h.work hk)
  have HI := cinode_any (k : Int) (nat_I64 (by omega)) w h
  rw [if_pos (by omega), Int.toNat_natCast] at HI
  have HI := Lib.hid HI
  have hlen : (fdsL S).length = 8 := rfl
  have HC := sclone_any cb 8 8 (fdsL S) (by rw [hlen]; omega) w h.low.2 h.fds
  rw [hlen] at HC
  have HC := Lib.hid HC
  clear hlen
  have H := Lib.hid h
  have HIk := Lib.hid hI
  have H0 := Lib.hid h0
  have H1 := Lib.hid h1
  have Hm := Lib.hid hm
  have hk8i : (k : Int) < 8 := by omega
  have hk0i : (0 : Int) ≤ k := by omega
  clear h hk hfd hI h0 h1 hm
  go_enter Tryz.func25, Tryz.ntmps25
  go_upto_region 4 with (first | ((with_reducible refine HI.out.mono ?_); rintro e wx ⟨rfl, rfl⟩) | (refine HC.out.mono ?_; rintro e w1 ⟨g, c, X, rfl, hg, hX, hXs, hge, hb⟩; have HG := Lib.hid (And.intro hg (And.intro hX (And.intro hXs (And.intro hge hb)))); clear hg hX hXs hge hb))
  obtain ⟨hg, hX, hXs, hge, hb⟩ := HG.out
  have hN : ∀ j : Nat, j < 8 → ∃ x : Int, X[j]? = some (.int .i64 x) := fun j hj => nums_of (xs := fdsL S) hX j hj
  have H1' := Lib.hid (H.out.new hb hge hg)
  have HNe : Hid (∀ p ∈ Ls, p.1 ≠ g) := Lib.hid fun p hp e => by
    have := (H.out.ge (k := p.1) (o := p.2) hp).2
    omega
  obtain ⟨y, hy⟩ := hN k hk8
  have e0 : w1.cell? ⟨g, k, none⟩ = some (.int .i64 y) := (cell_of_row w1 g k _ _ _ hg).trans hy
  have e1 := frozen_of_row w1 g k _ _ hg
  have HN : Hid (∀ j : Nat, j < 8 → ∃ x : Int, (X.setIfInBounds k (.int .i64 0))[j]? = some (.int .i64 x)) := Lib.hid fun j hj => by
    by_cases e : k = j
    · subst e
      exact ⟨0, by rw [Array.getElem?_setIfInBounds_self_of_lt (by omega)]⟩
    · rw [Array.getElem?_setIfInBounds_ne e]
      exact hN j hj
  clear hg hX hXs hge hb hN hy HG HC H
  go_upto_region 5 with fail
  obtain ⟨w2, hw⟩ : ∃ u, u = w1.setCell ⟨g, k, none⟩ (.int .i64 0) := ⟨_, rfl⟩
  rw [← hw]
  have H2 : Hid (Ck cb S w0 ((g, .cells (X.setIfInBounds k (.int .i64 0)) 3 (0, 0)) :: Ls) w2) := Lib.hid (by rw [hw]; exact H1'.out.set rfl HNe.out)
  have HCo := Lib.hid (scontains_any g 0 8 c (S.f k) (by omega) w2 ⟨(H2.out.ge (k := g) List.mem_cons_self).2, fun j hj => by
    rw [Nat.zero_add]
    obtain ⟨x, hx⟩ := HN.out j hj
    exact ⟨x, (cell_of_row w2 g j _ _ _ (H2.out.get (k := g) List.mem_cons_self)).trans hx⟩⟩)
  clear hw e0 e1 H1' HN HNe
  go_upto_if 32 with ((with_reducible refine HCo.out.mono ?_); rintro e w3 ⟨q, rfl, hb⟩; have HB := Lib.hid hb; clear hb)
  have H3 := Lib.hid ((H2.out.tl rfl).below HB.out)
  clear H2 HB HCo
  have c16 : w3.cell? ⟨cb, 16, none⟩ = some (.map S.hm) := H3.out.cell 16
  rw [Hm.out] at c16
  cases q with
  | true =>
    have HOw := Lib.hid (cown_any H0.out H1.out w3 H3.out)
    clear c16
    go_upto_region 7 with fail
    go_wp2_with (first | ((with_reducible refine HOw.out.mono ?_); rintro e w4 ⟨rfl, h4⟩; have H4 := Lib.hid h4; clear h4) | (refine (cask_any 2 (ownS S).id (S.f k) 0 ⟨#[]⟩ ⟨#[]⟩ 0 0 0 0 ⟨#[]⟩ now w4 H4.out).mono ?_; rintro e w5 ⟨b, rfl, hs⟩; have HS := Lib.hid hs; clear hs))
    go_ret
    obtain ⟨hb2, hb3⟩ := HS.out
    exact ⟨S.hold, fun _ _ e => e, b, rfl, hb2, hb3⟩
  | false =>
    obtain ⟨D, hD, hA⟩ := H3.out.map Hm.out
    have HD := Lib.hid hD
    have HA := Lib.hid hA
    have HKey := Lib.hid (Go.Maps.keyOf_int_mk (P := Tryz.prog) Tryz.underlying3 HIk.out)
    clear hD hA
    go_upto_region 7 with (at_delete; refine wpList_delete_own _ rfl _ _ 56 3 rfl 96 Tryz.intLaw Tryz.underlying56 ptrE m _ D rfl HD.out _ _ rfl HKey.out ?_; intro w4 hown4 hturn4)
    have HF : Hid (Fewer S (updH S.hold (S.f k) none)) := Lib.hid fun i J hi => by
      unfold updH at hi
      split at hi
      · cases hi
      · exact hi
    have H4 : Hid (Ck cb { S with hold := updH S.hold (S.f k) none } w0 Ls w4) := Lib.hid (H3.out.strike Hm.out hown4 (HA.out.del _) hturn4 HF.out rfl)
    clear hown4 hturn4 HD HA HKey c16 H3
    obtain ⟨T, hT⟩ : ∃ T : Cs, T = { S with hold := updH S.hold (S.f k) none } := ⟨_, rfl⟩
    rw [← hT] at H4
    have HT := Lib.hid hT
    have hl0 : 0 ≤ T.life ∧ T.life < 1048576 := by rw [hT]; exact H0.out
    have hc0 : 0 ≤ T.cnt ∧ T.cnt ≤ 1000000 := by rw [hT]; exact H1.out
    have HOw := Lib.hid (cown_any hl0 hc0 w4 H4.out)
    clear hT hl0 hc0
    go_wp2_with (first | ((with_reducible refine HOw.out.mono ?_); rintro e w5 ⟨rfl, h5⟩; have H5 := Lib.hid h5; clear h5) | (refine (cask_any 2 (ownS T).id (S.f k) 0 ⟨#[]⟩ ⟨#[]⟩ 0 0 0 0 ⟨#[]⟩ now w5 H5.out).mono ?_; rintro e w6 ⟨b, rfl, hs⟩; have HS := Lib.hid hs; clear hs))
    go_ret
    obtain ⟨hb2, hb3⟩ := HS.out
    have e := HT.out
    subst e
    exact ⟨updH S.hold (S.f k) none, HF.out, b, rfl, hb2, hb3⟩
end
end Go.Proofs.YtiinponoeaihcaaGreat

/- A client: lease. -/
namespace Go.Proofs.YtiinponoeaihcaaGreat
open Go.RowKit Go.Shelf

attribute [local go_sem] Oper.semAt_some
/-- a call that has got nothing -/
def resetW (K : Wk) : Wk := { K with gv := .slice none 0 0, got := [], rd := false, ph := 0 }
section
variable {cb : Nat} {S : Cs} {w0 : World} {Ls : List (Nat × Obj)}
/-- cells of the call under way are turned -/
theorem Ck.wcells {w w' : World} {wb : Nat} {K : Wk} (h : Ck cb S w0 Ls w) (hk : S.wk = some wb) (hO : Only (fun k => k = wb) w w') (hc : w'.heap[wb]? = some (.cells (wkC K) 70 (0, 0)))
    (hg : (K.gv = S.K.gv ∧ K.got = S.K.got) ∨ (K.gv = .slice none 0 0 ∧ K.got = [])) : Ck cb { S with K := K } w0 Ls w' := by
  refine h.turn fun F hF => ⟨F, ?_, hO.mono fun k _ e => by subst e; exact (hF.work k hk).2.1, fun _ e => Or.inl e⟩
  have hw := hF.work wb hk
  have hoth : ∀ k, F k → k ≠ wb → w'.heap[k]? = w.heap[k]? := fun k hk hne => hO.block k (hF.tight k hk) hne
  refine ⟨(hoth cb hF.f (lc_ne hF.obj hw.1 (by decide))).trans hF.obj, hF.f, fun k hk => Nat.lt_of_lt_of_le (hF.tight k hk) hO.size, fun m hm => ?_, fun m hm => ?_, fun b hb => ?_, hF.mne⟩
  · have hH := hF.hold m hm
    obtain ⟨D, hD, hDa⟩ := hH.own
    refine ⟨hH.f, ⟨D, map_keep hD (hoth m hH.f ?_), hDa⟩, fun i H hi => ⟨?_, (hH.at_ i H hi).2⟩, hH.ne⟩
    · obtain ⟨es, ck, he, _⟩ := hD
      exact map_ne hw.1 he
    · obtain ⟨⟨a1, a2, a3, a4⟩, -⟩ := hH.at_ i H hi
      exact ⟨(hoth _ a2 (lc_ne a1 hw.1 (by decide))).trans a1, a2, row_keep a3 fun k hk => hoth k (a4 k hk) (row_ne a3 hw.1 (by decide) k hk), a4⟩
  · obtain ⟨a1, a2⟩ := hF.want m hm
    refine ⟨a1, map_keep a2 (hoth m a1 ?_)⟩
    obtain ⟨es, ck, he, _⟩ := a2
    exact map_ne hw.1 he
  · obtain rfl : wb = b := Option.some.inj (hk.symm.trans hb)
    obtain ⟨a1, a2, a3, a4⟩ := hw
    refine ⟨hc, a2, ?_, ?_⟩
    · rcases hg with ⟨e1, e2⟩ | ⟨e1, e2⟩
      · show w'.ownsRow 0 _ 1 K.gv K.got.length (K.got.map .string)
        rw [e1, e2]
        exact row_keep a3 fun k hk => hoth k (a4 k hk) (row_ne a3 a1 (by decide) k hk)
      · show w'.ownsRow 0 _ 1 K.gv K.got.length (K.got.map .string)
        rw [e1, e2]
        exact World.ownsRow_nil _ _ _ _
    · intro r hr
      change K.gv.ownBlock = some r at hr
      rcases hg with ⟨e1, _⟩ | ⟨e1, _⟩
      · exact a4 r (by rw [← e1]; exact hr)
      · rw [e1] at hr
        cases hr
theorem Ck.wset {w : World} {wb i : Nat} {v : Value} {K : Wk} (h : Ck cb S w0 Ls w) (hk : S.wk = some wb) (hC : wkC K = (wkC S.K).setIfInBounds i v) (hg : (K.gv = S.K.gv ∧ K.got = S.K.got) ∨ (K.gv = .slice none 0 0 ∧ K.got = [])) : Ck cb { S with K := K } w0 Ls (w.setCell ⟨wb, i, none⟩ v) :=
  h.wcells hk (only_setCell _ _ _ rfl) (by rw [hC]; exact Go.heap_setCell_same w wb i _ _ _ (h.work hk)) hg
theorem Ck.reset {w : World} {wb : Nat} (h : Ck cb S w0 Ls w) (hk : S.wk = some wb) : Ck cb { S with K := resetW S.K } w0 Ls (((w.setCell ⟨wb, 8, none⟩ (.slice none 0 0)).setCell ⟨wb, 9, none⟩ (.bool false)).setCell ⟨wb, 10, none⟩ (.int .i64 0)) := by
  have a1 := h.wset (i := 8) (v := .slice none 0 0) (K := { S.K with gv := .slice none 0 0, got := [] }) hk rfl (Or.inr ⟨rfl, rfl⟩)
  have a2 := a1.wset (i := 9) (v := .bool false) (K := { S.K with gv := .slice none 0 0, got := [], rd := false }) hk rfl (Or.inl ⟨rfl, rfl⟩)
  exact a2.wset (i := 10) (v := .int .i64 0) (K := resetW S.K) hk rfl (Or.inl ⟨rfl, rfl⟩)
/-- no lease, and nothing got -/
def leaseS (S : Cs) (i : Int) : Cs := { S with hold := updH S.hold i none, K := resetW S.K, cnt := S.cnt + 1 }
def leaseP (S : Cs) (i : Int) (own : Bool) : Pk := callP 22 (S.life * 1048576 + (S.cnt + 1)) i 0 ⟨#[]⟩ ⟨#[]⟩ (if own then 1 else 0) 0 0 0 ⟨#[]⟩
set_option maxHeartbeats 8000000 in
set_option maxRecDepth 100000 in
theorem clease_any (own : Bool) {wb m : Nat} (hk : S.wk = some wb) (hm : S.hm = some m) (i : Int) (hi : inoF S.f S.K.fd = i) (hI : I64 i) (hf : I64 S.K.fd) (h0 : 0 ≤ S.life ∧ S.life < 1048576) (h1 : 0 ≤ S.cnt ∧ S.cnt ≤ 1000000) (now : Int) (w : World) (h : Ck cb S w0 Ls w) :
    Calls Tryz.prog 56 #[pC cb, .bool own, .int .i64 now] w fun e w' => (∃ H, S.hold i = some H ∧ e = .returned (.tuple #[.pointer (some ⟨H.b, 0, none⟩), .slice none 0 0]) ∧ Ck cb S w0 Ls w') ∨
      ∃ b, e = .returned (.tuple #[.pointer none, .slice (some ⟨b, 0, none⟩) 1 1]) ∧ w'.rangeAt b 0 (pkC (sentP (leaseS S i) (leaseP S i own))).toList ∧ Ck cb { leaseS S i with out := sentP (leaseS S i) (leaseP S i own), waits := true, sent := now, asked := now } w0 Ls w' := by
  have c18 : w.cell? ⟨cb, 18, none⟩ = some (ptrV S.wk) := h.cell 18
  unfold ptrV at c18
  rw [hk] at c18
  dsimp only [Option.map_some] at c18
  have c16 : w.cell? ⟨cb, 16, none⟩ = some (.map S.hm) := h.cell 16
  rw [hm] at c16
  have d4 : w.cell? ⟨wb, 4, none⟩ = some (.int .i64 S.K.fd) := cell_of_row w wb 4 _ _ _ (h.work hk)
  have HI := cinode_any S.K.fd hf w h
  rw [show (if 0 ≤ S.K.fd ∧ S.K.fd < 8 then S.f S.K.fd.toNat else 0) = i from hi] at HI
  have HI := Lib.hid HI
  have hlk := h.look hm hI
  obtain ⟨pv, hpv⟩ : ∃ pv, pv = ptrV ((S.hold i).map (·.b)) := ⟨_, rfl⟩
  rw [← hpv] at hlk
  have Hpv := Lib.hid hpv
  have H := Lib.hid h
  have HIk := Lib.hid hI
  have H0 := Lib.hid h0
  have H1 := Lib.hid h1
  have Hm := Lib.hid hm
  have Hk := Lib.hid hk
  clear h hk hi hI hf h0 h1 hm hpv
  go_enter Tryz.func56, Tryz.ntmps56
  go_upto_region 3 with ((with_reducible refine HI.out.mono ?_); rintro e wx ⟨rfl, rfl⟩)
  go_cut [48] from 29 to 48 (fun c wy => (∃ q : Bool, c = .bool q ∧ Hid (q = true → ∃ H, S.hold i = some H)) ∧ wy = wx)
  case first =>
    cases hh : S.hold i with
    | none =>
      have hp : pv = .pointer none := by rw [Hpv.out, hh]; rfl
      subst hp
      go_wp2_with fail
      go_meet
      exact ⟨⟨false, rfl, Lib.hid (by simp)⟩, rfl⟩
    | some J =>
      have hp : pv = .pointer (some ⟨J.b, 0, none⟩) := by rw [Hpv.out, hh]; rfl
      subst hp
      have hb := (H.out.holdAt Hm.out hh).1
      have e0 : wx.cell? ⟨J.b, 0, none⟩ = some (.bool J.own) := cell_of_row wx J.b 0 _ _ _ hb
      have e1 : wx.cell? ⟨J.b, 1, none⟩ = some (.int .i64 J.til) := cell_of_row wx J.b 1 _ _ _ hb
      clear hb
      have HH := Lib.hid hh
      by_cases ht : now < J.til
      · cases hj : J.own with
        | true =>
          rw [hj] at e0
          go_wp2_with fail
          go_meet
          exact ⟨⟨true, rfl, Lib.hid fun _ => ⟨J, HH.out⟩⟩, rfl⟩
        | false =>
          rw [hj] at e0
          go_wp2_with fail
          go_meet
          exact ⟨⟨!own, rfl, Lib.hid fun _ => ⟨J, HH.out⟩⟩, rfl⟩
      · go_wp2_with fail
        go_meet
        exact ⟨⟨false, rfl, Lib.hid (by simp)⟩, rfl⟩
  case rest =>
  obtain ⟨⟨q, rfl, hq⟩, hwc⟩ := hcut
  subst wc
  cases q with
  | true =>
    obtain ⟨J, hJ⟩ := hq.out rfl
    have hp : pv = .pointer (some ⟨J.b, 0, none⟩) := by rw [Hpv.out, hJ]; rfl
    subst hp
    have HH := Lib.hid hJ
    clear hJ hq
    go_wp2_with fail
    go_ret2
    exact Or.inl ⟨J, HH.out, rfl, H.out⟩
  | false =>
    clear hq hlk HI d4
    obtain ⟨D, hD, hA⟩ := H.out.map Hm.out
    have HD := Lib.hid hD
    have HA := Lib.hid hA
    have HKey := Lib.hid (Go.Maps.keyOf_int_mk (P := Tryz.prog) Tryz.underlying3 HIk.out)
    clear hD hA
    go_upto_region 6 with (at_delete; refine wpList_delete_own _ rfl _ _ 56 3 rfl 96 Tryz.intLaw Tryz.underlying56 ptrE m _ D rfl HD.out _ _ rfl HKey.out ?_; intro w4 hown4 hturn4)
    have HF : Hid (Fewer S (updH S.hold i none)) := Lib.hid fun i' J hi => by
      unfold updH at hi
      split at hi
      · cases hi
      · exact hi
    have H4 : Hid (Ck cb { S with hold := updH S.hold i none } w0 Ls w4) := Lib.hid (H.out.strike Hm.out hown4 (HA.out.del _) hturn4 HF.out rfl)
    clear hown4 hturn4 HD HA HKey c16 c18
    have c18 : w4.cell? ⟨cb, 18, none⟩ = some (ptrV S.wk) := H4.out.cell 18
    unfold ptrV at c18
    rw [Hk.out] at c18
    dsimp only [Option.map_some] at c18
    have hb := H4.out.work (wb := wb) Hk.out
    have d8 : w4.cell? ⟨wb, 8, none⟩ = some S.K.gv := cell_of_row w4 wb 8 _ _ _ hb
    have d9 : w4.cell? ⟨wb, 9, none⟩ = some (.bool S.K.rd) := cell_of_row w4 wb 9 _ _ _ hb
    have d10 : w4.cell? ⟨wb, 10, none⟩ = some (.int .i64 S.K.ph) := cell_of_row w4 wb 10 _ _ _ hb
    have g := fun i => frozen_of_row w4 wb i _ _ hb
    clear hb
    have hne : cb ≠ wb := lc_ne H4.out.obj (H4.out.work (wb := wb) Hk.out) (by decide)
    have hs0 : w4.drew.cell? ⟨cb, 18, none⟩ = some (.pointer (some ⟨wb, 0, none⟩)) := c18
    have hs1 : (w4.drew.setCell ⟨wb, 8, none⟩ (.slice none 0 0)).cell? ⟨cb, 18, none⟩ = some (.pointer (some ⟨wb, 0, none⟩)) := (World.cell?_of_block (Go.heap_setCell_other _ ⟨wb, 8, none⟩ cb _ hne)).trans hs0
    have hs2 : ((w4.drew.setCell ⟨wb, 8, none⟩ (.slice none 0 0)).setCell ⟨wb, 9, none⟩ (.bool false)).cell? ⟨cb, 18, none⟩ = some (.pointer (some ⟨wb, 0, none⟩)) := (World.cell?_of_block (Go.heap_setCell_other _ ⟨wb, 9, none⟩ cb _ hne)).trans hs1
    have hs3 : (((w4.drew.setCell ⟨wb, 8, none⟩ (.slice none 0 0)).setCell ⟨wb, 9, none⟩ (.bool false)).setCell ⟨wb, 10, none⟩ (.int .i64 0)).cell? ⟨cb, 18, none⟩ = some (.pointer (some ⟨wb, 0, none⟩)) := (World.cell?_of_block (Go.heap_setCell_other _ ⟨wb, 10, none⟩ cb _ hne)).trans hs2
    clear hne
    refine wp_region_held_drew (S := (fun W => W.cell? ⟨cb, 18, none⟩ = some (.pointer (some ⟨wb, 0, none⟩)))) (by kernel_rfl) ?_ (fun hHeld => ?_)
    · exact hs0
    refine wpAnyH_take (i := 0) (oi := _) (v := ?_) rfl (by kernel_rfl) (by kernel_rfl) (by kernel_rfl) (fun _ _ _ h => h) (Or.inl ⟨by rfl, ?_⟩) (by assumption) ?_
    rotate_left
    · intro w hSw
      (try dsimp only at hSw)
      first | (go_simp; done) | (go_simp; with_reducible rfl)
    try simp only [List.getElem_toArray, List.getElem_cons_succ, List.getElem_cons_zero, Act.put, List.setIfInBounds_toArray, List.set_cons_zero, List.set_cons_succ]
    refine wpAnyH_take (i := 1) (oi := _) (v := ?_) rfl (by kernel_rfl) (by kernel_rfl) (by kernel_rfl) (fun _ _ _ h => h) (Or.inl ⟨by rfl, ?_⟩) (by assumption) ?_
    rotate_left
    · intro w hSw
      (try dsimp only at hSw)
      first | (go_simp; done) | (go_simp; with_reducible rfl)
    try simp only [List.getElem_toArray, List.getElem_cons_succ, List.getElem_cons_zero, Act.put, List.setIfInBounds_toArray, List.set_cons_zero, List.set_cons_succ]
    refine wpAnyH_take (i := 2) (oi := _) (v := ?_) rfl (by kernel_rfl) (by kernel_rfl) (by kernel_rfl) (fun _ _ _ h => h) (Or.inl ⟨by rfl, ?_⟩) (by assumption) ?_
    rotate_left
    · intro w hSw
      (try dsimp only at hSw)
      first | (go_simp; done) | (go_simp; with_reducible rfl)
    try simp only [List.getElem_toArray, List.getElem_cons_succ, List.getElem_cons_zero, Act.put, List.setIfInBounds_toArray, List.set_cons_zero, List.set_cons_succ]
    refine wpAnyH_take (i := 3) (oi := _) (v := ?_) rfl (by kernel_rfl) (by kernel_rfl) (by kernel_rfl) (fun _ _ _ h => h) (Or.inl ⟨by rfl, ?_⟩) (by assumption) ?_
    rotate_left
    · intro w hSw
      (try dsimp only at hSw)
      first | (go_simp; done) | (go_simp; with_reducible rfl)
    try simp only [List.getElem_toArray, List.getElem_cons_succ, List.getElem_cons_zero, Act.put, List.setIfInBounds_toArray, List.set_cons_zero, List.set_cons_succ]
    refine wpAnyH_take (i := 4) (oi := _) (v := ?_) rfl (by kernel_rfl) (by kernel_rfl) (by kernel_rfl) (fun _ _ _ h => h) (Or.inl ⟨by rfl, ?_⟩) (by assumption) ?_
    rotate_left
    · intro w hSw
      (try dsimp only at hSw)
      first | (go_simp; done) | (go_simp; with_reducible rfl)
    try simp only [List.getElem_toArray, List.getElem_cons_succ, List.getElem_cons_zero, Act.put, List.setIfInBounds_toArray, List.set_cons_zero, List.set_cons_succ]
    refine wpAnyH_take (i := 5) (oi := _) (v := ?_) rfl (by kernel_rfl) (by kernel_rfl) (by kernel_rfl) (fun _ _ _ h => h) (Or.inl ⟨by rfl, ?_⟩) (by assumption) ?_
    rotate_left
    · intro w hSw
      (try dsimp only at hSw)
      first | (go_simp; done) | (go_simp; with_reducible rfl)
    try simp only [List.getElem_toArray, List.getElem_cons_succ, List.getElem_cons_zero, Act.put, List.setIfInBounds_toArray, List.set_cons_zero, List.set_cons_succ]
    refine wpAnyH_take (i := 6) (oi := _) (v := ?_) rfl (by kernel_rfl) (by kernel_rfl) (by kernel_rfl) (fun _ _ _ h => h) (Or.inl ⟨by rfl, ?_⟩) (by assumption) ?_
    rotate_left
    · intro w hSw
      (try dsimp only at hSw)
      first | (go_simp; done) | (go_simp; with_reducible rfl)
    try simp only [List.getElem_toArray, List.getElem_cons_succ, List.getElem_cons_zero, Act.put, List.setIfInBounds_toArray, List.set_cons_zero, List.set_cons_succ]
    refine wpAnyH_take (i := 7) (oi := _) (v := ?_) rfl (by kernel_rfl) (by kernel_rfl) (by kernel_rfl) (fun _ _ _ h => h) (Or.inl ⟨by rfl, ?_⟩) (by assumption) ?_
    rotate_left
    · intro w hSw
      (try dsimp only at hSw)
      first | (go_simp; done) | (go_simp; with_reducible rfl)
    try simp only [List.getElem_toArray, List.getElem_cons_succ, List.getElem_cons_zero, Act.put, List.setIfInBounds_toArray, List.set_cons_zero, List.set_cons_succ]
    refine wpAnyH_take (i := 8) (oi := _) (v := ?_) rfl (by kernel_rfl) (by kernel_rfl) (by kernel_rfl) (fun _ _ _ h => h) (Or.inl ⟨by rfl, ?_⟩) (by assumption) ?_
    rotate_left
    · intro w hSw
      (try dsimp only at hSw)
      first | (go_simp; done) | (go_simp; with_reducible rfl)
    try simp only [List.getElem_toArray, List.getElem_cons_succ, List.getElem_cons_zero, Act.put, List.setIfInBounds_toArray, List.set_cons_zero, List.set_cons_succ]
    refine wpAnyH_take (i := 9) (oi := _) (v := ?_) rfl (by kernel_rfl) (by kernel_rfl) (by kernel_rfl) (fun _ _ _ h => h) (Or.inl ⟨by rfl, ?_⟩) (by assumption) ?_
    rotate_left
    · intro w hSw
      (try dsimp only at hSw)
      first | (go_simp; done) | (go_simp; with_reducible rfl)
    try simp only [List.getElem_toArray, List.getElem_cons_succ, List.getElem_cons_zero, Act.put, List.setIfInBounds_toArray, List.set_cons_zero, List.set_cons_succ]
    refine wpAnyH_take (i := 10) (oi := _) (v := ?_) rfl (by kernel_rfl) (by kernel_rfl) (by kernel_rfl) (fun _ _ _ h => h) (Or.inl ⟨by rfl, ?_⟩) (by assumption) ?_
    rotate_left
    · intro w hSw
      (try dsimp only at hSw)
      first | (go_simp; done) | (go_simp; with_reducible rfl)
    try simp only [List.getElem_toArray, List.getElem_cons_succ, List.getElem_cons_zero, Act.put, List.setIfInBounds_toArray, List.set_cons_zero, List.set_cons_succ]
    refine wpAnyH_take (i := 11) (oi := _) (v := ?_) rfl (by kernel_rfl) (by kernel_rfl) (by kernel_rfl) (fun _ _ _ h => h) (Or.inl ⟨by rfl, ?_⟩) (by assumption) ?_
    rotate_left
    · intro w hSw
      (try dsimp only at hSw)
      first | (go_simp; done) | (go_simp; with_reducible rfl)
    try simp only [List.getElem_toArray, List.getElem_cons_succ, List.getElem_cons_zero, Act.put, List.setIfInBounds_toArray, List.set_cons_zero, List.set_cons_succ]
    refine wpAnyH_take (i := 12) (oi := _) (v := ?_) rfl (by kernel_rfl) (by kernel_rfl) (by kernel_rfl) (fun _ _ _ h => h) (Or.inl ⟨by rfl, ?_⟩) (by assumption) ?_
    rotate_left
    · intro w hSw
      (try dsimp only at hSw)
      first | (go_simp; done) | (go_simp; with_reducible rfl)
    try simp only [List.getElem_toArray, List.getElem_cons_succ, List.getElem_cons_zero, Act.put, List.setIfInBounds_toArray, List.set_cons_zero, List.set_cons_succ]
    refine wpAnyH_take (i := 13) (oi := _) (v := ?_) rfl (by kernel_rfl) (by kernel_rfl) (by kernel_rfl) (fun _ _ _ h => h) (Or.inl ⟨by rfl, ?_⟩) (by assumption) ?_
    rotate_left
    · intro w hSw
      (try dsimp only at hSw)
      first | (go_simp; done) | (go_simp; with_reducible rfl)
    try simp only [List.getElem_toArray, List.getElem_cons_succ, List.getElem_cons_zero, Act.put, List.setIfInBounds_toArray, List.set_cons_zero, List.set_cons_succ]
    refine wpAnyH_take (i := 14) (oi := _) (v := ?_) rfl (by kernel_rfl) (by kernel_rfl) (by kernel_rfl) (fun _ _ _ h => h) (Or.inl ⟨by rfl, ?_⟩) (by assumption) ?_
    rotate_left
    · intro w hSw
      (try dsimp only at hSw)
      first | (go_simp; done) | (go_simp; with_reducible rfl)
    try simp only [List.getElem_toArray, List.getElem_cons_succ, List.getElem_cons_zero, Act.put, List.setIfInBounds_toArray, List.set_cons_zero, List.set_cons_succ]
    refine wpAnyH_take (i := 15) (oi := _) (v := ?_) rfl (by kernel_rfl) (by kernel_rfl) (by kernel_rfl) (fun _ _ _ h => h) (Or.inl ⟨by rfl, ?_⟩) (by assumption) ?_
    rotate_left
    · intro w hSw
      (try dsimp only at hSw)
      first | (go_simp; done) | (go_simp; with_reducible rfl)
    try simp only [List.getElem_toArray, List.getElem_cons_succ, List.getElem_cons_zero, Act.put, List.setIfInBounds_toArray, List.set_cons_zero, List.set_cons_succ]
    refine wpAnyH_take (i := 16) (oi := _) (v := ?_) rfl (by kernel_rfl) (by kernel_rfl) (by kernel_rfl) (fun _ _ _ h => h) (Or.inl ⟨by rfl, ?_⟩) (by assumption) ?_
    rotate_left
    · intro w hSw
      (try dsimp only at hSw)
      first | (go_simp; done) | (go_simp; with_reducible rfl)
    try simp only [List.getElem_toArray, List.getElem_cons_succ, List.getElem_cons_zero, Act.put, List.setIfInBounds_toArray, List.set_cons_zero, List.set_cons_succ]
    refine wpAnyH_ready (rs := [17]) (by kernel_rfl) (by simp) ?_
    refine AllReadyH.cons (o := _) rfl (fun K hK => ?_) AllReadyH.nil
    go_simp
    try dsimp only
    refine hK.out _ _ hs1 (fun hHeld => ?_)
    clear hK K
    try simp only [List.getElem_toArray, List.getElem_cons_succ, List.getElem_cons_zero, Act.put, List.setIfInBounds_toArray, List.set_cons_zero, List.set_cons_succ]
    refine wpAnyH_take (i := 18) (oi := _) (v := ?_) rfl (by kernel_rfl) (by kernel_rfl) (by kernel_rfl) (fun _ _ _ h => h) (Or.inl ⟨by rfl, ?_⟩) (by assumption) ?_
    rotate_left
    · intro w hSw
      (try dsimp only at hSw)
      first | (go_simp; done) | (go_simp; with_reducible rfl)
    try simp only [List.getElem_toArray, List.getElem_cons_succ, List.getElem_cons_zero, Act.put, List.setIfInBounds_toArray, List.set_cons_zero, List.set_cons_succ]
    refine wpAnyH_take (i := 19) (oi := _) (v := ?_) rfl (by kernel_rfl) (by kernel_rfl) (by kernel_rfl) (fun _ _ _ h => h) (Or.inl ⟨by rfl, ?_⟩) (by assumption) ?_
    rotate_left
    · intro w hSw
      (try dsimp only at hSw)
      first | (go_simp; done) | (go_simp; with_reducible rfl)
    try simp only [List.getElem_toArray, List.getElem_cons_succ, List.getElem_cons_zero, Act.put, List.setIfInBounds_toArray, List.set_cons_zero, List.set_cons_succ]
    refine wpAnyH_ready (rs := [20]) (by kernel_rfl) (by simp) ?_
    refine AllReadyH.cons (o := _) rfl (fun K hK => ?_) AllReadyH.nil
    go_simp
    try dsimp only
    refine hK.out _ _ hs2 (fun hHeld => ?_)
    clear hK K
    try simp only [List.getElem_toArray, List.getElem_cons_succ, List.getElem_cons_zero, Act.put, List.setIfInBounds_toArray, List.set_cons_zero, List.set_cons_succ]
    refine wpAnyH_take (i := 21) (oi := _) (v := ?_) rfl (by kernel_rfl) (by kernel_rfl) (by kernel_rfl) (fun _ _ _ h => h) (Or.inl ⟨by rfl, ?_⟩) (by assumption) ?_
    rotate_left
    · intro w hSw
      (try dsimp only at hSw)
      first | (go_simp; done) | (go_simp; with_reducible rfl)
    try simp only [List.getElem_toArray, List.getElem_cons_succ, List.getElem_cons_zero, Act.put, List.setIfInBounds_toArray, List.set_cons_zero, List.set_cons_succ]
    refine wpAnyH_take (i := 22) (oi := _) (v := ?_) rfl (by kernel_rfl) (by kernel_rfl) (by kernel_rfl) (fun _ _ _ h => h) (Or.inl ⟨by rfl, ?_⟩) (by assumption) ?_
    rotate_left
    · intro w hSw
      (try dsimp only at hSw)
      first | (go_simp; done) | (go_simp; with_reducible rfl)
    try simp only [List.getElem_toArray, List.getElem_cons_succ, List.getElem_cons_zero, Act.put, List.setIfInBounds_toArray, List.set_cons_zero, List.set_cons_succ]
    refine wpAnyH_ready (rs := [23]) (by kernel_rfl) (by simp) ?_
    refine AllReadyH.cons (o := _) rfl (fun K hK => ?_) AllReadyH.nil
    go_simp
    try dsimp only
    refine hK.out _ _ hs3 (fun hHeld => ?_)
    clear hK K
    try simp only [List.getElem_toArray, List.getElem_cons_succ, List.getElem_cons_zero, Act.put, List.setIfInBounds_toArray, List.set_cons_zero, List.set_cons_succ]
    refine wpAnyH_done (by kernel_rfl) ?_ _
    (try simp only [Exit.then])
    obtain ⟨w5, hw5⟩ : ∃ u, u = (((w4.setCell ⟨wb, 8, none⟩ (.slice none 0 0)).setCell ⟨wb, 9, none⟩ (.bool false)).setCell ⟨wb, 10, none⟩ (.int .i64 0)).drew := ⟨_, rfl⟩
    rw [← hw5]
    obtain ⟨T, hT⟩ : ∃ T : Cs, T = { S with hold := updH S.hold i none, K := resetW S.K } := ⟨_, rfl⟩
    have H5 : Hid (Ck cb T w0 Ls w5) := Lib.hid (by rw [hw5, hT]; exact (H4.out.reset (wb := wb) Hk.out).drew)
    have hl0 : 0 ≤ T.life ∧ T.life < 1048576 := by rw [hT]; exact H0.out
    have hc0 : 0 ≤ T.cnt ∧ T.cnt ≤ 1000000 := by rw [hT]; exact H1.out
    have HN := Lib.hid (number_any hl0 hc0 w5 H5.out)
    have HT := Lib.hid hT
    clear hw5 hs0 hs1 hs2 hs3 hl0 hc0 c18 d8 d9 d10 g H4 HF hT
    cases own with
    | true =>
      go_wp2_with (first | ((with_reducible refine HN.out.mono ?_); rintro e w6 ⟨rfl, h6⟩; have H6 := Lib.hid h6; clear h6) | (refine (cask_any 22 (T.life * 1048576 + (T.cnt + 1)) i 0 ⟨#[]⟩ ⟨#[]⟩ 1 0 0 0 ⟨#[]⟩ now w6 H6.out).mono ?_; rintro e w7 ⟨b, rfl, hs⟩; have HS := Lib.hid hs; clear hs))
      go_ret2
      obtain ⟨hb2, hb3⟩ := HS.out
      have e := HT.out
      subst e
      exact Or.inr ⟨b, rfl, hb2, hb3⟩
    | false =>
      go_wp2_with (first | ((with_reducible refine HN.out.mono ?_); rintro e w6 ⟨rfl, h6⟩; have H6 := Lib.hid h6; clear h6) | (refine (cask_any 22 (T.life * 1048576 + (T.cnt + 1)) i 0 ⟨#[]⟩ ⟨#[]⟩ 0 0 0 0 ⟨#[]⟩ now w6 H6.out).mono ?_; rintro e w7 ⟨b, rfl, hs⟩; have HS := Lib.hid hs; clear hs))
      go_ret2
      obtain ⟨hb2, hb3⟩ := HS.out
      have e := HT.out
      subst e
      exact Or.inr ⟨b, rfl, hb2, hb3⟩
end
end Go.Proofs.YtiinponoeaihcaaGreat

/- A client: read. -/
namespace Go.Proofs.YtiinponoeaihcaaGreat
open Go.RowKit Go.Shelf

attribute [local go_sem] Oper.semAt_some
theorem bits_I64 (b : BinOp) (x y : Int) : I64 (bits b .i64 x y) := by
  unfold bits
  exact WalkArith.wf_i64 (by rw [IntKind.wrap_i64]; omega)
theorem zero_I64 : I64 0 := WalkArith.wf_i64 (by omega)
def EndQ (e : Ending) : Prop := ∃ q r, I64 q ∧ e = .returned (.tuple #[.int .i64 q, .int .i64 r])
set_option maxHeartbeats 4000000 in
theorem cendK_any (ep n : Int) (h1 : I64 ep) (h2 : I64 n) (w : World) : Calls Tryz.prog 62 #[.int .i64 ep, .int .i64 n] w fun e w' => EndQ e ∧ w' = w := by
  obtain ⟨g1, g2⟩ := h1.lo
  obtain ⟨g3, g4⟩ := h2.lo
  clear h1 h2
  by_cases hb : Gd.endB ep n = true
  · obtain ⟨k1, k2, k3, k4, k5⟩ := (endB_iff _ _).mp hb
    clear hb
    go_enter Tryz.func62, Tryz.ntmps62
    go_wp2
    go_ret2
    exact ⟨⟨_, _, bits_I64 _ _ _, rfl⟩, rfl⟩
  · have hn := fun h => hb ((endB_iff ep n).mpr h)
    clear hb
    by_cases k1 : 0 ≤ ep
    · by_cases k2 : ep ≤ 1073741824
      · by_cases k3 : 0 ≤ n
        · by_cases k4 : n ≤ 1016
          · have k5 : (n % 8 != 0) = true := by simp; exact fun h => hn ⟨k1, k2, k3, k4, h⟩
            clear hn
            go_enter Tryz.func62, Tryz.ntmps62
            go_wp2
            go_ret2
            exact ⟨⟨0, _, zero_I64, rfl⟩, rfl⟩
          · clear hn
            go_enter Tryz.func62, Tryz.ntmps62
            go_wp2
            go_ret2
            exact ⟨⟨0, _, zero_I64, rfl⟩, rfl⟩
        · clear hn
          go_enter Tryz.func62, Tryz.ntmps62
          go_wp2
          go_ret2
          exact ⟨⟨0, _, zero_I64, rfl⟩, rfl⟩
      · clear hn
        go_enter Tryz.func62, Tryz.ntmps62
        go_wp2
        go_ret2
        exact ⟨⟨0, _, zero_I64, rfl⟩, rfl⟩
    · clear hn
      go_enter Tryz.func62, Tryz.ntmps62
      go_wp2
      go_ret2
      exact ⟨⟨0, _, zero_I64, rfl⟩, rfl⟩
section
variable {cb : Nat} {S : Cs} {w0 : World} {Ls : List (Nat × Obj)}
theorem Ck.gv {w : World} {wb : Nat} (h : Ck cb S w0 Ls w) (hk : S.wk = some wb) : ∃ A c, S.K.gv = .slice A S.K.got.length c := by
  obtain ⟨F, h1, _⟩ := h
  obtain ⟨_, _, a3, _⟩ := h1.work wb hk
  rcases a3.2 with ⟨e, e2⟩ | ⟨g, cap, cur, e, _, hg, _⟩
  · exact ⟨none, 0, by rw [e, e2]⟩
  · exact ⟨_, _, e⟩
/-- a block's number in a lease -/
def Hd.blk (H : Hd) : Nat → Int
  | 0 => H.b0
  | 1 => H.b1
  | 2 => H.b2
  | _ => H.b3
theorem hd_blk {w : World} {H : Hd} (h : w.heap[H.b]? = some (.cells (hdC H) 105 (0, 0))) {k : Nat} (hk : k < 4) : w.cell? ⟨H.b, 5 + k, none⟩ = some (.int .i64 (H.blk k)) := by
  rcases (by omega : k = 0 ∨ k = 1 ∨ k = 2 ∨ k = 3) with rfl | rfl | rfl | rfl
  · exact cell_of_row w H.b 5 _ _ _ h
  · exact cell_of_row w H.b 6 _ _ _ h
  · exact cell_of_row w H.b 7 _ _ _ h
  · exact cell_of_row w H.b 8 _ _ _ h
def getP (S : Cs) (a n : Int) : Pk := { kd := 1, sq := S.vs + 1, op := 2, at_ := a, n := n }
set_option maxHeartbeats 8000000 in
set_option maxRecDepth 100000 in
theorem cread_any {wb m : Nat} (hk : S.wk = some wb) (hm : S.hm = some m) (i : Int) (hi : inoF S.f S.K.fd = i) (hI : I64 i) (hf : I64 S.K.fd) (h0 : 0 ≤ S.life ∧ S.life < 1048576) (h1 : 0 ≤ S.cnt ∧ S.cnt ≤ 1000000) (hv : 0 ≤ S.vs ∧ S.vs ≤ 1000000) (now : Int) (w : World) (h : Ck cb S w0 Ls w) :
    Calls Tryz.prog 26 #[pC cb, .int .i64 now] w fun e w' => Sends cb (leaseS S i) (leaseP S i false) now w0 Ls e w' ∨ ∃ a n, 0 ≤ a ∧ a ≤ 30000 ∧ (n = 64 ∨ n = 8) ∧ Sends cb S (getP S a n) now w0 Ls e w' := by
  have HL := Lib.hid (clease_any false hk hm i hi hI hf h0 h1 now w h)
  have Hk := Lib.hid hk
  have Hm := Lib.hid hm
  have Hv := Lib.hid hv
  clear h hk hm hi hI hf h0 h1 hv
  go_enter Tryz.func26, Tryz.ntmps26
  go_wp2_with fail
  refine HL.out.mono ?_
  rintro e w1 (⟨H, hH, rfl, h1⟩ | ⟨b, rfl, hb2, hb3⟩)
  · have H1 := Lib.hid h1
    have HH := Lib.hid hH
    have c18 : w1.cell? ⟨cb, 18, none⟩ = some (ptrV S.wk) := h1.cell 18
    unfold ptrV at c18
    rw [Hk.out] at c18
    dsimp only [Option.map_some] at c18
    obtain ⟨A, c, hg⟩ := h1.gv Hk.out
    have d8 : w1.cell? ⟨wb, 8, none⟩ = some (.slice A S.K.got.length c) := by rw [← hg]; exact cell_of_row w1 wb 8 _ _ _ (h1.work Hk.out)
    have hb := (h1.holdAt Hm.out hH).1
    obtain ⟨k, hkk⟩ : ∃ k, k = S.K.got.length := ⟨_, rfl⟩
    rw [← hkk] at d8
    clear h1 hH hg HL hkk
    by_cases hk4 : k < 4
    · have e5 := hd_blk hb hk4
      have k4 : (k : Int) < 4 := by omega
      have k0 : (0 : Int) ≤ k := by omega
      clear hb
      by_cases hpos : 0 < H.blk k
      · obtain ⟨q1, q2, a, s, hp, ha⟩ := part_cells 7 (H.blk k)
        have HF := find_any5 7 (H.blk k) w1
        rw [hp] at HF
        have HF := Lib.hid HF
        have Ha := Lib.hid ha
        clear hp ha
        go_upto_region 7 with ((with_reducible refine HF.out.mono ?_); rintro e w2 ⟨rfl, hb⟩; have HB := Lib.hid hb; clear hb)
        obtain ⟨w3, hw3⟩ : ∃ u, u = w2.alloc (.cells #[.int .i64 q1, .int .i64 q2, .int .i64 a, .int .i64 s] 107) := ⟨_, rfl⟩
        obtain ⟨n1, hn1⟩ : ∃ u, u = w2.heap.size := ⟨_, rfl⟩
        rw [← hw3, ← hn1]
        have H3 : Hid (Ck cb S w0 Ls w3) := Lib.hid (by rw [hw3]; exact (H1.out.below HB.out).below ((Below.refl _ _).alloc (Nat.le_refl _) _))
        have f2 : w3.cell? ⟨n1, 2, none⟩ = some (.int .i64 a) := by rw [hw3, hn1]; exact cell_of_row _ _ 2 _ _ _ (heap_alloc_new w2 _)
        have HV := Lib.hid (cverb_any (S := S) { op := 2, at_ := a, n := 64 } rfl now Hv.out w3 H3.out)
        clear hw3 hn1 HB H1
        go_wp2_with (refine HV.out.mono ?_; rintro e w4 hs; obtain ⟨b, rfl, hs⟩ := hs; have HS := Lib.hid hs; clear hs)
        go_ret
        exact Or.inr ⟨a, 64, Ha.out.1, Ha.out.2, Or.inl rfl, b, rfl, HS.out⟩
      · have hposf : decide (0 < H.blk k) = false := by simpa using hpos
        have HF := Lib.hid (clog_any w1 H1.out)
        go_wp2_with fail
        refine HF.out.mono ?_
        rintro e w2 ⟨a, rfl, ha1, ha2, hb⟩
        have HV := Lib.hid (cverb_any (S := S) { op := 2, at_ := a, n := 8 } rfl now Hv.out w2 (H1.out.below hb))
        have Ha := Lib.hid (And.intro ha1 ha2)
        clear hb ha1 ha2 H1
        go_wp2_with (refine HV.out.mono ?_; rintro e w4 hs; obtain ⟨b, rfl, hs⟩ := hs; have HS := Lib.hid hs; clear hs)
        go_ret
        exact Or.inr ⟨a, 8, Ha.out.1, Ha.out.2, Or.inr rfl, b, rfl, HS.out⟩
    · have hk4f : decide ((k : Int) < 4) = false := by simp; omega
      clear hb
      have HF := Lib.hid (clog_any w1 H1.out)
      go_wp2_with fail
      refine HF.out.mono ?_
      rintro e w2 ⟨a, rfl, ha1, ha2, hb⟩
      have HV := Lib.hid (cverb_any (S := S) { op := 2, at_ := a, n := 8 } rfl now Hv.out w2 (H1.out.below hb))
      have Ha := Lib.hid (And.intro ha1 ha2)
      clear hb ha1 ha2 H1
      go_wp2_with (refine HV.out.mono ?_; rintro e w4 hs; obtain ⟨b, rfl, hs⟩ := hs; have HS := Lib.hid hs; clear hs)
      go_ret
      exact Or.inr ⟨a, 8, Ha.out.1, Ha.out.2, Or.inr rfl, b, rfl, HS.out⟩
  · have HS : Hid (Sends cb (leaseS S i) (leaseP S i false) now w0 Ls (.returned (.slice (some ⟨b, 0, none⟩) 1 1)) w1) := Lib.hid ⟨b, rfl, hb2, hb3⟩
    clear hb2 hb3 HL
    go_wp2_with fail
    go_ret
    exact Or.inl HS.out
end
end Go.Proofs.YtiinponoeaihcaaGreat
