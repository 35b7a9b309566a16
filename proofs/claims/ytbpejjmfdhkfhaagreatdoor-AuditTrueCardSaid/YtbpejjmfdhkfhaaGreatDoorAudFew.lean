/- Walks: the law AuditMoments: an event that is told must have taken effect between its being asked and its being told. -/
import Derived.Test.YtbpejjmfdhkfhaaGreatDoorAudRun
import Derived.Test.YtbpejjmfdhkfhaaGreatDoorPosBoth
set_option linter.unusedVariables false
set_option linter.unusedSimpArgs false
namespace Go.Proofs.YtbpejjmfdhkfhaaGreatDoor
open Go.RowKit

theorem laid_cs (cs : Array Value) (h : cs.size = 20) : Array.foldl (fun cs (x : Value × Nat) => cs.setIfInBounds x.snd x.fst) #[.int .i64 0, .int .i64 0, .int .i64 0, .string ⟨#[]⟩, .string ⟨#[]⟩, .int .i64 0, .int .i64 0, .int .i64 0, .int .i64 0, .string ⟨#[]⟩, .int .i64 0, .int .i64 0, .int .i64 0, .int .i64 0, .int .i64 0, .string ⟨#[]⟩, .slice none 0 0, .int .i64 0, .int .i64 0, .int .i64 0] cs.zipIdx 0 20 = cs := by
  obtain ⟨l⟩ := cs
  match l, h with
  | [v0, v1, v2, v3, v4, v5, v6, v7, v8, v9, v10, v11, v12, v13, v14, v15, v16, v17, v18, v19], _ => simp
def em (a d t : Int) : Ev := ⟨1, 9, 7, ⟨#[47, 97]⟩, ⟨#[]⟩, 0, 0, 0, 0, ⟨#[]⟩, a, d, t, Pz.er 0, none, 0⟩
def emC (a d t : Int) : Array Value := #[.int .i64 1, .int .i64 9, .int .i64 7, .string ⟨#[47, 97]⟩, .string ⟨#[]⟩, .int .i64 0, .int .i64 0, .int .i64 0, .int .i64 0, .string ⟨#[]⟩, .int .i64 a, .int .i64 d, .int .i64 t, .int .i64 0, .int .i64 0, .string ⟨#[]⟩, .slice none 0 0, .int .i64 0, .int .i64 0, .int .i64 0]
theorem em_cells (a d t : Int) : evC (em a d t) = emC a d t := rfl
theorem emC_one (a d t : Int) : (emC a d t).all (·.oneCell') = true := by
  simp [emC, Value.oneCell']
theorem em_rep (a d t : Int) : (evDo newFS (em a d t)).2 = Pz.er 0 := by
  show (Pz.doA newFS 1 7 [47, 97] [] 0 0 0 0 []).2 = Pz.er 0
  kernel_rfl
theorem em_may (a d t : Int) (w : World) : EvMay w (em a d t) := ⟨i64_1, i64_0, by show (2 : Nat) ≤ _; omega, by show (0 : Nat) ≤ _; omega, Or.inl rfl, by show (0 : Nat) ≤ _; omega, by show (0 : Int) ≠ 18; omega, Or.inr rfl⟩
/-- the number of the event that does not fit -/
theorem em_bad (a d t : Int) : (evBad newFS ([em a d t].filter fun x => decide (0 < x.done)) 0 = 9 ∧ 0 < d ∧ 0 < t ∧ (d < a ∨ (a ≤ d ∧ t < d))) ∨ (evBad newFS ([em a d t].filter fun x => decide (0 < x.done)) 0 = 0 ∧ (d ≤ 0 ∨ (0 < d ∧ t ≤ 0) ∨ (0 < d ∧ 0 < t ∧ decide (d < a) = false ∧ decide (t < d) = false))) := by
  by_cases h1 : 0 < d
  · have hf : ([em a d t].filter fun x => decide (0 < x.done)) = [em a d t] := List.filter_cons_of_pos (by show decide (0 < d) = true; simpa using h1)
    rw [hf, evBad, evBad]
    by_cases hq : Fits newFS (em a d t)
    · rw [if_neg (fun h => by rw [fitB_iff.2 hq] at h; cases h.1)]
      refine Or.inr ⟨rfl, Or.inr ?_⟩
      by_cases h2 : 0 < t
      · obtain ⟨h3, h4, _⟩ := hq h2
        have h3' : a ≤ d := h3
        have h4' : d ≤ t := h4
        exact Or.inr ⟨h1, h2, decide_eq_false (by omega), decide_eq_false (by omega)⟩
      · exact Or.inl ⟨h1, by omega⟩
    · have hb : fitB newFS (em a d t) = false := by
        cases h : fitB newFS (em a d t) with
        | false => rfl
        | true => exact absurd (fitB_iff.1 h) hq
      rw [if_pos ⟨hb, rfl⟩]
      refine Or.inl ⟨rfl, h1, ?_⟩
      have h2 : 0 < t := Classical.byContradiction fun h => hq fun h' => absurd h' h
      refine ⟨h2, Classical.byContradiction fun h => hq fun _ => ⟨?_, ?_, em_rep a d t⟩⟩
      · show a ≤ d
        omega
      · show d ≤ t
        omega
  · have hf : ([em a d t].filter fun x => decide (0 < x.done)) = [] := List.filter_cons_of_neg (by show ¬ (decide (0 < d) = true); simpa using h1)
    rw [hf]
    exact Or.inr ⟨rfl, Or.inl (by omega)⟩

set_option maxHeartbeats 4000000 in
set_option maxRecDepth 100000 in
theorem law_moments [Inhabited XBox] (a d t : Int) (w : World) (hx : MxX w) : Calls Tryz.prog 5 #[.int .i64 a, .int .i64 d, .int .i64 t] w fun e w' => e = .returned (.bool true) ∧ Below w.heap.size w w' := by
  have HX := Lib.hid hx
  clear hx
  go_enter Tryz.func5, Tryz.ntmps5
  go_wp2_with (first | (refine wpList_store_mid rfl 53 _ _ rfl w.heap.size 0 _ rfl rfl (there_new _ _ _ _ rfl) Tryz.sizeEv (by simp [Value.oneCell']) ?_; generalize hwe : (World.setCells _ _ _ _) = we; obtain ⟨hbe, hee⟩ : Below w.heap.size w we ∧ we.heap[w.heap.size]? = some (.cells (evC (em a d t)) 53 (0, 0)) := (by rw [← hwe]; exact new_whole w _ _ _ rfl); clear hwe; obtain ⟨cs, hcs⟩ : ∃ cs, cs = evC (em a d t) := ⟨_, rfl⟩; have hrg := (evAt_row hee).range; have hsz : (Tryz.prog.info? 53).map (fun i => i.size) = some cs.toList.length := (by rw [hcs]; exact Tryz.sizeEv); rw [← hcs] at hrg hee; have hcz : cs.size = 20 := (by rw [hcs]; rfl); have HCs := Lib.hid hcs; clear hcs) | (refine wpList_load_mid rfl 53 _ rfl w.heap.size 0 rfl cs.toList _ hrg Tryz.underlying53 rfl hsz ?_))
  try rw [hcz]
  rw [laid_cs cs hcz]
  rw [HCs.out] at hee ⊢
  clear hrg hsz hcz
  obtain ⟨w1, hw1⟩ : ∃ v, v = we.alloc (.cells (evC (em a d t)) 53) := ⟨_, rfl⟩
  rw [← hw1]
  have hb1 : Below we.heap.size we w1 := by rw [hw1]; exact (Below.refl _ _).alloc (Nat.le_refl _) _
  have h1 : w1.heap[we.heap.size]? = some (.cells (evC (em a d t)) 53 (0, 0)) := by rw [hw1]; exact heap_alloc_new _ _
  have hbw := hbe.trans (hb1.mono hbe.size)
  have HBw := Lib.hid hbw
  have hR := run_any (some ⟨we.heap.size, 0, none⟩) [em a d t] 1 w1 (mxx_grow HX.out hbw) (by simp) (evs_one h1) (fun x hx => by rw [List.mem_singleton.1 hx]; exact em_may a d t _) (by
    by_cases h : 0 < d
    · rw [show ([em a d t].filter fun x => decide (0 < x.done)) = [em a d t] from List.filter_cons_of_pos (by show decide (0 < d) = true; simpa using h)]
      simp
    · rw [show ([em a d t].filter fun x => decide (0 < x.done)) = [] from List.filter_cons_of_neg (by show ¬ (decide (0 < d) = true); simpa using h)]
      exact List.Pairwise.nil)
  have HB := Lib.hid (em_bad a d t)
  obtain ⟨N, hN⟩ : ∃ N, N = evBad newFS ([em a d t].filter fun x => decide (0 < x.done)) 0 := ⟨_, rfl⟩
  rw [← hN] at hR HB
  have HR := Lib.hid hR
  clear hw1 hb1 h1 hbw hbe hee hR hN
  refine HR.out.mono ?_
  rintro e w2 ⟨pr, rfl, hb2⟩
  have HB2 := Lib.hid (HBw.out.trans (hb2.mono HBw.out.size))
  have HL := Lib.hid (alives_any w2 (mxx_grow HX.out HB2.out))
  clear hb2
  go_upto_region 3 with fail
  rcases HB.out with ⟨rfl, h1, h2, h3 | ⟨h3, h4⟩⟩ | ⟨rfl, h1 | ⟨h1, h2⟩ | ⟨h1, h2, h3, h4⟩⟩
  all_goals
    clear HB
    go_wp2_with fail
    refine HL.out.mono ?_
    rintro e w3 ⟨rfl, hb3⟩
    have HB3 := Lib.hid (HB2.out.trans (hb3.mono HB2.out.size))
    clear hb3
    go_wp2
    go_ret
    exact ⟨rfl, HB3.out⟩

end Go.Proofs.YtbpejjmfdhkfhaaGreatDoor

/- Walks: the audit's law's few: a row of events cut short. -/
namespace Go.Proofs.YtbpejjmfdhkfhaaGreatDoor
open Go.RowKit

theorem Tryz.infoEv : (Tryz.prog.info? 53).map (fun i => (i.zero, i.size, i.bytes)) = some (some (.agg #[.int .i64 0, .int .i64 0, .int .i64 0, .string ByteArray.empty, .string ByteArray.empty, .int .i64 0, .int .i64 0, .int .i64 0, .int .i64 0, .string ByteArray.empty, .int .i64 0, .int .i64 0, .int .i64 0, .int .i64 0, .int .i64 0, .string ByteArray.empty, .slice none 0 0, .int .i64 0, .int .i64 0, .int .i64 0]), 20, 208) := by kernel_rfl
theorem str_eta (s : ByteArray) : (⟨s.data.toList.toArray⟩ : ByteArray) = s := by
  cases s
  simp
theorem cells_newK (w : World) (cs : Array Value) (t : TypeId) : ∀ j u, cs.toList[j]? = some u → (w.alloc (.cells cs t)).cell? ((⟨w.heap.size, 0, none⟩ : Addr).add j) = some u := by
  intro j u hj
  have h := cell_of_row (w.alloc (.cells cs t)) w.heap.size j cs t _ (heap_alloc_new w _)
  have e : ((⟨w.heap.size, 0, none⟩ : Addr).add j) = ⟨w.heap.size, j, none⟩ := by rw [Addr.add_mid, Nat.zero_add]
  rw [e, h]
  simpa using hj
/-- an event with few of all that a call has -/
structure EvFew (x : Ev) : Prop where
  cl : I64 x.cl
  fd : I64 x.fd
  p : x.p.size ≤ 60
  p2 : x.p2.size ≤ 60
def FewSaid (w : World) (e : Ending) (w' : World) : Prop :=
  ∃ (A' : Option Addr) (U : List Ev) (c' : Nat), e = .returned (.slice A' U.length c') ∧ U.length ≤ 25 ∧ Evs w' A' U ∧ (∀ x ∈ U, EvFew x) ∧ Below w.heap.size w w'

set_option maxHeartbeats 8000000 in
set_option maxRecDepth 100000 in
theorem few_any (A : Option Addr) (L : List Ev) (c : Nat) (w : World) (hlen : L.length ≤ 9223372036854775807) (hE : Evs w A L) (hI : ∀ x ∈ L, I64 x.cl ∧ I64 x.fd ∧ x.q.names.length ≤ x.c) :
    Calls Tryz.prog 14 #[.slice A L.length c] w (FewSaid w) := by
  obtain ⟨i0, hi, hz0, hz1, hz2⟩ := info_parts Tryz.infoEv
  have HE := Lib.hid hE
  have HI := Lib.hid hI
  obtain ⟨n, hn⟩ : ∃ n, n = L.length := ⟨_, rfl⟩
  rw [← hn]
  rw [← hn] at hlen
  have Hn := Lib.hid hn
  clear hE hI hn
  go_enter Tryz.func14, Tryz.ntmps14
  go_wp2
  go_loopw [3, 4] (fun u v wr => ∃ (k : Nat) (U : List Ev), v = .int .i64 k ∧ k ≤ n ∧ k ≤ 25 ∧ U.length = k ∧ wr.ownsRow w.heap.size 53 20 u U.length (flat evC U) ∧ Hid (∀ x ∈ U, EvFew x) ∧ Below w.heap.size w wr) (fun _ v _ => 25 - (intOf v).toNat)
  case atStart => exact ⟨0, [], rfl, by omega, by omega, rfl, World.ownsRow_nil _ _ _ _, Lib.hid (fun x hx => by cases hx), Below.refl _ _⟩
  case round =>
    obtain ⟨k, U, rfl, hkn, hk25, hU, hown, hfew, hbw⟩ := hrel
    have HU := Lib.hid hU
    clear hU
    obtain ⟨A', c', hv, hevs⟩ := evs_of_row hown
    rw [hv] at hown
    rw [hv]
    by_cases hk : k < n ∧ k < 25
    · obtain ⟨h1, h2⟩ := hk
      obtain ⟨x, hx⟩ : ∃ x, L[k]? = some x := ⟨_, List.getElem?_eq_getElem (by have := Hn.out; omega)⟩
      rcases HE.out with h | ⟨b, o, rfl, hb, hcells⟩
      · rw [h] at hx; simp at hx
      have hrg := ((hcells k x hx).of fun i => hbw.cell (p := ⟨b, i, none⟩) hb).range
      have HX := Lib.hid (HI.out x (List.mem_of_getElem? hx))
      have h1' : (k : Int) < n := by omega
      have h2' : (k : Int) < 25 := by omega
      have h0' : (0 : Int) ≤ k := by omega
      have HO := Lib.hid hown
      have HF := Lib.hid hfew.out
      have HB := Lib.hid hbw
      obtain ⟨eb, heb⟩ : ∃ eb, eb = wr.heap.size := ⟨_, rfl⟩
      have Heb := Lib.hid heb
      clear hcells hx h1 h2 hown hfew hbw hevs hv heb
      go_upto_if 24 with (first | (refine wpList_load_mid rfl 53 _ rfl b (o + k * 20) rfl (evC x).toList _ hrg Tryz.underlying53 rfl Tryz.sizeEv ?_) | (refine wpList_store_mid rfl 53 _ _ rfl wr.heap.size 0 (evC x).toList.toArray rfl rfl (there_new _ _ _ _ rfl) Tryz.sizeEv (evC_one x) ?_; generalize hwe : (World.setCells _ _ _ _) = w0; have H0 : Hid ((I64 x.cl ∧ I64 x.fd ∧ x.q.names.length ≤ x.c) ∧ Below wr.heap.size wr w0 ∧ w0.heap[eb]? = some (.cells (evC x) 53 (0, 0))) := Lib.hid ⟨HX.out, (by rw [← hwe, Heb.out]; exact new_whole wr _ _ _ rfl)⟩; clear hwe; rw [← Heb.out]; have cc : w0.cell? ⟨eb, 3, none⟩ = some (.string x.p) := cell_of_row w0 eb 3 _ _ _ H0.out.2.2; have ff := frozen_of_row w0 eb 3 _ _ H0.out.2.2))
      clear hrg
      go_cut [] from 25 to 30 (fun wx => ∃ x' : Ev, Hid ((I64 x'.cl ∧ I64 x'.fd ∧ x'.q.names.length ≤ x'.c ∧ x'.p.size ≤ 60) ∧ Below wr.heap.size wr wx ∧ wx.heap[eb]? = some (.cells (evC x') 53 (0, 0))))
      case first =>
        by_cases h : 60 < x.p.size
        · have HH := Lib.hid h
          go_wp2_with fail
          go_meet
          exact ⟨{ x with p := x.p.extract 0 60 }, Lib.hid ⟨⟨H0.out.1.1, H0.out.1.2.1, H0.out.1.2.2, by show (x.p.extract 0 60).size ≤ 60; rw [ByteArray.size_extract]; omega⟩, H0.out.2.1.setCell (by rw [Heb.out]; exact Nat.le_refl _) _, (Go.heap_setCell_same w0 eb 3 _ _ _ H0.out.2.2)⟩⟩
        · have HH := Lib.hid h
          go_wp2_with fail
          go_meet
          exact ⟨x, Lib.hid ⟨⟨H0.out.1.1, H0.out.1.2.1, H0.out.1.2.2, by have := HH.out; omega⟩, H0.out.2⟩⟩
      case rest =>
      obtain ⟨wy1, rfl⟩ : ∃ v, v = wc := ⟨_, rfl⟩
      obtain ⟨x1, H1⟩ := hcut
      clear cc ff
      have cc : wy1.cell? ⟨eb, 4, none⟩ = some (.string x1.p2) := cell_of_row wy1 eb 4 _ _ _ H1.out.2.2
      have ff := frozen_of_row wy1 eb 4 _ _ H1.out.2.2
      go_upto_if 35 with fail
      go_cut [] from 36 to 41 (fun wx => ∃ x' : Ev, Hid ((I64 x'.cl ∧ I64 x'.fd ∧ x'.q.names.length ≤ x'.c ∧ x'.p.size ≤ 60 ∧ x'.p2.size ≤ 60) ∧ Below wr.heap.size wr wx ∧ wx.heap[eb]? = some (.cells (evC x') 53 (0, 0))))
      case first =>
        by_cases h : 60 < x1.p2.size
        · have HH := Lib.hid h
          go_wp2_with fail
          go_meet
          exact ⟨{ x1 with p2 := x1.p2.extract 0 60 }, Lib.hid ⟨⟨H1.out.1.1, H1.out.1.2.1, H1.out.1.2.2.1, H1.out.1.2.2.2, by show (x1.p2.extract 0 60).size ≤ 60; rw [ByteArray.size_extract]; omega⟩, H1.out.2.1.setCell (by rw [Heb.out]; exact Nat.le_refl _) _, (Go.heap_setCell_same wy1 eb 4 _ _ _ H1.out.2.2)⟩⟩
        · have HH := Lib.hid h
          go_wp2_with fail
          go_meet
          exact ⟨x1, Lib.hid ⟨⟨H1.out.1.1, H1.out.1.2.1, H1.out.1.2.2.1, H1.out.1.2.2.2, by have := HH.out; omega⟩, H1.out.2⟩⟩
      case rest =>
      obtain ⟨wy2, rfl⟩ : ∃ v, v = wc := ⟨_, rfl⟩
      obtain ⟨x2, H2⟩ := hcut
      clear cc ff
      have cc : wy2.cell? ⟨eb, 9, none⟩ = some (.string x2.data) := cell_of_row wy2 eb 9 _ _ _ H2.out.2.2
      have ff := frozen_of_row wy2 eb 9 _ _ H2.out.2.2
      go_upto_if 46 with fail
      go_cut [] from 47 to 52 (fun wx => ∃ x' : Ev, Hid ((I64 x'.cl ∧ I64 x'.fd ∧ x'.q.names.length ≤ x'.c ∧ x'.p.size ≤ 60 ∧ x'.p2.size ≤ 60) ∧ Below wr.heap.size wr wx ∧ wx.heap[eb]? = some (.cells (evC x') 53 (0, 0))))
      case first =>
        by_cases h : 80 < x2.data.size
        · have HH := Lib.hid h
          go_wp2_with fail
          go_meet
          exact ⟨{ x2 with data := x2.data.extract 0 80 }, Lib.hid ⟨H2.out.1, H2.out.2.1.setCell (by rw [Heb.out]; exact Nat.le_refl _) _, (Go.heap_setCell_same wy2 eb 9 _ _ _ H2.out.2.2)⟩⟩
        · have HH := Lib.hid h
          go_wp2_with fail
          go_meet
          exact ⟨x2, Lib.hid ⟨H2.out.1, H2.out.2⟩⟩
      case rest =>
      obtain ⟨wy3, rfl⟩ : ∃ v, v = wc := ⟨_, rfl⟩
      obtain ⟨x3, H3⟩ := hcut
      clear cc ff
      obtain ⟨dd, hdd⟩ : ∃ dd : ByteArray, dd = ⟨x3.q.data.toArray⟩ := ⟨_, rfl⟩
      have cc : wy3.cell? ⟨eb, 15, none⟩ = some (.string dd) := by rw [hdd]; exact cell_of_row wy3 eb 15 _ _ _ H3.out.2.2
      clear hdd
      have ff := frozen_of_row wy3 eb 15 _ _ H3.out.2.2
      go_upto_if 57 with fail
      go_cut [] from 58 to 63 (fun wx => ∃ x' : Ev, Hid ((I64 x'.cl ∧ I64 x'.fd ∧ x'.q.names.length ≤ x'.c ∧ x'.p.size ≤ 60 ∧ x'.p2.size ≤ 60) ∧ Below wr.heap.size wr wx ∧ wx.heap[eb]? = some (.cells (evC x') 53 (0, 0))))
      case first =>
        by_cases h : 80 < dd.size
        · have HH := Lib.hid h
          go_wp2_with fail
          go_meet
          exact ⟨{ x3 with q := { x3.q with data := (dd.extract 0 80).data.toList } }, Lib.hid ⟨H3.out.1, H3.out.2.1.setCell (by rw [Heb.out]; exact Nat.le_refl _) _, (Go.heap_setCell_same wy3 eb 15 _ _ _ H3.out.2.2).trans (by rw [show (.string (dd.extract 0 80) : Value) = .string ⟨(dd.extract 0 80).data.toList.toArray⟩ from by rw [str_eta]]; rfl)⟩⟩
        · have HH := Lib.hid h
          go_wp2_with fail
          go_meet
          exact ⟨x3, Lib.hid ⟨H3.out.1, H3.out.2⟩⟩
      case rest =>
      obtain ⟨wy4, rfl⟩ : ∃ v, v = wc := ⟨_, rfl⟩
      obtain ⟨x4, H4⟩ := hcut
      clear cc ff
      obtain ⟨nn, hnn⟩ : ∃ nn, nn = x4.q.names.length := ⟨_, rfl⟩
      have HN := Lib.hid hnn
      have hcap : nn ≤ x4.c := by rw [hnn]; exact H4.out.1.2.2.1
      have cc : wy4.cell? ⟨eb, 16, none⟩ = some (.slice x4.A nn x4.c) := by rw [hnn]; exact cell_of_row wy4 eb 16 _ _ _ H4.out.2.2
      clear hnn
      have ff := frozen_of_row wy4 eb 16 _ _ H4.out.2.2
      go_upto_if 68 with fail
      go_cut [] from 69 to 74 (fun wx => ∃ x' : Ev, Hid ((I64 x'.cl ∧ I64 x'.fd ∧ x'.q.names.length ≤ x'.c ∧ x'.p.size ≤ 60 ∧ x'.p2.size ≤ 60) ∧ Below wr.heap.size wr wx ∧ wx.heap[eb]? = some (.cells (evC x') 53 (0, 0))))
      case first =>
        by_cases h : 20 < nn
        · have h' : (20 : Int) < nn := by omega
          have h20 : (20 : Int) ≤ x4.c := by omega
          have HL := Lib.hid h
          go_wp2_with fail
          go_meet
          exact ⟨{ x4 with q := { x4.q with names := x4.q.names.take 20 } }, Lib.hid ⟨⟨H4.out.1.1, H4.out.1.2.1, by show (x4.q.names.take 20).length ≤ x4.c; rw [List.length_take]; omega, H4.out.1.2.2.2⟩, H4.out.2.1.setCell (by rw [Heb.out]; exact Nat.le_refl _) _, (Go.heap_setCell_same wy4 eb 16 _ _ _ H4.out.2.2).trans (by
            have hl : (x4.q.names.take 20).length = 20 := by rw [List.length_take, ← HN.out]; have := HL.out; omega
            simp [evC, hl])⟩⟩
        · have h' : (nn : Int) ≤ 20 := by omega
          go_wp2_with fail
          go_meet
          exact ⟨x4, H4⟩
      case rest =>
      obtain ⟨wy5, rfl⟩ : ∃ v, v = wc := ⟨_, rfl⟩
      obtain ⟨x5, H5⟩ := hcut
      clear cc ff
      have hrg := (evAt_row H5.out.2.2).range
      have hbw5 := HB.out.trans (H5.out.2.1.mono HB.out.size)
      have hown5 : wy5.ownsRow w.heap.size 53 20 (.slice A' U.length c') U.length (flat evC U) := HO.out.kept (grown_of H5.out.2.1) (by cases hv : (Value.slice A' U.length c').ownBlock <;> simp)
      obtain ⟨cs, hcs⟩ : ∃ cs, cs = evC x5 := ⟨_, rfl⟩
      have hsz : (Tryz.prog.info? 53).map (fun i => i.size) = some cs.toList.length := by rw [hcs]; exact Tryz.sizeEv
      have hcz : cs.size = 20 := by rw [hcs]; rfl
      have hco : ∀ u ∈ cs.toList, u.oneCell' = true := by
        rw [hcs]
        intro u hu
        simp [evC] at hu
        rcases hu with rfl | rfl | rfl | rfl | rfl | rfl | rfl | rfl | rfl | rfl | rfl | rfl | rfl | rfl | rfl | rfl | rfl | rfl | rfl | rfl <;> rfl
      rw [← hcs] at hrg
      have HCs := Lib.hid hcs
      clear hcs
      go_wp2_with (first | (refine wpList_load_mid rfl 53 _ rfl eb 0 rfl cs.toList _ hrg Tryz.underlying53 rfl hsz ?_) | (at_builtin; rw [laid_cs cs hcz]; refine wpList_append_own _ rfl _ _ 49 rfl w.heap.size 53 i0 _ 20 208 Tryz.underlying49 hi hz0 hz1 hz2 rfl (by decide) (.slice A' U.length c') U.length (flat evC U) rfl (hown5.alloc _) ⟨wy5.heap.size, 0, none⟩ 1 1 cs.toList rfl (by simp [hcz]) (cells_newK _ _ _) hco (by have := HU.out; unfold maxLen; omega) (by have := HU.out; omega) (by have := hbw5.size; simp; omega) ?_; intro v' w1 hown' hgrow _))
      have hsn : flat evC U ++ cs.toList = flat evC (U ++ [x5]) := by
        rw [HCs.out]
        exact flat_snoc U x5
      rw [hsn, show U.length + 1 = (U ++ [x5]).length by simp] at hown'
      have hB1 : Below w.heap.size w w1 := (hbw5.alloc hbw5.size _).grown hgrow (by have := hbw5.size; simp; omega) (fun q hq => (hown5.lt q hq).1)
      obtain ⟨A2, c2, hv', _⟩ := evs_of_row hown'
      rw [hv'] at hown'
      rw [hv']
      have HO' := Lib.hid hown'
      have HF' : Hid (∀ x ∈ U ++ [x5], EvFew x) := Lib.hid fun y hy => by
        rcases List.mem_append.1 hy with hy | hy
        · exact HF.out y hy
        · rw [List.mem_singleton.1 hy]
          obtain ⟨q1, q2, _, q4, q5⟩ := H5.out.1
          exact ⟨q1, q2, q4, q5⟩
      clear hown' hv' hsn hown5 hrg hsz hcz hco hgrow
      go_wp2
      go_roundw
      case rel => exact ⟨k + 1, U ++ [x5], by go_num, by omega, by omega, by rw [List.length_append, List.length_singleton, HU.out], HO'.out, HF', hB1⟩
      case measure => simp [intOf]; omega
    · have HEv := Lib.hid hevs
      obtain ⟨bb, hbb⟩ : ∃ bb : Bool, (n : Int) ≤ k ∨ ((k : Int) < n ∧ (25 : Int) ≤ k ∧ decide ((k : Int) < 25) = false) := ⟨true, by
        by_cases hkn' : k < n
        · exact Or.inr ⟨by omega, by omega, decide_eq_false (by omega)⟩
        · exact Or.inl (by omega)⟩
      have HU2 : Hid (U.length ≤ 25) := Lib.hid (by have := HU.out; omega)
      clear hk hevs hv hown
      rcases hbb with h | ⟨h, h', h2⟩
      · go_wp2
        go_ret
        exact ⟨A', U, c', rfl, HU2.out, HEv.out, hfew.out, hbw⟩
      · go_wp2
        go_ret
        exact ⟨A', U, c', rfl, HU2.out, HEv.out, hfew.out, hbw⟩

end Go.Proofs.YtbpejjmfdhkfhaaGreatDoor
