/- Walks: the program's Copy. -/
import Derived.Test.YtiepdioaidglmaaGreatDoorPosCWalk
import Derived.Deep.RegionHeld3
set_option linter.unusedVariables false
set_option linter.unusedSimpArgs false
namespace Go.Proofs.YtiepdioaidglmaaGreatDoor
open Go.RowKit
open Go.ChangeMaps Go.MapKept

theorem MapO.congr {D : DataW Unit} {γ γ' : Nat → Nat} {O : List Pz.Op} (h : MapO D γ O) (hg : ∀ o ∈ O, γ' o.node = γ o.node) : MapO D γ' O := by
  refine ⟨fun c fd zd hc hf => ?_, h.2⟩
  rw [h.1 c fd zd hc hf]
  by_cases hl : Pz.ofd O c fd < 0
  · rw [if_pos hl, if_pos hl]
  · rw [if_neg hl, if_neg hl]
    obtain ⟨o, ho, hn⟩ := ofd_node (m := (Pz.ofd O c fd).toNat) (O := O) (c := c) (fd := fd) (by omega)
    rw [← hn, hg o ho]

namespace Pz
theorem ofd_appC {O G : List Op} {c fd : Int} : ofd (O ++ G) c fd = if 0 ≤ ofd O c fd then ofd O c fd else ofd G c fd := by
  induction O with
  | nil => rfl
  | cons a r ih =>
    rw [List.cons_append, ofd, ofd]
    split
    · rw [if_pos (Int.natCast_nonneg _)]
    · exact ih
theorem ofd_memC {O : List Op} {c fd : Int} : 0 ≤ ofd O c fd ↔ ∃ o ∈ O, o.client = c ∧ o.fd = fd := by
  induction O with
  | nil => rw [ofd]; simp
  | cons a r ih =>
    rw [ofd]
    by_cases he : a.client = c ∧ a.fd = fd
    · rw [if_pos he]
      exact ⟨fun _ => ⟨a, List.mem_cons_self .., he⟩, fun _ => by omega⟩
    · rw [if_neg he, ih]
      refine ⟨fun ⟨o, ho, h⟩ => ⟨o, List.mem_cons_of_mem _ ho, h⟩, fun ⟨o, ho, h⟩ => ?_⟩
      rcases List.mem_cons.1 ho with rfl | ho
      · exact absurd h he
      · exact ⟨o, ho, h⟩
theorem ofd_oneC (o : Op) (c fd : Int) : ofd [o] c fd = if o.client = c ∧ o.fd = fd then (o.node : Int) else -1 := by rw [ofd, ofd]
/-- of the descriptors those that O' has are handled -/
structure OPart (O : List Op) (left : Lit → Bool) (O' : List Op) (P : List Nat) : Prop where
  sub : ∀ c fd, 0 ≤ ofd O' c fd → ofd O' c fd = ofd O c fd
  all : ∀ c fd, I64 c → I64 fd → left (keyL c fd) = false → 0 ≤ ofd O c fd → 0 ≤ ofd O' c fd
  fresh : ∀ c fd, I64 c → I64 fd → left (keyL c fd) = true → ofd O' c fd < 0
  one : O'.Pairwise fun a b => ¬ (a.client = b.client ∧ a.fd = b.fd)
  inP : ∀ o ∈ O', o.node ∈ P
  nums : ∀ o ∈ O', I64 o.client ∧ I64 o.fd
theorem OPart.fin {O : List Op} {left : Lit → Bool} {O' : List Op} {P : List Nat} (h : OPart O left O' P) (hl : ∀ kl, left kl = false) (hO : ∀ o ∈ O, I64 o.client ∧ I64 o.fd) : ∀ c fd, ofd O' c fd = ofd O c fd := fun c fd => by
  by_cases hx : 0 ≤ ofd O c fd
  · obtain ⟨o, ho, rfl, rfl⟩ := ofd_memC.1 hx
    exact h.sub _ _ (h.all _ _ (hO o ho).1 (hO o ho).2 (hl _) hx)
  · by_cases hx' : 0 ≤ ofd O' c fd
    · exact h.sub c fd hx'
    · have a1 : ∀ G : List Op, -1 ≤ ofd G c fd := fun G => by
        induction G with
        | nil => exact Int.le_refl _
        | cons a r ih =>
          rw [ofd]
          split
          · omega
          · exact ih
      have := a1 O
      have := a1 O'
      omega
theorem OPart.step {O : List Op} {left : Lit → Bool} {O' : List Op} {P P2 : List Nat} {c fd : Int} {m : Nat} (h : OPart O left O' P) (hc : I64 c) (hf : I64 fd) (hx : left (keyL c fd) = true) (hm : ofd O c fd = m) (hP : ∀ a ∈ P, a ∈ P2) (hmP : m ∈ P2) :
    OPart O (fun z => left z && !z.sameKey (keyL c fd)) (O' ++ [⟨c, fd, m⟩]) P2 where
  sub := fun a b hy => by
    rw [ofd_appC, ofd_oneC] at hy ⊢
    by_cases h0 : 0 ≤ ofd O' a b
    · rw [if_pos h0]
      exact h.sub a b h0
    · rw [if_neg h0] at hy ⊢
      by_cases hxy : c = a ∧ fd = b
      · obtain ⟨rfl, rfl⟩ := hxy
        rw [if_pos ⟨rfl, rfl⟩, hm]
      · rw [if_neg (fun e => hxy e)] at hy
        omega
  all := fun a b ha hb hy hE => by
    rw [ofd_appC, ofd_oneC]
    by_cases h0 : 0 ≤ ofd O' a b
    · rw [if_pos h0]
      exact h0
    · rw [if_neg h0]
      by_cases hxy : c = a ∧ fd = b
      · rw [if_pos hxy]
        exact Int.natCast_nonneg _
      · exfalso
        have hk : (keyL a b).sameKey (keyL c fd) = false := by
          have hne : keyL a b ≠ keyL c fd := fun e => hxy (by
            obtain ⟨e1, e2⟩ := keyL_inj ha hb hc hf e
            exact ⟨e1.symm, e2.symm⟩)
          unfold keyL at hne ⊢
          simp [Lit.sameKey]
          exact fun e => hne (by rw [e])
        rw [hk] at hy
        simp at hy
        exact h0 (h.all a b ha hb hy hE)
  fresh := fun a b ha hb hy => by
    have hy1 : left (keyL a b) = true := by
      cases hl : left (keyL a b) with
      | true => rfl
      | false => rw [hl] at hy; cases hy
    have h0 := h.fresh a b ha hb hy1
    rw [ofd_appC, if_neg (by omega), ofd_oneC]
    rw [if_neg]
    · omega
    · rintro ⟨h1, h2⟩
      simp only at h1 h2
      rw [h1, h2, hy1] at hy
      unfold keyL at hy
      simp [Lit.sameKey] at hy
  one := by
    rw [List.pairwise_append]
    refine ⟨h.one, List.pairwise_singleton _ _, fun a ha b hb => ?_⟩
    obtain rfl := List.mem_singleton.1 hb
    intro hh
    have := h.fresh c fd hc hf hx
    have h2 : 0 ≤ ofd O' c fd := ofd_memC.2 ⟨a, ha, hh⟩
    omega
  inP := fun o ho => by
    rcases List.mem_append.1 ho with ho | ho
    · exact hP _ (h.inP o ho)
    · obtain rfl := List.mem_singleton.1 ho
      exact hmP
  nums := fun o ho => by
    rcases List.mem_append.1 ho with ho | ho
    · exact h.nums o ho
    · obtain rfl := List.mem_singleton.1 ho
      exact ⟨hc, hf⟩
theorem olen_same {O O' : List Op} (h1 : O.Pairwise fun a b => ¬ (a.client = b.client ∧ a.fd = b.fd)) (h2 : O'.Pairwise fun a b => ¬ (a.client = b.client ∧ a.fd = b.fd)) (h : ∀ c fd, ofd O' c fd = ofd O c fd) : O'.length = O.length := by
  have nd : ∀ {G : List Op}, G.Pairwise (fun a b => ¬ (a.client = b.client ∧ a.fd = b.fd)) → (G.map fun o => (o.client, o.fd)).Nodup := fun hG =>
    List.Pairwise.map (R := fun a b : Op => ¬ (a.client = b.client ∧ a.fd = b.fd)) _ (fun a b hab e => hab (by
      simp only [Prod.mk.injEq] at e
      exact e)) hG
  have mem : ∀ {G : List Op} {x : Int × Int}, x ∈ (G.map fun o => (o.client, o.fd)) ↔ 0 ≤ ofd G x.1 x.2 := fun {G x} => by
    rw [ofd_memC, List.mem_map]
    constructor
    · rintro ⟨o, ho, rfl⟩
      exact ⟨o, ho, rfl, rfl⟩
    · rintro ⟨o, ho, h1, h2⟩
      exact ⟨o, ho, by rw [h1, h2]⟩
  have hp := (List.perm_ext_iff_of_nodup (nd h2) (nd h1)).2 fun x => by rw [mem, mem, h]
  have := hp.length_eq
  rw [List.length_map, List.length_map] at this
  exact this
end Pz

end Go.Proofs.YtiepdioaidglmaaGreatDoor

/- Walks: the program's Copy: all that lives, in new blocks. -/
namespace Go.Proofs.YtiepdioaidglmaaGreatDoor
open Go.RowKit
open Go.ChangeMaps Go.MapKept

namespace Pz
theorem ofd_of_mem {O : List Op} (ho : O.Pairwise fun a b => ¬ (a.client = b.client ∧ a.fd = b.fd)) {o : Op} (h : o ∈ O) : ofd O o.client o.fd = o.node := by
  induction O with
  | nil => cases h
  | cons a r ih =>
    obtain ⟨h1, h2⟩ := List.pairwise_cons.1 ho
    rw [ofd]
    rcases List.mem_cons.1 h with rfl | h
    · rw [if_pos ⟨rfl, rfl⟩]
    · rw [if_neg (h1 o h)]
      exact ih h2 h
end Pz

/-- what the loop over the descriptors holds -/
structure OLoop (w wr : World) (bc r' bo' : Nat) (β : Nat → Nat) (S : Pz.Fil) (V : Nat → Prop) (left : Lit → Bool) (P' : List Nat) (γ' ν' : Nat → Nat) (O' : List Pz.Op) (D' : DataW Unit) : Prop where
  cop : Copied w wr bc β S V P' (fun _ => False) γ' ν'
  z : 0 ∈ P'
  fresh : ∀ m ∈ P', Pz.isDir S.N m = true → w.heap.size ≤ ν' m ∧ ν' m ≠ bo'
  root : wr.heap[r']? = some (.cells #[.pointer (some ⟨γ' 0, 0, none⟩), .map (some bo')] 64 (0, 0))
  own : wr.ownsMap Tryz.prog 66 ptrE bo' O'.length D'
  mo : MapO D' γ' O'
  part : Pz.OPart S.O left O' P'
theorem OLoop.fin {w wr : World} {bc r' bo' : Nat} {β : Nat → Nat} {S : Pz.Fil} {V : Nat → Prop} {left : Lit → Bool} {P' : List Nat} {γ' ν' : Nat → Nat} {O' : List Pz.Op} {D' : DataW Unit} (h : OLoop w wr bc r' bo' β S V left P' γ' ν' O' D') (hl : ∀ kl, left kl = false)
    (hO : ∀ o ∈ S.O, I64 o.client ∧ I64 o.fd) (hone : S.O.Pairwise fun a b => ¬ (a.client = b.client ∧ a.fd = b.fd)) (hV : ∀ n, V n → n < S.N.length) : Shape wr r' bo' γ' ν' S (fun n => n ∈ P') := by
  have hofd := h.part.fin hl hO
  have hlen := Pz.olen_same hone h.part.one hofd
  exact {
    root := h.root
    node := fun n hn => h.cop.node n hn id
    dirs := fun n hn hd => by
      obtain ⟨D, h1, h2, _⟩ := h.cop.dirs n hn id hd
      exact ⟨D, h1, h2⟩
    opn := ⟨D', by rw [← hlen]; exact h.own, fun c fd zd hc hf => by rw [h.mo.1 c fd zd hc hf, hofd c fd], by rw [h.mo.2, hlen]⟩
    bInj := fun n m hn hm e => h.cop.inj n hn m hm e
    v0 := h.z
    ve := fun e he hd => h.cop.ve _ hd id e he rfl
    vo := fun o ho => by
      have h1 := Pz.ofd_of_mem hone ho
      rw [← hofd] at h1
      obtain ⟨o', ho', hn⟩ := ofd_node h1
      rw [← hn]
      exact h.part.inP o' ho'
    vlt := fun n hn => hV n (h.cop.mem n hn) }

/-- what a copy comes to: it lies in new blocks -/
def CopiedYes (S : Pz.Fil) (w : World) (e : Ending) (w' : World) : Prop :=
  ∃ (r' bo' : Nat) (γ ν : Nat → Nat) (P : List Nat), e = .returned (.pointer (some ⟨r', 0, none⟩)) ∧ Shape w' r' bo' γ ν S (fun n => n ∈ P) ∧ Below w.heap.size w w' ∧ w.heap.size ≤ r' ∧ w.heap.size ≤ bo' ∧ (∀ n ∈ P, w.heap.size ≤ γ n ∧ (Pz.isDir S.N n = true → w.heap.size ≤ ν n)) ∧ (∀ n ∈ P, Pz.isDir S.N n = true → ν n ≠ bo') ∧ ∀ a ∈ P, ∀ b ∈ P, Pz.isDir S.N a = true → Pz.isDir S.N b = true → ν a = ν b → a = b

set_option maxHeartbeats 8000000 in
set_option maxRecDepth 100000 in
theorem fcopy_any {w : World} {S : Pz.Fil} {r bo : Nat} {β μ : Nat → Nat} {V : Nat → Prop} (h1 : Shape w r bo β μ S V) (hO : S.E.Pairwise fun a b => ¬ (a.dir = b.dir ∧ a.name = b.name)) (hED : ∀ e ∈ S.E, Pz.isDir S.N e.dir = true) (hE : S.E.length ≤ 1000000)
    (hI : ∀ o ∈ S.O, I64 o.client ∧ I64 o.fd) (hone : S.O.Pairwise fun a b => ¬ (a.client = b.client ∧ a.fd = b.fd)) (hOl : S.O.length ≤ 1000000) :
    Calls Tryz.prog 23 #[.pointer (some ⟨r, 0, none⟩)] w (CopiedYes S w) := by
  have hmm := @run_makeMap Tryz.prog
  obtain ⟨w1, hw1⟩ : ∃ v, v = w.alloc (.map #[] 0) := ⟨_, rfl⟩
  have hb1 : Below w.heap.size w w1 := by rw [hw1]; exact (Below.refl _ _).alloc (Nat.le_refl _) _
  have hs1 : w1.heap.size = w.heap.size + 1 := by rw [hw1]; simp
  have hC1 : Copied w w1 w.heap.size β S V [] (fun _ => False) (fun _ => 0) (fun _ => 0) := {
    mc := by rw [hw1]; exact PMap.made w
    lc := Nat.le_refl _
    nd := List.nodup_nil
    mem := fun m hm => (by cases hm)
    below := hb1
    own := fun m hm => (by cases hm)
    inj := fun m hm => (by cases hm)
    node := fun m hm => (by cases hm)
    dirs := fun m hm => (by cases hm)
    ve := fun m hm => (by cases hm)
    vinj := fun m hm => (by cases hm) }
  have c0 := (h1.keep hb1).rc.1
  have HCall := Lib.hid (cnode_any h1 hO hED hE w.heap.size S.N.length [] (fun _ => False) (fun _ => 0) (fun _ => 0) 0 w1 (by simp) h1.v0 (fun m hm => hm.elim) hC1)
  have HIH := Lib.hid (cnode_any h1 hO hED hE w.heap.size)
  have HW1 := Lib.hid hw1
  have Hs1 := Lib.hid hs1
  have hr : r < w.heap.size := lt_of_get h1.root
  clear hw1 hb1 hC1
  go_enter Tryz.func23, Tryz.ntmps23
  go_upto_region 2 with fail
  rw [← HW1.out]
  go_wp2_with fail
  refine HCall.out.mono ?_
  rintro e w2 ⟨P2, γ2, ν2, rfl, hC2, h02, _, hnew2, _, hO2⟩
  obtain ⟨w3, hw3⟩ : ∃ v, v = (w2.alloc (.map #[] 0)).alloc (.cells #[.pointer (some ⟨γ2 0, 0, none⟩), .map (some w2.heap.size)] 64) := ⟨_, rfl⟩
  have hs2 : w.heap.size + 1 ≤ w2.heap.size := Nat.le_trans (by omega) hO2.size
  have hb3 : Below w2.heap.size w2 w3 := by rw [hw3]; exact ((Below.refl _ _).alloc (Nat.le_refl _) _).alloc (by simp) _
  have hs3 : w3.heap.size = w2.heap.size + 2 := by rw [hw3]; simp
  have hroot : w3.heap[w2.heap.size + 1]? = some (.cells #[.pointer (some ⟨γ2 0, 0, none⟩), .map (some w2.heap.size)] 64 (0, 0)) := by
    have := heap_alloc_new (w2.alloc (.map #[] 0)) (.cells #[.pointer (some ⟨γ2 0, 0, none⟩), .map (some w2.heap.size)] 64)
    rw [← hw3, show (w2.alloc (.map #[] 0)).heap.size = w2.heap.size + 1 by simp] at this
    exact this
  have hown3 : w3.ownsMap Tryz.prog 66 ptrE w2.heap.size 0 (.map []) := by
    have := World.ownsMap_made (H := Unit) w2 Tryz.prog 66 ptrE
    refine map_keep this ?_
    rw [hw3, Below.heap_alloc _ _ _ (by simp)]
  have hC3 := hC2.keep hb3
  obtain ⟨D1, own1, mo1⟩ := (h1.keep hC3.below).opn
  have c1 := (h1.keep hC3.below).rc.2
  have HI0 : ∀ wq, Below w3.heap.size w3 wq → OLoop w wq w.heap.size (w2.heap.size + 1) w2.heap.size β S V (Maps.has D1) P2 γ2 ν2 [] (.map []) := fun wq hb => {
    cop := hC3.keep hb
    z := h02
    fresh := fun m hm hd => by
      obtain ⟨D, o, _⟩ := hC2.dirs m hm id hd
      have := o.lt
      have := (hnew2 m hm (by simp)).2 hd
      exact ⟨by omega, by omega⟩
    root := (hb.block _ (lt_of_get hroot)).trans hroot
    own := map_keep hown3 (hb.block _ hown3.lt)
    mo := ⟨fun c fd zd _ _ => by rw [Pz.ofd, if_pos (by omega)]; rfl, rfl⟩
    part := {
      sub := fun c fd hx => by rw [Pz.ofd] at hx; omega
      all := fun c fd hc hf hx hE => by
        have : Maps.has D1 (keyL c fd) = true := Maps.has_true_of_atKey (y := .lit (.int .i64 (β (Pz.ofd S.O c fd).toNat))) fun z => by rw [mo1.1 _ _ z hc hf, if_neg (by omega)]
        rw [hx] at this
        cases this
      fresh := fun c fd _ _ _ => by rw [Pz.ofd]; omega
      one := List.Pairwise.nil
      inP := fun e he => by cases he
      nums := fun e he => by cases he } }
  obtain ⟨cap, hcap⟩ : ∃ cap, cap = S.O.length := ⟨_, rfl⟩
  have Hsd : Hid (Maps.size D1 ≤ cap ∧ cap ≤ 1000000) := Lib.hid ⟨by rw [mo1.2, hcap]; exact Nat.le_refl _, by omega⟩
  rw [← hcap] at own1
  have HI0 := Lib.hid HI0
  have Ho1 := Lib.hid own1
  have Hm1 := Lib.hid mo1
  have HW3 := Lib.hid hw3
  have Hsz : Hid (w.heap.size + 1 ≤ w2.heap.size ∧ w3.heap.size = w2.heap.size + 2 ∧ bo < w.heap.size) := Lib.hid ⟨hs2, hs3, by
    obtain ⟨D, o, _⟩ := h1.opn
    exact o.lt⟩
  clear hC2 h02 hnew2 hO2 hw3 hs2 hb3 hs3 hroot hown3 hC3 own1 mo1 hcap c0
  go_upto_region 3 with fail
  rw [← HW3.out]
  go_wp2_with (at_range; refine wpList_range_own _ rfl _ 62 rfl 66 61 Tryz.keyLaw Tryz.underlying62 _ _ _ D1 rfl Ho1.out ?_; intro wq hrg0 hg0 hs0)
  go_frame
  go_loopw [] (fun wr => ∃ (left : Lit → Bool) (cnt : Nat) (P' : List Nat) (γ' ν' : Nat → Nat) (O' : List Pz.Op) (D' : DataW Unit), wr.ranges Tryz.prog 66 ptrE bo w3.heap.size cap D1 left cnt ∧ O'.length + cnt ≤ cap ∧ Hid (OLoop w wr w.heap.size (w2.heap.size + 1) w2.heap.size β S V left P' γ' ν' O' D' ∧ w3.heap.size < wr.heap.size)) (fun wr => wr.rangeLeft bo w3.heap.size)
  case atStart =>
    have hb := (Below.refl w3.heap.size w3).grown hg0 (Nat.le_refl _) (fun j hj => by cases hj)
    exact ⟨_, _, _, _, _, _, _, hrg0, by have := Hsd.out.1; simpa using this, Lib.hid ⟨HI0.out wq hb, by omega⟩⟩
  case round =>
    obtain ⟨left, cnt, P', γ', ν', O', D', hrg, hfew, HR⟩ := hrel
    go_wp2_with (at_next; refine wpList_next_ranges _ rfl _ rfl 66 Tryz.keyLaw ptrE keyOfP ptrOf (fun key kl hk => by obtain ⟨c, fd, hx, _⟩ := key_shape hk; exact ⟨(c, fd), hx⟩) (fun v y hv => ptrE_shape hv) bo w3.heap.size cap _ _ _ rfl hrg ?_ ?_)
    · intro hc0 hl0
      have hI' := HR.out.1
      have HFin : Hid (CopiedYes S w (.returned (.pointer (some ⟨w2.heap.size + 1, 0, none⟩))) wr) := Lib.hid ⟨_, _, _, _, P', rfl, hI'.fin hl0 hI hone h1.vlt, hI'.cop.below, by have := Hsz.out; omega, by have := Hsz.out; omega, fun n hn => ⟨(hI'.cop.own n hn).1, fun hd => (hI'.fresh n hn hd).1⟩, fun n hn hd => (hI'.fresh n hn hd).2, fun a ha b hb da db e => hI'.cop.vinj a ha b hb id id da db e⟩
      clear hrg hc0 hl0 hfew hI'
      go_wp2
      go_ret
      exact HFin.out
    · intro kc kf c kl yd yp w4 cnt2 hkey hlk hv hat hrg2 hlt hg2 hs2 hen
      obtain ⟨c', f', hx, hic, hif, rfl⟩ := key_shape hkey
      obtain ⟨rfl, rfl⟩ : kc = c' ∧ kf = f' := by
        unfold keyOfP at hx
        simpa using hx
      obtain ⟨m, hm, rfl⟩ := open_of_range (y := (yd, yp)) Hm1.out hic hif hv hat
      have hen2 : (Instr.entry (.pointer (some ⟨w3.heap.size, 0, none⟩))).run Tryz.prog w4 = .ok (.tuple #[.agg #[.int .i64 kc, .int .i64 kf], .pointer (some ⟨β m, 0, none⟩)]) w4 := hen
      obtain ⟨oo, hoo, hom⟩ := ofd_node hm
      have hVm : V m := hom ▸ h1.vo oo hoo
      obtain ⟨w5, hw5⟩ : ∃ v, v = w4.alloc (.cells #[.int .i64 kc, .int .i64 kf] 66) := ⟨_, rfl⟩
      obtain ⟨hI', hszr⟩ := HR.out
      obtain ⟨zs1, zs2, zs3⟩ := Hsz.out
      have hw5s : w5.heap.size = wr.heap.size + 1 := by rw [hw5]; simp; omega
      have bl : ∀ j, j < wr.heap.size → j ≠ w3.heap.size → w5.heap[j]? = wr.heap[j]? := fun j hj hne => by
        rw [hw5, Below.heap_alloc _ _ _ (by omega)]
        exact hg2.block j hj (fun e => hne (Option.some.inj e))
      obtain ⟨_, _, _, _, _, _, _, _, _, hit, _⟩ := id hrg
      have hB4 : Below w.heap.size w w4 := hI'.cop.below.grown hg2 hI'.cop.below.size (fun j hj => by
        have := Option.some.inj hj
        omega)
      have hB5 : Below w.heap.size w w5 := by rw [hw5]; exact hB4.alloc hB4.size _
      have hC5 : Copied w w5 w.heap.size β S V P' (fun _ => False) γ' ν' := by
        refine hI'.cop.only (bl _ (by omega) (by omega)) hB5 (by omega) fun m' hm' hq => ⟨bl _ (hI'.cop.own m' hm').2.1 (fun e => ?_), fun hd => ?_⟩
        · have hh := hI'.cop.node m' hm' hq
          rw [e, hit] at hh
          cases hh
        · obtain ⟨D, o, _⟩ := hI'.cop.dirs m' hm' hq hd
          refine bl _ o.lt fun e => ?_
          obtain ⟨es, ck, hh, _⟩ := o
          rw [e, hit] at hh
          cases hh
      have hd5 : Below w5.heap.size w5 w5.drew := (Below.refl _ w5).drew
      have hC5d := hC5.keep hd5
      have hr5 : w5.drew.heap[w2.heap.size + 1]? = some (.cells #[.pointer (some ⟨γ' 0, 0, none⟩), .map (some w2.heap.size)] 64 (0, 0)) := (bl _ (by omega) (by omega)).trans hI'.root
      have ho5 : w5.drew.ownsMap Tryz.prog 66 ptrE w2.heap.size O'.length D' := map_keep hI'.own (bl _ (by omega) (by omega))
      have hk5 : w5.drew.heap[w4.heap.size]? = some (.cells #[.int .i64 kc, .int .i64 kf] 66 (0, 0)) := by
        show w5.heap[w4.heap.size]? = _
        rw [hw5]
        exact heap_alloc_new _ _
      have hrg5 := ranges_keep (w' := w5) hrg2 (by rw [hw5, Below.heap_alloc _ _ _ hrg2.owns.lt]) (by rw [hw5, Below.heap_alloc _ _ _ hrg2.lt])
      have hs0 : w5.drew.cell? ⟨w2.heap.size + 1, 1, none⟩ = some (.map (some w2.heap.size)) ∧ w5.drew.cell? ⟨w4.heap.size, 0, none⟩ = some (.int .i64 kc) ∧ w5.drew.cell? ⟨w4.heap.size, 1, none⟩ = some (.int .i64 kf) := ⟨cell_of_row w5.drew _ 1 _ _ _ hr5, cell_of_row w5.drew _ 0 _ _ _ hk5, cell_of_row w5.drew _ 1 _ _ _ hk5⟩
      have HIh := Lib.hid (HIH.out S.N.length P' (fun _ => False) γ' ν' m w5.drew (by omega) hVm (fun m h => h.elim) hC5d)
      have HI5 := Lib.hid hI'
      have Hr5 := Lib.hid hr5
      have Ho5 := Lib.hid ho5
      have Hk5 := Lib.hid hk5
      have Hrg5 := Lib.hid hrg5
      have Hlt := Lib.hid hlt
      have Hkr := Lib.hid (key_read hic hif)
      have Hii := Lib.hid (And.intro hic hif)
      have Hlk := Lib.hid hlk
      have Hm := Lib.hid hm
      have HW5 := Lib.hid hw5
      have H5s : Hid (w5.drew.heap.size = wr.heap.size + 1 ∧ w4.heap.size = wr.heap.size ∧ w3.heap.size < wr.heap.size ∧ O'.length < maxLen ∧ O'.length + 1 + cnt2 ≤ cap) := Lib.hid ⟨hw5s, hs2, hszr, by have := Hsd.out; unfold maxLen; omega, by omega⟩
      have Htid := Lib.hid (ho5.tidy Tryz.keyLaw)
      clear hv hat hrg2 hlt hg2 hs2 hkey hlk hm hVm hoo hom hx hic hif hen zs1 zs2 zs3 hI' hit bl hB4 hB5 hC5 hd5 hC5d hr5 ho5 hk5 hrg5 hw5 hw5s hszr hfew c1
      go_upto_region 6 with fail
      rw [← HW5.out]
      go_region_held3 (fun w' => w'.cell? ⟨w2.heap.size + 1, 1, none⟩ = some (.map (some w2.heap.size)) ∧ w'.cell? ⟨w4.heap.size, 0, none⟩ = some (.int .i64 kc) ∧ w'.cell? ⟨w4.heap.size, 1, none⟩ = some (.int .i64 kf)) (first | exact hs0 | exact hs6 | exact hs7 | go_keep) (first | (go_at_call 54; refine HIh.out.mono ?_; rintro e w6 ⟨P6, γ6, ν6, rfl, hC6, hm6, hag6, hnew6, hlen6, hO6⟩; have ho6 := map_keep Ho5.out (hO6.block _ Ho5.out.lt (fun e => by have e : w2.heap.size = w.heap.size := e; have := Hsz.out; omega)); have hr6 := (hO6.block _ (lt_of_get Hr5.out) (fun e => by have e : w2.heap.size + 1 = w.heap.size := e; have := Hsz.out; omega)).trans Hr5.out; have hk6 := (hO6.block _ (lt_of_get Hk5.out) (fun e => by have e : w4.heap.size = w.heap.size := e; have := Hsz.out; have := H5s.out; omega)).trans Hk5.out; obtain ⟨w7, hrun7, hown7, hturn7⟩ := ho6.store Tryz.keyLaw Tryz.underlying62 H5s.out.2.2.2.1 (val := .pointer (some ⟨γ6 m, 0, none⟩)) Hkr.out rfl; have hr7 := (hturn7.grown.block _ (lt_of_get hr6) (fun e => by have e2 := Option.some.inj e; omega)).trans hr6; have hk7 := (hturn7.grown.block _ (lt_of_get hk6) (fun e => by have e2 := Option.some.inj e; have := Hsz.out; have := H5s.out; omega)).trans hk6; have hs6 : w6.cell? ⟨w2.heap.size + 1, 1, none⟩ = some (.map (some w2.heap.size)) ∧ w6.cell? ⟨w4.heap.size, 0, none⟩ = some (.int .i64 kc) ∧ w6.cell? ⟨w4.heap.size, 1, none⟩ = some (.int .i64 kf) := ⟨cell_of_row w6 _ 1 _ _ _ hr6, cell_of_row w6 _ 0 _ _ _ hk6, cell_of_row w6 _ 1 _ _ _ hk6⟩; have hs7 : w7.cell? ⟨w2.heap.size + 1, 1, none⟩ = some (.map (some w2.heap.size)) ∧ w7.cell? ⟨w4.heap.size, 0, none⟩ = some (.int .i64 kc) ∧ w7.cell? ⟨w4.heap.size, 1, none⟩ = some (.int .i64 kf) := ⟨cell_of_row w7 _ 1 _ _ _ hr7, cell_of_row w7 _ 0 _ _ _ hk7, cell_of_row w7 _ 1 _ _ _ hk7⟩; have HC6 := Lib.hid hC6; have Hag6 := Lib.hid (And.intro hm6 (And.intro hag6 (And.intro hnew6 (And.intro hlen6 hO6)))); have Ho6 := Lib.hid ho6; have Hown7 := Lib.hid hown7; have Hturn7 := Lib.hid hturn7; have Hr7 := Lib.hid hr7; clear hC6 hm6 hag6 hnew6 hlen6 hO6 ho6 hown7 hturn7 hr6 hr7 hk6 hk7))
      have hq7 : ∀ j, j < w6.heap.size → j ≠ w2.heap.size → w7.heap[j]? = w6.heap[j]? := fun j hj hne => Hturn7.out.grown.block j hj (fun e => hne (Option.some.inj e))
      have hzz : w6.heap.size ≤ w7.heap.size ∧ w5.drew.heap.size ≤ w6.heap.size := ⟨Hturn7.out.grown.size, Hag6.out.2.2.2.2.size⟩
      have hfin : OLoop w w7 w.heap.size (w2.heap.size + 1) w2.heap.size β S V (fun z => left z && !z.sameKey (keyL kc kf)) P6 γ6 ν6 (O' ++ [⟨kc, kf, m⟩]) (D'.put (keyL kc kf) (.lit (.int .i64 (γ6 m)))) := by
        have hI' := HI5.out
        have hC6 := HC6.out
        obtain ⟨hm6, hag6, hnew6, hlen6, hO6⟩ := Hag6.out
        obtain ⟨zs1, zs2, zs3⟩ := Hsz.out
        obtain ⟨t1, t2, t3, _⟩ := H5s.out
        have hB7 : Below w.heap.size w w7 := hC6.below.grown Hturn7.out.grown hC6.below.size (fun j hj => by
          have := Option.some.inj hj
          omega)
        obtain ⟨es, ck, hmq, _⟩ := id Ho6.out
        have hnotq : ∀ m' ∈ P6, γ6 m' ≠ w2.heap.size := fun m' hm' e => by
          have hh := hC6.node m' hm' id
          rw [e, hmq] at hh
          cases hh
        have hv6 : ∀ m' ∈ P6, Pz.isDir S.N m' = true → w.heap.size ≤ ν6 m' ∧ ν6 m' ≠ w2.heap.size := fun m' hm' hd => by
          by_cases hP' : m' ∈ P'
          · rw [(hag6 m' hP').2.2]
            exact hI'.fresh m' hP' hd
          · have := (hnew6 m' hm' hP').2 hd
            have := hI'.cop.below.size
            exact ⟨by omega, by omega⟩
        have hC7 : Copied w w7 w.heap.size β S V P6 (fun _ => False) γ6 ν6 :=
          hC6.only (hq7 _ hC6.mc.lt (by omega)) hB7 hzz.1 fun m' hm' hq => ⟨hq7 _ (hC6.own m' hm').2.1 (hnotq m' hm'), fun hd => by
            obtain ⟨D, o, _⟩ := hC6.dirs m' hm' hq hd
            exact hq7 _ o.lt (hv6 m' hm' hd).2⟩
        exact {
          cop := hC7
          z := (hag6 0 hI'.z).1
          fresh := hv6
          root := (by rw [(hag6 0 hI'.z).2.1]; exact Hr7.out)
          own := (by rw [List.length_append]; exact Hown7.out)
          mo := (by
            have hc : MapO D' γ6 O' := hI'.mo.congr fun o ho => (hag6 _ (hI'.part.inP o ho)).2.1
            exact hc.add Htid.out Hii.out.1 Hii.out.2 (hI'.part.fresh kc kf Hii.out.1 Hii.out.2 Hlk.out))
          part := (hI'.part.step Hii.out.1 Hii.out.2 Hlk.out Hm.out (fun a ha => (hag6 a ha).1) hm6) }
      have HFin := Lib.hid (And.intro hfin (show w3.heap.size < w7.heap.size by have := H5s.out; omega))
      have hrg7 := ranges_keep (w' := w7) Hrg5.out ((hq7 _ (by have := Hsz.out; have := H5s.out; omega) (by have := Hsz.out; omega)).trans (Hag6.out.2.2.2.2.block _ (by have := Hsz.out; have := H5s.out; omega) (fun e => by have e : bo = w.heap.size := e; have := Hsz.out; omega))) ((hq7 _ (by have := Hsz.out; have := H5s.out; omega) (by have := Hsz.out; omega)).trans (Hag6.out.2.2.2.2.block _ (by have := Hsz.out; have := H5s.out; omega) (fun e => by have e : w3.heap.size = w.heap.size := e; have := Hsz.out; omega)))
      have Hfew : Hid ((O' ++ [(⟨kc, kf, m⟩ : Pz.Op)]).length + cnt2 ≤ cap) := Lib.hid (by rw [List.length_append]; exact H5s.out.2.2.2.2)
      clear hfin hq7 hzz hs0 hs6 hs7 hrun7 hen2
      try simp only [Exit.then]
      go_wp2
      go_roundw
      case rel => exact ⟨_, cnt2, P6, γ6, ν6, _, _, hrg7, Hfew.out, HFin⟩
      case measure => rw [hrg7.left_eq, hrg.left_eq]; exact Hlt.out

end Go.Proofs.YtiepdioaidglmaaGreatDoor
