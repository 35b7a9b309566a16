/- Walks: names.Path$1, slices.IndexFunc, slices.ContainsFunc at it, commonsref05.Same. -/
import Derived.Test.YtoadbipcfolheaaDoorNamesWalkA
import Derived.BigQuiet
import Derived.Deep.QuietTactic
namespace Go.Proofs.YtoadbipcfolheaaDoor
open Go.RowKit

/-- a list of texts that lies in memory from block B on, and may be written -/
def Strs (w : World) (B : Nat) (A : Option Addr) (L : List (List UInt8)) : Prop :=
  L = [] ∨ ∃ b o, A = some ⟨b, o, none⟩ ∧ B ≤ b ∧ b < w.heap.size ∧ (∀ j x, L[j]? = some x → w.cell? ⟨b, o + j, none⟩ = some (.string ⟨x.toArray⟩)) ∧ ∀ j, w.frozen? ⟨b, j, none⟩ = false
theorem Strs.keep {w w' : World} {B : Nat} {A : Option Addr} {L : List (List UInt8)} (h : Strs w B A L) (hb : Below w.heap.size w w') : Strs w' B A L := by
  rcases h with h | ⟨b, o, h1, h2, h3, h4, h5⟩
  · exact Or.inl h
  · have := hb.size
    exact Or.inr ⟨b, o, h1, h2, by omega, fun j x hx => (hb.cell (p := ⟨b, o + j, none⟩) h3).trans (h4 j x hx), fun j => (hb.frozen (p := ⟨b, j, none⟩) h3).trans (h5 j)⟩
theorem Strs.low {w : World} {B B' : Nat} {A : Option Addr} {L : List (List UInt8)} (h : Strs w B A L) (hB : B' ≤ B) : Strs w B' A L := by
  rcases h with h | ⟨b, o, h1, h2, h3, h4⟩
  · exact Or.inl h
  · exact Or.inr ⟨b, o, h1, by omega, h3, h4⟩
theorem Strs.drewN {w : World} {B : Nat} {A : Option Addr} {L : List (List UInt8)} (h : Strs w B A L) (n : Nat) : Strs (w.drewN n) B A L := h

set_option maxHeartbeats 400000 in
theorem lit_any (s : ByteArray) (w : World) (hs : s.size ≤ 9223372036854775807) :
    Calls Tryd.prog 28 #[.string s] w fun e w' => e = .returned (.bool (!Np.nameB s.data.toList)) ∧ Below w.heap.size w w' := by
  go_enter Tryd.func28, Tryd.ntmps28
  go_wp2_with (go_at_call 12; refine (may_any s _ hs).mono ?_; rintro e w' ⟨rfl, hb⟩)
  go_ret
  exact ⟨rfl, by assumption⟩

theorem all_step {L : List (List UInt8)} {k : Nat} {x : List UInt8} (h : (L.take k).all Np.nameB = true) (hx : L[k]? = some x) : (L.take (k + 1)).all Np.nameB = Np.nameB x := by
  rw [List.take_add_one, hx, List.all_append, h]; simp

/-- the literal at a list of bytes, its answer decided -/
theorem lit_l (x : List UInt8) (b : Bool) (h : Np.nameB x = b) (w : World) (hs : x.length ≤ 1000000) :
    Calls Tryd.prog 28 #[.string ⟨x.toArray⟩] w fun e w' => e = .returned (.bool (!b)) ∧ Below w.heap.size w w' := by
  have := lit_any ⟨x.toArray⟩ w (by rw [Lib.size_eq]; show x.length ≤ _; omega)
  rw [show (⟨x.toArray⟩ : ByteArray).data.toList = x from rfl, h] at this
  exact this

def IdxPost (L : List (List UInt8)) (w : World) (e : Ending) (w' : World) : Prop := ∃ r : Int, e = .returned (.int .i64 r) ∧ decide (0 ≤ r) = !L.all Np.nameB ∧ Below w.heap.size w w'
theorem all_found {L : List (List UInt8)} {k : Nat} {x : List UInt8} (hx : L[k]? = some x) (h : Np.nameB x = false) : L.all Np.nameB = false := by
  rw [List.all_eq_false]
  exact ⟨x, List.mem_of_getElem? hx, by rw [h]; simp⟩

set_option maxHeartbeats 1000000 in
theorem index_any (A : Option Addr) (L : List (List UInt8)) (c : Nat) (B : Nat) (w : World) (hL : L.length ≤ 1000000) (hsz : ∀ x ∈ L, x.length ≤ 1000000) (hS : Strs w B A L) :
    Calls Tryd.prog 33 #[.slice A L.length c, .func (.func 28) #[] #[]] w (IdxPost L w) := by
  have HS := Lib.hid hS; clear hS
  have HZ := Lib.hid hsz; clear hsz
  go_enter Tryd.func33, Tryd.ntmps33
  go_wp2
  go_loopw [5, 8] (fun _ i wr => ∃ k : Nat, k ≤ L.length ∧ i = .int .i64 k ∧ Hid ((L.take k).all Np.nameB = true) ∧ Below w.heap.size w wr) (fun _ i _ => L.length - (intOf i).toNat)
  case atStart => exact ⟨0, by omega, rfl, by show (L.take 0).all _ = true; simp, Below.refl _ _⟩
  case round =>
    obtain ⟨k, hk, rfl, hok, hbw⟩ := hrel
    by_cases hlt : k < L.length
    · obtain ⟨x, hx⟩ : ∃ x, L[k]? = some x := ⟨_, List.getElem?_eq_getElem hlt⟩
      rcases HS.out with h | ⟨b, o, rfl, h2, h3, h4, _⟩
      · subst h; simp at hlt
      have hc : wr.cell? ⟨b, o + k, none⟩ = some (.string ⟨x.toArray⟩) := (hbw.cell (p := ⟨b, o + k, none⟩) h3).trans (h4 k x hx)
      clear h4
      have hxl := HZ.out x (List.mem_of_getElem? hx)
      have Hx := Lib.hid hx; clear hx
      by_cases hn : Np.nameB x = true
      · have Hn := Lib.hid hn; clear hn
        go_wp2_with fail
        refine (lit_l x true Hn.out _ hxl).mono ?_
        rintro e w2 ⟨rfl, hb⟩
        go_wp2
        go_roundw
        case rel => exact ⟨k + 1, by omega, by go_num, by show _ = _; rw [all_step hok.out Hx.out, Hn.out], hbw.trans (hb.mono hbw.size)⟩
        case measure => simp [intOf]; omega
      · have hn' : Np.nameB x = false := by simpa using hn
        have Hn := Lib.hid hn'; clear hn hn'
        go_wp2_with fail
        refine (lit_l x false Hn.out _ hxl).mono ?_
        rintro e w2 ⟨rfl, hb⟩
        go_wp2
        go_ret
        refine ⟨_, rfl, ?_, hbw.trans (hb.mono hbw.size)⟩
        rw [all_found Hx.out Hn.out]; simp
    · go_wp2
      go_ret
      refine ⟨_, rfl, ?_, hbw⟩
      have := hok.out
      rw [List.take_of_length_le (by omega)] at this
      rw [this]; rfl

set_option maxHeartbeats 400000 in
theorem contains_any (A : Option Addr) (L : List (List UInt8)) (c : Nat) (B : Nat) (w : World) (hL : L.length ≤ 1000000) (hsz : ∀ x ∈ L, x.length ≤ 1000000) (hS : Strs w B A L) :
    Calls Tryd.prog 27 #[.slice A L.length c, .func (.func 28) #[] #[]] w fun e w' => e = .returned (.bool (!L.all Np.nameB)) ∧ Below w.heap.size w w' := by
  have h := fun W => index_any A L c B W hL hsz
  have H := Lib.hid h; clear h
  have HS := Lib.hid hS; clear hS
  clear hsz
  go_enter Tryd.func27, Tryd.ntmps27
  go_wp2_with fail
  refine (H.out _ HS.out).mono ?_
  rintro e w2 ⟨r, rfl, hr, hb⟩
  have Hr := Lib.hid hr; clear hr
  go_wp2
  go_ret
  exact ⟨ret_bool Hr.out, hb⟩

/-! two lists held against each other -/
theorem take_both {L M : List (List UInt8)} {k : Nat} {x y : List UInt8} (h : L.take k = M.take k) (hx : L[k]? = some x) (hy : M[k]? = some y) : (L.take (k + 1) = M.take (k + 1)) ↔ x = y := by
  rw [List.take_add_one, List.take_add_one, hx, hy, h]
  simp

set_option maxHeartbeats 1000000 in
theorem same_any (A A' : Option Addr) (L M : List (List UInt8)) (c c' : Nat) (B : Nat) (w : World) (hL : L.length ≤ 1000000) (hM : M.length ≤ 1000000) (hS : Strs w B A L) (hS' : Strs w B A' M) :
    Calls Tryd.prog 17 #[.slice A L.length c, .slice A' M.length c'] w fun e w' => e = .returned (.bool (decide (L = M))) ∧ Below w.heap.size w w' := by
  have HS := Lib.hid hS; clear hS
  have HS' := Lib.hid hS'; clear hS'
  by_cases hne : L.length = M.length
  · obtain ⟨n, hn⟩ : ∃ n, n = L.length := ⟨_, rfl⟩
    rw [← hne, ← hn]
    have Hn := Lib.hid hn
    have Hm := Lib.hid (hn.trans hne)
    have hn1 : n ≤ 1000000 := by omega
    clear hn hne hL hM
    obtain ⟨r, hr⟩ : ∃ r, r = decide (L = M) := ⟨_, rfl⟩
    rw [← hr]
    have Hr := Lib.hid hr; clear hr
    go_enter Tryd.func17, Tryd.ntmps17
    go_wp2
    go_loopw [5] (fun i wr => ∃ k : Nat, k ≤ n ∧ i = .int .i64 k ∧ Hid (L.take k = M.take k) ∧ Below w.heap.size w wr) (fun i _ => n - (intOf i).toNat)
    case atStart => exact ⟨0, by omega, rfl, by show L.take 0 = M.take 0; simp, Below.refl _ _⟩
    case round =>
      obtain ⟨k, hk, rfl, hok, hbw⟩ := hrel
      by_cases hlt : k < n
      · have hkL : k < L.length := by have := Hn.out; omega
        have hkM : k < M.length := by have := Hm.out; omega
        obtain ⟨x, hx⟩ : ∃ x, L[k]? = some x := ⟨_, List.getElem?_eq_getElem hkL⟩
        obtain ⟨y, hy⟩ : ∃ y, M[k]? = some y := ⟨_, List.getElem?_eq_getElem hkM⟩
        rcases HS.out with h | ⟨b, o, rfl, h2, h3, h4, _⟩
        · subst h; simp at hkL
        rcases HS'.out with h | ⟨b', o', rfl, h2', h3', h4', _⟩
        · subst h; simp at hkM
        have hc : wr.cell? ⟨b, o + k, none⟩ = some (.string ⟨x.toArray⟩) := (hbw.cell (p := ⟨b, o + k, none⟩) h3).trans (h4 k x hx)
        have hc' : wr.cell? ⟨b', o' + k, none⟩ = some (.string ⟨y.toArray⟩) := (hbw.cell (p := ⟨b', o' + k, none⟩) h3').trans (h4' k y hy)
        have hiff := take_both hok.out hx hy
        have Hiff := Lib.hid hiff
        have Hx := Lib.hid hx
        have Hy := Lib.hid hy
        clear h4 h4' hx hy hiff hkL hkM
        have hk1 : (0 : Int) ≤ k := by omega
        have hk2 : (k : Int) < n := by omega
        go_wp2
        go_quiet (fail)
        go_wp2
        · have hne : (!x == y) = true := by assumption
          have hxy : ¬ x = y := by simpa using hne
          go_ret
          refine ⟨ret_bool ?_, below_drewN hbw _⟩
          rw [Hr.out]
          symm
          exact decide_eq_false fun h => hxy (Hiff.out.1 (by rw [h]))
        · have hne : (!x == y) = false := by assumption
          have hxy : x = y := by simpa using hne
          go_roundw
          case rel => exact ⟨k + 1, by omega, by go_num, Hiff.out.2 hxy, below_drewN hbw _⟩
          case measure => simp [intOf]; omega
      · go_wp2
        go_ret
        refine ⟨ret_bool ?_, hbw⟩
        have := hok.out
        rw [List.take_of_length_le (by have := Hn.out; omega), List.take_of_length_le (by have := Hm.out; omega)] at this
        rw [Hr.out, decide_eq_true this]
  · have hne' : ((L.length : Int) != M.length) = true := by rw [bne_iff_ne]; omega
    have hd : decide (L = M) = false := decide_eq_false fun h => hne (by rw [h])
    rw [hd]
    clear hd hne
    go_enter Tryd.func17, Tryd.ntmps17
    go_wp2
    go_ret
    exact ⟨rfl, Below.refl _ _⟩

end Go.Proofs.YtoadbipcfolheaaDoor
