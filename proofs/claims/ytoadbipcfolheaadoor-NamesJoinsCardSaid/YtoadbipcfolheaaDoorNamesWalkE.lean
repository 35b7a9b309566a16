/- Walks: names.Parent, names.Hash, commonsref05.bit, commonsref05.Hash. -/
import Derived.Test.YtoadbipcfolheaaDoorNamesWalkD
namespace Go.Proofs.YtoadbipcfolheaaDoor
open Go.RowKit

def ParYes (L : List (List UInt8)) (x : List UInt8) (w : World) (e : Ending) (w' : World) : Prop :=
  ∃ A, e = .returned (.tuple #[.slice A L.length L.length, .string ⟨x.toArray⟩, .int .i64 0]) ∧ Strs w' w.heap.size A L ∧ Below w.heap.size w w'

set_option maxHeartbeats 1000000 in
theorem parent_yes (s : ByteArray) (L : List (List UInt8)) (x : List UInt8) (m : Int) (w : World) (hs : s.size ≤ 100000) (hm : w.cell? ⟨0, 0, none⟩ = some (.int .i64 m)) (h : Np.pathL s.data.toList = some (L ++ [x])) :
    Calls Tryd.prog 18 #[.string s] w (ParYes L x w) := by
  have hp := path_yes s (L ++ [x]) m w hs hm h
  have hl6 := (pathL_names h).1
  obtain ⟨n, hn⟩ : ∃ n, n = L.length := ⟨_, rfl⟩
  have hx : (L ++ [x])[n]? = some x := by rw [hn]; simp
  rw [show (L ++ [x]).length = n + 1 by simp [hn]] at hl6
  have hpre : ∀ j y, L[j]? = some y → (L ++ [x])[j]? = some y := fun j y hy => by rw [List.getElem?_append_left (List.getElem?_eq_some_iff.1 hy).1]; exact hy
  have Hp : Hid (Calls Tryd.prog 15 #[.string s] w fun e w' => ∃ b o c, e = .returned (.tuple #[.slice (some ⟨b, o, none⟩) (n + 1) c, .int .i64 0]) ∧ n + 1 ≤ c ∧ w'.cell? ⟨b, o + n, none⟩ = some (.string ⟨x.toArray⟩) ∧ Strs w' w.heap.size (some ⟨b, o, none⟩) L ∧ Below w.heap.size w w') := by
    refine hp.mono fun e w' ⟨A, c, he, hc, hS, hB⟩ => ?_
    rcases hS with h0 | ⟨b, o, rfl, h1, h2, h3, h4⟩
    · simp at h0
    · refine ⟨b, o, c, by rw [he]; simp [hn], by simpa [hn] using hc, h3 n x hx, Or.inr ⟨b, o, rfl, h1, h2, fun j y hy => h3 j y (hpre j y hy), h4⟩, hB⟩
  clear hp h hx hpre hm
  have Hn := Lib.hid hn; clear hn
  go_enter Tryd.func18, Tryd.ntmps18
  go_wp2_with fail
  refine Hp.out.mono ?_
  rintro e w1 ⟨b, o, c, rfl, hc, hcell, hS, hB⟩
  have HS := Lib.hid hS; clear hS
  have hi1 : (0 : Int) ≤ n := by omega
  have hi2 : (n : Int) < (n : Int) + 1 := by omega
  have hi3 : (n : Int) ≤ c := by omega
  go_wp2
  go_quiet (fail)
  go_wp2
  go_ret3
  rw [Hn.out]
  exact ⟨_, rfl, HS.out.drewN _, below_drewN hB _⟩

set_option maxHeartbeats 1000000 in
theorem parent_no (s : ByteArray) (m : Int) (w : World) (hs : s.size ≤ 100000) (hm : w.cell? ⟨0, 0, none⟩ = some (.int .i64 m)) (h : Np.pathL s.data.toList = none ∨ Np.pathL s.data.toList = some []) :
    Calls Tryd.prog 18 #[.string s] w fun e w' => e = .returned (.tuple #[.slice none 0 0, .string ⟨#[]⟩, .int .i64 15]) ∧ Below w.heap.size w w' := by
  rcases h with h | h
  · have hp := path_no s m w hs hm h
    have Hp := Lib.hid hp; clear hp h hm
    go_enter Tryd.func18, Tryd.ntmps18
    go_wp2_with fail
    refine Hp.out.mono ?_
    rintro e w1 ⟨rfl, hB⟩
    go_wp2
    go_ret3
    exact ⟨rfl, hB⟩
  · have hp := path_yes s [] m w hs hm h
    have Hp := Lib.hid hp; clear hp h hm
    go_enter Tryd.func18, Tryd.ntmps18
    go_wp2_with fail
    refine Hp.out.mono ?_
    rintro e w1 ⟨A, c, rfl, hc, hS, hB⟩
    clear hS
    go_wp2
    go_ret3
    exact ⟨rfl, hB⟩

theorem xor32 (h : Nat) (c : UInt8) (hh : h < 4294967296) : bits BinOp.xor IntKind.u32 (h : Int) ((c.toNat : Int) % 4294967296) * 16777619 % 4294967296 = ((Np.hashStep h c : Nat) : Int) := by
  have hc : c.toNat < 256 := c.toNat_lt
  rw [show ((c.toNat : Int) % 4294967296) = ((c.toNat : Nat) : Int) by omega, u32_xor_nat h c.toNat hh (by omega)]
  unfold Np.hashStep
  simp

/-- what a hash comes to -/
def hashV (l : List UInt8) : Int := ((Np.hashN l / 268435456 : Nat) : Int)
theorem hashV_eq {l : List UInt8} {h : Nat} (e : h = Np.hashN l) : (h : Int) / 268435456 = hashV l := by
  subst e; unfold hashV; omega
theorem hashV_lt (l : List UInt8) : 0 ≤ hashV l ∧ hashV l ≤ 15 := by
  have := Np.hashN_lt l
  unfold hashV; omega

set_option maxHeartbeats 1000000 in
theorem hash_any (s : ByteArray) (w : World) (hs : s.size ≤ 100000) :
    Calls Tryd.prog 19 #[.string s] w fun e w' => e = .returned (.int .i64 (hashV s.data.toList)) ∧ w = w' := by
  go_enter Tryd.func19, Tryd.ntmps19
  go_wp2
  go_loop [3, 4, 7] (fun h _ i => ∃ k n : Nat, k ≤ s.size ∧ n < 4294967296 ∧ i = .int .i64 k ∧ h = .int .u32 n ∧ Hid (n = Np.hashN (s.data.toList.take k))) (fun _ _ i => s.size - (intOf i).toNat)
  case atStart => exact ⟨0, 2166136261, by omega, by omega, rfl, rfl, rfl⟩
  case round =>
    obtain ⟨k, h, hk, hlt', rfl, rfl, Hh⟩ := hrel
    by_cases hlt : k < s.size
    · go_wp2
      go_round
      case rel =>
        refine ⟨k + 1, Np.hashStep h (s[k]'hlt), by omega, Np.hashStep_lt _ _, by go_num, by rw [xor32 h _ hlt'], ?_⟩
        show Np.hashStep h (s[k]'hlt) = _
        rw [take_snoc s k hlt, Np.hashN_snoc, ← Hh.out]
      case measure => simp [intOf]; omega
    · go_wp2
      go_ret
      refine ⟨?_, rfl⟩
      rw [← hashV_eq (h := h) (by rw [Hh.out, List.take_of_length_le (by rw [← Lib.size_eq]; omega)])]
      rfl

set_option maxHeartbeats 400000 in
theorem bit_any (n i : Nat) (w : World) (hn : n ≤ 4294967296) (hi : i ≤ 8) :
    Calls Tryd.prog 29 #[.int .i64 n, .int .i64 i] w fun e w' => e = .returned (.int .i64 ((n / 2 ^ i % 2 : Nat) : Int)) ∧ w = w' := by
  go_enter Tryd.func29, Tryd.ntmps29
  go_wp2
  go_loop [0, 5] (fun v k => ∃ (j q : Nat), j ≤ i ∧ q ≤ 4294967296 ∧ k = .int .i64 j ∧ v = .int .i64 q ∧ Hid (q = n / 2 ^ j)) (fun _ k => i - (intOf k).toNat)
  case atStart => exact ⟨0, n, by omega, hn, rfl, rfl, by show n = n / 2 ^ 0; simp⟩
  case round =>
    obtain ⟨j, q, hj, hq, rfl, rfl, Hq⟩ := hrel
    by_cases hlt : j < i
    · go_wp2
      go_round
      case rel => exact ⟨j + 1, q / 2, by omega, by omega, by go_num, by go_num, by show q / 2 = n / 2 ^ (j + 1); rw [Hq.out, Nat.pow_succ, Nat.div_div_eq_div_mul]⟩
      case measure => simp [intOf]; omega
    · obtain rfl : j = i := by omega
      go_wp2
      go_ret
      refine ⟨ret_int ?_, rfl⟩
      have e : q % 2 = n / 2 ^ j % 2 := by rw [Hq.out]
      have e2 := congrArg (Nat.cast (R := Int)) e
      simpa using e2

theorem bitx_step (a b k : Nat) : Np.bitx a b (k + 1) = Np.bitx a b k + (if a / 2 ^ k % 2 ≠ b / 2 ^ k % 2 then 2 ^ k else 0) := rfl
theorem bitx_lt (a b k : Nat) : Np.bitx a b k < 2 ^ k := by rw [Np.xor_low]; exact Nat.mod_lt _ (Nat.two_pow_pos k)
theorem pow_le8 {k : Nat} (h : k ≤ 8) : 2 ^ k ≤ 256 := Nat.pow_le_pow_right (by omega) h
theorem hash_next (h : Nat) (c : UInt8) : (h - h % 256 + Np.bitx h c.toNat 8) * 16777619 % 4294967296 = Np.hashStep h c := by
  unfold Np.hashStep; rw [Np.xor_byte h c.toNat c.toNat_lt]

set_option maxHeartbeats 2000000 in
theorem rhash_any (s : ByteArray) (w : World) (hs : s.size ≤ 100000) :
    Calls Tryd.prog 20 #[.string s] w fun e w' => e = .returned (.int .i64 (hashV s.data.toList)) ∧ Below w.heap.size w w' := by
  go_enter Tryd.func20, Tryd.ntmps20
  go_wp2
  go_loopw [3, 4] (fun h i wr => ∃ k n : Nat, k ≤ s.size ∧ n < 4294967296 ∧ i = .int .i64 k ∧ h = .int .i64 n ∧ Hid (n = Np.hashN (s.data.toList.take k)) ∧ Below w.heap.size w wr) (fun _ i _ => s.size - (intOf i).toNat)
  case atStart => exact ⟨0, 2166136261, by omega, by omega, rfl, rfl, rfl, Below.refl _ _⟩
  case round =>
    obtain ⟨k, n, hk, hn, rfl, rfl, Hn, hbw⟩ := hrel
    by_cases hlt : k < s.size
    · obtain ⟨wo, rfl⟩ : ∃ wo : World, wo = wr := ⟨_, rfl⟩
      have hc256 : (s[k]'hlt).toNat < 256 := UInt8.toNat_lt _
      have hk1 : (0 : Int) ≤ k := by omega
      have hk2 : (k : Int) < s.size := by omega
      go_wp2
      go_loopw [5, 6, 7] (fun x p j wr => ∃ jj xx pp : Nat, jj ≤ 8 ∧ xx ≤ 256 ∧ pp ≤ 256 ∧ j = .int .i64 jj ∧ x = .int .i64 xx ∧ p = .int .i64 pp ∧ Hid (xx = Np.bitx n (s[k]'hlt).toNat jj) ∧ Hid (pp = 2 ^ jj) ∧ Below w.heap.size w wr) (fun _ _ j _ => 8 - (intOf j).toNat)
      case atStart => exact ⟨0, 0, 1, by omega, by omega, by omega, rfl, rfl, rfl, rfl, rfl, hbw⟩
      case round =>
        obtain ⟨jj, xx, pp, hj, hx, hp, rfl, rfl, rfl, Hx, Hp, hbw2⟩ := hrel
        by_cases hj8 : jj < 8
        · go_wp2
          go_quiet ((go_at_call 29; first | with_reducible exact quiet_left (bit_any _ _ _ (by omega) (by omega)) | with_reducible exact quiet_add_left (bit_any _ _ _ (by omega) (by omega))))
          have hxp : xx + pp ≤ 256 ∧ pp * 2 ≤ 256 := by
            have h1 := bitx_lt n (s[k]'hlt).toNat jj
            have h2 := pow_le8 (k := jj + 1) (by omega)
            rw [Nat.pow_succ] at h2
            rw [Hp.out, Hx.out]
            omega
          obtain ⟨hxp1, hxp2⟩ := hxp
          go_wp2
          · have hb : (((n : Int) / 2 ^ jj % 2) != (((s[k]'hlt).toNat : Int) / 2 ^ jj % 2)) = true := by assumption
            have hb2 : n / 2 ^ jj % 2 ≠ (s[k]'hlt).toNat / 2 ^ jj % 2 := by
              rw [bne_iff_ne] at hb
              exact_mod_cast hb
            go_roundw
            case rel => exact ⟨jj + 1, xx + pp, pp * 2, by omega, hxp1, hxp2, by go_num, by go_num, by go_num, by show _ = _; rw [bitx_step, if_pos hb2, ← Hx.out, ← Hp.out], by show _ = _; rw [Nat.pow_succ, ← Hp.out], below_drewN hbw2 _⟩
            case measure => simp [intOf]; omega
          · have hb : (((n : Int) / 2 ^ jj % 2) != (((s[k]'hlt).toNat : Int) / 2 ^ jj % 2)) = false := by assumption
            have hb2 : ¬ n / 2 ^ jj % 2 ≠ (s[k]'hlt).toNat / 2 ^ jj % 2 := by
              rw [bne_eq_false_iff_eq] at hb
              intro h
              exact h (by exact_mod_cast hb)
            go_roundw
            case rel => exact ⟨jj + 1, xx, pp * 2, by omega, hx, hxp2, by go_num, rfl, by go_num, by show _ = _; rw [bitx_step, if_neg hb2, ← Hx.out, Nat.add_zero], by show _ = _; rw [Nat.pow_succ, ← Hp.out], below_drewN hbw2 _⟩
            case measure => simp [intOf]; omega
        · obtain rfl : jj = 8 := by omega
          have hnx := hash_next n (s[k]'hlt)
          rw [← Hx.out] at hnx
          obtain ⟨M, hM⟩ : ∃ M, M = Np.hashStep n (s[k]'hlt) := ⟨_, rfl⟩
          have hMlt : M < 4294967296 := by rw [hM]; exact Np.hashStep_lt _ _
          rw [← hM] at hnx
          have Hnx := Lib.hid hnx
          have HM := Lib.hid hM
          clear hnx hM
          go_wp2
          go_roundw
          case rel => exact ⟨k + 1, M, by omega, hMlt, by go_num, by have := Hnx.out; congr 1; omega, by show _ = _; rw [take_snoc s k hlt, Np.hashN_snoc, ← Hn.out, HM.out], hbw2⟩
          case measure => simp [intOf]; omega
    · go_wp2
      go_ret
      refine ⟨?_, hbw⟩
      rw [← hashV_eq (h := n) (by rw [Hn.out, List.take_of_length_le (by rw [← Lib.size_eq]; omega)])]
      rfl

end Go.Proofs.YtoadbipcfolheaaDoor
