/- Walks: the program's mkdir. -/
import Derived.Test.YtbpejjmfdhkfhaaGreatDoorPosRealI
import Derived.Deep.RegionWith
import Derived.Test.YtbpejjmfdhkfhaaGreatDoorPosRefO
set_option linter.unusedVariables false
set_option linter.unusedSimpArgs false
namespace Go.Proofs.YtbpejjmfdhkfhaaGreatDoor
open Go.RowKit

namespace Pz
theorem walk_snoc {S : Fil} {x : List UInt8} {o : Nat} : ∀ {L : List (List UInt8)} {i : Nat}, walk S i L = .ok o → walk S i (L ++ [x]) = if isDir S.N o then (if look S.E o x < 0 then .error 10 else .ok (look S.E o x).toNat) else .error 12
  | [], i, h => by
    rw [walk] at h
    cases h
    rw [List.nil_append, walk]
    rfl
  | y :: L, i, h => by
    rw [walk] at h
    rw [List.cons_append, walk]
    split at h
    · rename_i hd
      rw [if_pos hd]
      split at h
      · cases h
      · rename_i hl
        rw [if_neg hl]
        exact walk_snoc h
    · cases h
/-- what a path that has a place and is no node's leads to: no name yet -/
theorem look_of_new {S : Fil} {p : List UInt8} {e : Int} {d : Nat} {x : List UInt8} (hf : find S p = .error e) (hp : place S p = .ok (d, x)) : look S.E d x < 0 := by
  obtain ⟨L, hL, hw, hd⟩ := place_walk hp
  unfold find at hf
  rw [hL] at hf
  simp only [] at hf
  rw [walk_snoc hw, if_pos hd] at hf
  split at hf
  · assumption
  · cases hf
end Pz

set_option maxHeartbeats 4000000 in
set_option maxRecDepth 8192 in
theorem fmkdir_any [Inhabited XBox] (r : Nat) (S : Pz.Fil) (kind flags fd off n : Int) (p p2 data : ByteArray) (w : World) (F : Nat → Prop) (hp : p.size ≤ 100000) (hG : Pz.Good 1000 S) (hR : RealF r S w F) :
    Calls Tryz.prog 26 #[.pointer (some ⟨r, 0, none⟩), callV kind p p2 flags fd off n data] w (Does (RealF r) (Pz.mkdir S p.data.toList) w F) := by
  have HFail := Lib.hid ffails_any
  have HDone := Lib.hid fdone_any
  obtain ⟨bo, β, μ, hR⟩ := hR
  have FX := Lib.hid (Fx.start (RA.held r bo β μ S) hR #[.int .i64 kind, .string p, .string p2, .int .i64 flags, .int .i64 fd, .int .i64 off, .int .i64 n, .string data])
  have h1 := fun W G (hR : RA r bo β μ S W G) => ffind_any G r bo β μ S p W hp hG.ok hR
  have h2 := fun W G (hR : RA r bo β μ S W G) => fplace_any G r bo β μ S p W hp hG.ok hR
  obtain ⟨R, hres⟩ : ∃ R, R = Pz.mkdir S p.data.toList := ⟨_, rfl⟩
  rw [← hres]
  unfold callV
  cases hf : Pz.find S p.data.toList with
  | ok m =>
    have HResF : Hid (R = (S, Pz.er 11)) := Lib.hid (by rw [hres, Pz.mkdir, hf])
    rw [hf] at h1
    simp only [toW] at h1
    have HF := Lib.hid h1
    clear h1 h2 hR hG hf hres
    go_enter Tryz.func26, Tryz.ntmps26
    go_wp2_with fail
    refine (HF.out _ _ FX.out.inv).mono ?_
    rintro e w1 ⟨rfl, hb1⟩
    have FX1 := Lib.hid (FX.out.read ((RA.held r bo β μ) _) hb1)
    clear hb1
    go_wp2_with fail
    refine (HFail.out 11 _).mono ?_
    rintro e wf ⟨rfl, hbf⟩
    have FXF := Lib.hid ((FX1.out.imp RA.toF).read ((RealF.held r) _) hbf)
    unfold replyV
    have fxe := FXF.out
    obtain ⟨c0, c1, c2, c3, c4, c5, c6, hf7⟩ := cells7 fxe.res
    have f0 := hf7 0
    have f1 := hf7 1
    have f2 := hf7 2
    have f3 := hf7 3
    have f4 := hf7 4
    have f5 := hf7 5
    have f6 := hf7 6
    have HG := Lib.hid fxe
    clear hf7 fxe
    go_wp2
    try simp only [Exit.inBlock, Exit.then]
    refine bodyPost_ret (results_cell_row rfl _ _ (w.heap.size + 1) _ _ _ _ rfl (row7 HG.out.res _ _ _ _ _ _ _) Tryz.underlying36 rfl Tryz.infoR) rfl ?_
    rw [HResF.out]
    exact HG.out.done (RealF.held r) (Pz.er 11) none 0 (Or.inl rfl) _ _ _ _ _ _ _
  | error v =>
    obtain ⟨hv1, hv2, hv3⟩ := ne_of_err (Pz.find_err hf)
    rw [hf] at h1
    simp only [toW] at h1
    have HF := Lib.hid h1
    cases hpl : Pz.place S p.data.toList with
    | error g =>
      have HResF : Hid (R = (S, Pz.er g)) := Lib.hid (by rw [hres, Pz.mkdir, hf, hpl])
      obtain ⟨hg1, hg2, hg3⟩ := ne_of_err (Pz.place_err hpl)
      rw [hpl] at h2
      simp only [toL] at h2
      have HP := Lib.hid h2
      clear h1 h2 hR hG hf hres hpl
      go_enter Tryz.func26, Tryz.ntmps26
      go_wp2_with fail
      refine (HF.out _ _ FX.out.inv).mono ?_
      rintro e w1 ⟨rfl, hb1⟩
      have FX1 := Lib.hid (FX.out.read ((RA.held r bo β μ) _) hb1)
      clear hb1
      obtain ⟨b0, b1, b2, b3, b4, b5, b6, b7⟩ := FX1.out.c8
      go_wp2_with fail
      refine (HP.out _ _ FX1.out.inv).mono ?_
      rintro e w2 ⟨rfl, hb2⟩
      have FX2 := Lib.hid (FX1.out.read ((RA.held r bo β μ) _) hb2)
      clear hb2
      clear b0 b1 b2 b3 b4 b5 b6 b7
      go_wp2_with fail
      refine (HFail.out g _).mono ?_
      rintro e wf ⟨rfl, hbf⟩
      have FXF := Lib.hid ((FX2.out.imp RA.toF).read ((RealF.held r) _) hbf)
      unfold replyV
      have fxe := FXF.out
      obtain ⟨c0, c1, c2, c3, c4, c5, c6, hf7⟩ := cells7 fxe.res
      have f0 := hf7 0
      have f1 := hf7 1
      have f2 := hf7 2
      have f3 := hf7 3
      have f4 := hf7 4
      have f5 := hf7 5
      have f6 := hf7 6
      have HG := Lib.hid fxe
      clear hf7 fxe
      go_wp2
      try simp only [Exit.inBlock, Exit.then]
      refine bodyPost_ret (results_cell_row rfl _ _ (w.heap.size + 1) _ _ _ _ rfl (row7 HG.out.res _ _ _ _ _ _ _) Tryz.underlying36 rfl Tryz.infoR) rfl ?_
      rw [HResF.out]
      exact HG.out.done (RealF.held r) (Pz.er g) none 0 (Or.inl rfl) _ _ _ _ _ _ _
    | ok dx =>
      obtain ⟨d, x⟩ := dx
      have hlk : Pz.look S.E d x < 0 := Pz.look_of_new hf hpl
      have HResF : Hid (R = ({ S with N := S.N ++ [⟨true, [], 1⟩], E := Pz.take S.E d x ++ [⟨d, x, S.N.length⟩] }, Pz.er 0)) := Lib.hid (by rw [hres, Pz.mkdir, hf, hpl, Pz.take_absent hlk])
      rw [hpl] at h2
      simp only [toL] at h2
      have HP := Lib.hid h2
      obtain ⟨hdl, hdd⟩ := Pz.place_lt hG.ok hpl
      have HNc2 := Lib.hid fun W G (h : RA r bo β μ S W G) => (RealAt.nc h hdl).2.2.1
      rw [hdd, if_pos rfl] at HNc2
      have HKey := Lib.hid (key_of (Pz.place_name hpl))
      have HNew := Lib.hid fun W W' G gm gb (h : RA r bo β μ S W G) => RealAt.newNode (w' := W') (gm := gm) (gb := gb) (y := ⟨true, [], 1⟩) h hG.ok
      have hdd1 : Pz.isDir (S.N ++ [⟨true, [], 1⟩]) d = true := by
        unfold Pz.isDir at hdd ⊢
        rw [List.getElem?_append_left hdl]; exact hdd
      have HMap := Lib.hid fun W G gb gm (h : RA r bo (upd β S.N.length gb) (upd μ S.N.length gm) { S with N := S.N ++ [⟨true, [], 1⟩] } W G) => RealAt.dirs h d hdd1
      have HPut := Lib.hid fun W W' G D n c gb gm (h : RA r bo (upd β S.N.length gb) (upd μ S.N.length gm) { S with N := S.N ++ [⟨true, [], 1⟩] } W G) => RealAt.putName (w' := W') (x := x) (D := D) (n := n) (c := c) (m := S.N.length) h hG.once hdd1
      have hud : ∀ gm, upd μ S.N.length gm d = μ d := fun gm => if_neg (by omega)
      have hub : ∀ gb, upd β S.N.length gb S.N.length = gb := fun gb => if_pos rfl
      have HUd := Lib.hid hud
      have HUb := Lib.hid hub
      have hcnt : Hid (Pz.count S.E d < maxLen) := Lib.hid (by
        have h5 := List.length_filter_le (fun e : Pz.En => e.dir == d) S.E
        have h7 := hG.e
        unfold maxLen Pz.count
        omega)
      clear h1 h2 hR hG hf hres hpl hlk hdl hdd hdd1 hud hub
      go_enter Tryz.func26, Tryz.ntmps26
      go_wp2_with fail
      refine (HF.out _ _ FX.out.inv).mono ?_
      rintro e w1 ⟨rfl, hb1⟩
      have FX1 := Lib.hid (FX.out.read ((RA.held r bo β μ) _) hb1)
      clear hb1
      obtain ⟨b0, b1, b2, b3, b4, b5, b6, b7⟩ := FX1.out.c8
      go_wp2_with fail
      refine (HP.out _ _ FX1.out.inv).mono ?_
      rintro e w2 ⟨rfl, hb2⟩
      have FX2 := Lib.hid (FX1.out.read ((RA.held r bo β μ) _) hb2)
      clear hb2
      clear b0 b1 b2 b3 b4 b5 b6 b7
      go_wp2_with fail
      have FX2d := Lib.hid (FX2.out.read (RA.held r bo β μ _) ((Below.refl _ w2).drew))
      have n2 := HNc2.out _ _ FX2.out.inv
      have n2d := HNc2.out _ _ FX2d.out.inv
      generalize hw3 : w2.drew = w3 at FX2d n2d
      go_region_with ((go_at_call 51; refine (ffolder_any _).mono ?_; rintro e w4 ⟨rfl, hm4, hc4, hs4, hb4⟩; have HX4 := Lib.hid (HNew.out _ w4 _ w3.heap.size (w3.heap.size + 1) FX2d.out.inv hb4 (Nat.le_succ _) hc4 (fun _ => ⟨Nat.le_refl _, hm4⟩)); obtain ⟨D4, hown4, hme4⟩ := HMap.out _ _ _ _ HX4.out.1; have hown4b := hown4; rw [HUd.out] at hown4b; obtain ⟨w5, hrun5, hown5, hturn5⟩ := hown4b.store Tryz.strLaw Tryz.underlying103 hcnt.out (val := .pointer (some ⟨w3.heap.size + 1, 0, none⟩)) HKey.out rfl; have n4 := (hb4.cell (p := ⟨β d, 2, none⟩) (cell_lt n2d)).trans n2d; have HOwn4 := Lib.hid hown4; have HMe4 := Lib.hid hme4; have HOwn5 := Lib.hid hown5; have HTurn5 := Lib.hid hturn5; clear hown4 hme4 hown5 hturn5 hown4b hm4 hc4 hs4))
      all_goals
        have FX4 := Lib.hid (FX2d.out.write (RA.held r bo _ _ _) HX4.out.1 HX4.out.2)
        have hx := HPut.out _ _ _ _ _ _ _ _ FX4.out.inv HOwn4.out HMe4.out (by rw [HUd.out, HUb.out]; exact HOwn5.out) (by rw [HUd.out]; exact HTurn5.out)
        have FX5 := Lib.hid (FX4.out.put (RA.held r bo _ _ _) hx.1 hx.2)
        clear hx n4 n2d hrun5
        try simp only [Exit.then]
        go_wp2_with fail
        refine (HDone.out _).mono ?_
        rintro e wf ⟨rfl, hbf⟩
        have FXF := Lib.hid ((FX5.out.imp RA.toF).read (RealF.held r _) hbf)
        unfold replyV
        have fxe := FXF.out
        obtain ⟨c0, c1, c2, c3, c4, c5, c6, hf7⟩ := cells7 fxe.res
        have f0 := hf7 0
        have f1 := hf7 1
        have f2 := hf7 2
        have f3 := hf7 3
        have f4 := hf7 4
        have f5 := hf7 5
        have f6 := hf7 6
        have HG := Lib.hid fxe
        clear hf7 fxe
        go_wp2
        try simp only [Exit.inBlock, Exit.then]
        refine bodyPost_ret (results_cell_row rfl _ _ (w.heap.size + 1) _ _ _ _ rfl (row7 HG.out.res _ _ _ _ _ _ _) Tryz.underlying36 rfl Tryz.infoR) rfl ?_
        rw [HResF.out]
        exact HG.out.done (RealF.held r) (Pz.er 0) none 0 (Or.inl rfl) _ _ _ _ _ _ _

end Go.Proofs.YtbpejjmfdhkfhaaGreatDoor

/- Walks: the program's free; its opens, where the path is a node's. -/
namespace Go.Proofs.YtbpejjmfdhkfhaaGreatDoor
open Go.RowKit

theorem i64_small {k : Int} (h : -4611686018427387904 ≤ k) (h2 : k ≤ 4611686018427387904) : I64 k := by
  unfold I64
  exact WalkArith.wf_i64 (by omega)
theorem ofd_keys {D : DataW Unit} {β : Nat → Nat} {O : List Pz.Op} (h : MapO D β O) {c fd : Int} (hc : I64 c) (hf : I64 fd) :
    (Pz.ofd O c fd < 0 → ∀ zd, D.atKey (keyL c fd) zd = zd) ∧ (∀ k : Nat, Pz.ofd O c fd = k → ∀ zd, D.atKey (keyL c fd) zd = .lit (.int .i64 (β k))) := by
  refine ⟨fun hl zd => by rw [h.1 c fd zd hc hf, if_pos hl], fun k hk zd => ?_⟩
  rw [h.1 c fd zd hc hf, if_neg (by omega), hk, Int.toNat_natCast]
/-- a descriptor that comes -/
theorem RealAt.addOpen [Inhabited XBox] {w w' : World} {F : Nat → Prop} {r bo n m : Nat} {β μ : Nat → Nat} {S : Pz.Fil} {c fd : Int} {D : DataW Unit} {cap : Nat} (h : RealAt w F r bo β μ S)
    (hown0 : w.ownsMap Tryz.prog 67 ptrE bo cap D) (hmo : MapO D β S.O) (hown : w'.ownsMap Tryz.prog 67 ptrE bo n (D.put (keyL c fd) (.lit (.int .i64 (β m))))) (ht : w.mapTurned w' bo)
    (hc : I64 c) (hf : I64 fd) (hno : Pz.ofd S.O c fd < 0) : RealAt w' F r bo β μ { S with O := S.O ++ [⟨c, fd, m⟩] } ∧ Only F w w' :=
  h.setOpen ht.grown hown (hmo.add (hown0.tidy Tryz.keyLaw) hc hf hno)
theorem RealAt.delOpen [Inhabited XBox] {w w' : World} {F : Nat → Prop} {r bo n : Nat} {β μ : Nat → Nat} {S : Pz.Fil} {c fd : Int} {D : DataW Unit} {cap : Nat} (h : RealAt w F r bo β μ S) (ho : S.O.Pairwise fun a b => ¬ (a.client = b.client ∧ a.fd = b.fd))
    (hown0 : w.ownsMap Tryz.prog 67 ptrE bo cap D) (hmo : MapO D β S.O) (hown : w'.ownsMap Tryz.prog 67 ptrE bo n (D.del (keyL c fd))) (ht : w.mapTurned w' bo)
    (hc : I64 c) (hf : I64 fd) : RealAt w' F r bo β μ { S with O := Pz.shut S.O c fd } ∧ Only F w w' :=
  h.setOpen ht.grown hown (hmo.shut (hown0.tidy Tryz.keyLaw) hc hf ho)

namespace Pz
theorem freeN_no {O : List Op} {cl : Int} : ∀ {m k : Nat}, freeN O cl m k < k + m → ofd O cl (freeN O cl m k) < 0
  | 0, k, h => by rw [freeN] at h; omega
  | m + 1, k, h => by
    rw [freeN] at h ⊢
    split
    · rename_i hz
      rw [if_pos hz] at h
      exact freeN_no (by omega)
    · omega
theorem freeN_le {O : List Op} {cl : Int} : ∀ {m k : Nat}, freeN O cl m k ≤ k + m
  | 0, k => by rw [freeN]; omega
  | m + 1, k => by
    rw [freeN]
    split
    · have := freeN_le (O := O) (cl := cl) (m := m) (k := k + 1)
      omega
    · omega
theorem free_no {O : List Op} {cl : Int} {k : Nat} (h : free O cl = k) (hk : k < 8) : ofd O cl k < 0 := by
  unfold free at h
  have := freeN_no (O := O) (cl := cl) (m := 8) (k := 0) (by omega)
  rwa [h] at this
theorem free_le {O : List Op} {cl : Int} : free O cl ≤ 8 := by
  have := freeN_le (O := O) (cl := cl) (m := 8) (k := 0)
  unfold free
  omega
end Pz

def freeV (n : Nat) : Value := if n = 8 then .tuple #[.int .i64 0, .bool false] else .tuple #[.int .i64 n, .bool true]

set_option maxHeartbeats 2000000 in
set_option maxRecDepth 8192 in
theorem ffree_any [Inhabited XBox] (F : Nat → Prop) (r bo : Nat) (β μ : Nat → Nat) (S : Pz.Fil) (cl : Int) (w : World) (hcl : I64 cl) (hR : RealAt w F r bo β μ S) :
    Calls Tryz.prog 54 #[.pointer (some ⟨r, 0, none⟩), .int .i64 cl] w fun e w' => e = .returned (freeV (Pz.free S.O cl)) ∧ Below w.heap.size w w' := by
  obtain ⟨_, rc1⟩ := hR.rc
  obtain ⟨DO, hownO, hmO⟩ := hR.opn
  have HOwnO := Lib.hid hownO
  have HMO := Lib.hid hmO
  have HCl := Lib.hid hcl
  clear hownO hmO hR hcl
  obtain ⟨fr, hfr⟩ : ∃ fr, fr = Pz.free S.O cl := ⟨_, rfl⟩
  have HFr : Hid (fr = Pz.freeN S.O cl (8 - 0) 0) := Lib.hid hfr
  rw [← hfr]
  clear hfr
  go_enter Tryz.func54, Tryz.ntmps54
  go_wp2
  go_loopw [7] (fun v wr => ∃ k : Nat, k ≤ 8 ∧ v = .int .i64 k ∧ Hid (fr = Pz.freeN S.O cl (8 - k) k) ∧ wr = w) (fun v _ => 8 - (intOf v).toNat)
  case atStart => exact ⟨0, by omega, rfl, HFr.out, rfl⟩
  case round =>
    obtain ⟨k, hk, rfl, hok, rfl⟩ := hrel
    by_cases hk8 : k < 8
    · have hk1 : (k : Int) < 8 := by omega
      have hk2 : (0 : Int) ≤ k := by omega
      have hkey : I64 k := i64_small (by omega) (by omega)
      have HKeyO := Lib.hid (key_read HCl.out hkey)
      obtain ⟨ha1, ha2⟩ := ofd_keys HMO.out HCl.out hkey
      have hst : fr = if 0 ≤ Pz.ofd S.O cl k then Pz.freeN S.O cl (8 - (k + 1)) (k + 1) else k := by
        rw [hok.out, show 8 - k = (8 - (k + 1)) + 1 by omega, Pz.freeN]
      by_cases hz : Pz.ofd S.O cl k < 0
      · rw [if_neg (by omega)] at hst
        have Hst := Lib.hid hst
        have HAt := Lib.hid (ha1 hz)
        clear ha1 ha2 hst hz hkey
        go_wp2_with (at_lookup; refine lookup_nil rfl _ _ 63 rfl 67 62 Tryz.keyLaw Tryz.underlying63 (Tryz.zeroP _) _ _ DO rfl HOwnO.out _ _ rfl HKeyO.out HAt.out ?_)
        go_ret2
        refine ⟨ret_of ?_, Below.refl _ _⟩
        rw [Hst.out]
        unfold freeV
        rw [if_neg (by omega)]
        rfl
      · rw [if_pos (by omega)] at hst
        have Hst := Lib.hid hst
        obtain ⟨z, hz2⟩ : ∃ z : Nat, Pz.ofd S.O cl k = z := ⟨(Pz.ofd S.O cl k).toNat, by omega⟩
        have HAt := Lib.hid (ha2 z hz2)
        clear ha1 ha2 hst hz hkey hz2
        go_wp2_with (at_lookup; refine lookup_at rfl _ _ 63 rfl 67 62 Tryz.keyLaw Tryz.underlying63 (Tryz.zeroP _) _ _ DO rfl HOwnO.out _ _ rfl HKeyO.out (β z) HAt.out ?_)
        go_roundw
        case rel => exact ⟨k + 1, by omega, by go_num, Hst.out, trivial⟩
        case measure => simp [intOf]; omega
    · obtain rfl : k = 8 := by omega
      have Hst : Hid (fr = 8) := Lib.hid (by rw [hok.out]; rfl)
      go_wp2
      go_ret2
      refine ⟨ret_of ?_, Below.refl _ _⟩
      rw [Hst.out]
      unfold freeV
      rw [if_pos rfl]
      rfl

theorem toL_any (β : Nat → Nat) (R : Except Int (Nat × List UInt8)) : ∃ (q : Option Addr) (x : List UInt8) (g : Int), toL β R = .tuple #[.pointer q, .string ⟨x.toArray⟩, .int .i64 g] := by
  cases R with
  | error e => exact ⟨none, [], e, rfl⟩
  | ok q => exact ⟨some ⟨β q.1, 0, none⟩, q.2, 0, rfl⟩

set_option maxHeartbeats 4000000 in
set_option maxRecDepth 8192 in
theorem fopen_bad [Inhabited XBox] (r : Nat) (S : Pz.Fil) (cl kind flags fd off n : Int) (p p2 data : ByteArray) (w : World) (F : Nat → Prop) (hfl : ¬ (flags = 0 ∨ flags = 1 ∨ flags = 3)) (hR : RealF r S w F) :
    Calls Tryz.prog 23 #[.pointer (some ⟨r, 0, none⟩), .int .i64 cl, callV kind p p2 flags fd off n data] w (Does (RealF r) (S, Pz.er 15) w F) := by
  have HFail := Lib.hid ffails_any
  have FX := Lib.hid (Fx.start (RealF.held r S) hR #[.int .i64 kind, .string p, .string p2, .int .i64 flags, .int .i64 fd, .int .i64 off, .int .i64 n, .string data])
  unfold callV
  by_cases h1 : flags < 0
  · clear hfl hR
    go_enter Tryz.func23, Tryz.ntmps23
    go_wp2_with fail
    refine (HFail.out 15 _).mono ?_
    rintro e wf ⟨rfl, hbf⟩
    have FXF := Lib.hid (FX.out.read ((RealF.held r) _) hbf)
    unfold replyV
    have fxe := FXF.out
    obtain ⟨c0, c1, c2, c3, c4, c5, c6, hf7⟩ := cells7 fxe.res
    have f0 := hf7 0
    have f1 := hf7 1
    have f2 := hf7 2
    have f3 := hf7 3
    have f4 := hf7 4
    have f5 := hf7 5
    have f6 := hf7 6
    have HG := Lib.hid fxe
    clear hf7 fxe
    go_wp2
    try simp only [Exit.inBlock, Exit.then]
    refine bodyPost_ret (results_cell_row rfl _ _ (w.heap.size + 1) _ _ _ _ rfl (row7 HG.out.res _ _ _ _ _ _ _) Tryz.underlying36 rfl Tryz.infoR) rfl ?_
    exact HG.out.done (RealF.held r) (Pz.er 15) none 0 (Or.inl rfl) _ _ _ _ _ _ _
  by_cases h2 : 3 < flags
  · have h1' : 0 ≤ flags := by omega
    clear hfl hR
    go_enter Tryz.func23, Tryz.ntmps23
    go_wp2_with fail
    refine (HFail.out 15 _).mono ?_
    rintro e wf ⟨rfl, hbf⟩
    have FXF := Lib.hid (FX.out.read ((RealF.held r) _) hbf)
    unfold replyV
    have fxe := FXF.out
    obtain ⟨c0, c1, c2, c3, c4, c5, c6, hf7⟩ := cells7 fxe.res
    have f0 := hf7 0
    have f1 := hf7 1
    have f2 := hf7 2
    have f3 := hf7 3
    have f4 := hf7 4
    have f5 := hf7 5
    have f6 := hf7 6
    have HG := Lib.hid fxe
    clear hf7 fxe
    go_wp2
    try simp only [Exit.inBlock, Exit.then]
    refine bodyPost_ret (results_cell_row rfl _ _ (w.heap.size + 1) _ _ _ _ rfl (row7 HG.out.res _ _ _ _ _ _ _) Tryz.underlying36 rfl Tryz.infoR) rfl ?_
    exact HG.out.done (RealF.held r) (Pz.er 15) none 0 (Or.inl rfl) _ _ _ _ _ _ _
  obtain rfl : flags = 2 := by omega
  clear hfl hR h1 h2
  go_enter Tryz.func23, Tryz.ntmps23
  go_wp2_with fail
  refine (HFail.out 15 _).mono ?_
  rintro e wf ⟨rfl, hbf⟩
  have FXF := Lib.hid (FX.out.read ((RealF.held r) _) hbf)
  unfold replyV
  have fxe := FXF.out
  obtain ⟨c0, c1, c2, c3, c4, c5, c6, hf7⟩ := cells7 fxe.res
  have f0 := hf7 0
  have f1 := hf7 1
  have f2 := hf7 2
  have f3 := hf7 3
  have f4 := hf7 4
  have f5 := hf7 5
  have f6 := hf7 6
  have HG := Lib.hid fxe
  clear hf7 fxe
  go_wp2
  try simp only [Exit.inBlock, Exit.then]
  refine bodyPost_ret (results_cell_row rfl _ _ (w.heap.size + 1) _ _ _ _ rfl (row7 HG.out.res _ _ _ _ _ _ _) Tryz.underlying36 rfl Tryz.infoR) rfl ?_
  exact HG.out.done (RealF.held r) (Pz.er 15) none 0 (Or.inl rfl) _ _ _ _ _ _ _

set_option maxHeartbeats 4000000 in
set_option maxRecDepth 8192 in
theorem fopen_ok3 [Inhabited XBox] (r : Nat) (S : Pz.Fil) (cl kind fd off n : Int) (p p2 data : ByteArray) (w : World) (F : Nat → Prop) (hcl : I64 cl) (hpre : OpenPre S p) (m : Nat) (hf : Pz.find S p.data.toList = .ok m) (hR : RealF r S w F) :
    Calls Tryz.prog 23 #[.pointer (some ⟨r, 0, none⟩), .int .i64 cl, callV kind p p2 3 fd off n data] w (Does (RealF r) (S, Pz.er 11) w F) := by
  have HFail := Lib.hid ffails_any
  obtain ⟨bo, β, μ, hR⟩ := hR
  have FX := Lib.hid (Fx.start (RA.held r bo β μ S) hR #[.int .i64 kind, .string p, .string p2, .int .i64 3, .int .i64 fd, .int .i64 off, .int .i64 n, .string data])
  have h1 := fun W G (hR : RA r bo β μ S W G) => ffind_any G r bo β μ S p W hpre.hp hpre.good.ok hR
  have h2 := fun W G (hR : RA r bo β μ S W G) => fplace_any G r bo β μ S p W hpre.hp hpre.good.ok hR
  have h3 := fun W G (hR : RA r bo β μ S W G) => ffree_any G r bo β μ S cl W hcl hR
  rw [hf] at h1
  simp only [toW] at h1
  have HF := Lib.hid h1
  unfold callV
  obtain ⟨q, x, u, hP⟩ := toL_any β (Pz.place S p.data.toList)
  rw [hP] at h2
  have HP := Lib.hid h2
  by_cases hfr : Pz.free S.O cl = 8
  · rw [freeV, if_pos hfr] at h3
    have HFr := Lib.hid h3
    clear h1 h2 h3 hR hP hpre hf hfr hcl
    go_enter Tryz.func23, Tryz.ntmps23
    go_wp2_with fail
    refine (HF.out _ _ FX.out.inv).mono ?_
    rintro e w1 ⟨rfl, hb1⟩
    have FX1 := Lib.hid (FX.out.read ((RA.held r bo β μ) _) hb1)
    clear hb1
    obtain ⟨b0, b1, b2, b3, b4, b5, b6, b7⟩ := FX1.out.c8
    go_wp2_with fail
    refine (HP.out _ _ FX1.out.inv).mono ?_
    rintro e w2 ⟨rfl, hb2⟩
    have FX2 := Lib.hid (FX1.out.read ((RA.held r bo β μ) _) hb2)
    clear hb2
    clear b0 b1 b2 b3 b4 b5 b6 b7
    obtain ⟨b0, b1, b2, b3, b4, b5, b6, b7⟩ := FX2.out.c8
    go_wp2_with fail
    refine (HFr.out _ _ FX2.out.inv).mono ?_
    rintro e w3 ⟨rfl, hb3⟩
    have FX3 := Lib.hid (FX2.out.read ((RA.held r bo β μ) _) hb3)
    clear hb3
    clear b0 b1 b2 b3 b4 b5 b6 b7
    obtain ⟨b0, b1, b2, b3, b4, b5, b6, b7⟩ := FX3.out.c8
    go_wp2_with fail
    refine (HFail.out 11 _).mono ?_
    rintro e wf ⟨rfl, hbf⟩
    have FXF := Lib.hid ((FX3.out.imp RA.toF).read ((RealF.held r) _) hbf)
    unfold replyV
    have fxe := FXF.out
    obtain ⟨c0, c1, c2, c3, c4, c5, c6, hf7⟩ := cells7 fxe.res
    have f0 := hf7 0
    have f1 := hf7 1
    have f2 := hf7 2
    have f3 := hf7 3
    have f4 := hf7 4
    have f5 := hf7 5
    have f6 := hf7 6
    have HG := Lib.hid fxe
    clear hf7 fxe
    go_wp2
    try simp only [Exit.inBlock, Exit.then]
    refine bodyPost_ret (results_cell_row rfl _ _ (w.heap.size + 1) _ _ _ _ rfl (row7 HG.out.res _ _ _ _ _ _ _) Tryz.underlying36 rfl Tryz.infoR) rfl ?_
    exact HG.out.done (RealF.held r) (Pz.er 11) none 0 (Or.inl rfl) _ _ _ _ _ _ _
  · rw [freeV, if_neg hfr] at h3
    have HFr := Lib.hid h3
    clear h1 h2 h3 hR hP hpre hf hfr hcl
    go_enter Tryz.func23, Tryz.ntmps23
    go_wp2_with fail
    refine (HF.out _ _ FX.out.inv).mono ?_
    rintro e w1 ⟨rfl, hb1⟩
    have FX1 := Lib.hid (FX.out.read ((RA.held r bo β μ) _) hb1)
    clear hb1
    obtain ⟨b0, b1, b2, b3, b4, b5, b6, b7⟩ := FX1.out.c8
    go_wp2_with fail
    refine (HP.out _ _ FX1.out.inv).mono ?_
    rintro e w2 ⟨rfl, hb2⟩
    have FX2 := Lib.hid (FX1.out.read ((RA.held r bo β μ) _) hb2)
    clear hb2
    clear b0 b1 b2 b3 b4 b5 b6 b7
    obtain ⟨b0, b1, b2, b3, b4, b5, b6, b7⟩ := FX2.out.c8
    go_wp2_with fail
    refine (HFr.out _ _ FX2.out.inv).mono ?_
    rintro e w3 ⟨rfl, hb3⟩
    have FX3 := Lib.hid (FX2.out.read ((RA.held r bo β μ) _) hb3)
    clear hb3
    clear b0 b1 b2 b3 b4 b5 b6 b7
    obtain ⟨b0, b1, b2, b3, b4, b5, b6, b7⟩ := FX3.out.c8
    go_wp2_with fail
    refine (HFail.out 11 _).mono ?_
    rintro e wf ⟨rfl, hbf⟩
    have FXF := Lib.hid ((FX3.out.imp RA.toF).read ((RealF.held r) _) hbf)
    unfold replyV
    have fxe := FXF.out
    obtain ⟨c0, c1, c2, c3, c4, c5, c6, hf7⟩ := cells7 fxe.res
    have f0 := hf7 0
    have f1 := hf7 1
    have f2 := hf7 2
    have f3 := hf7 3
    have f4 := hf7 4
    have f5 := hf7 5
    have f6 := hf7 6
    have HG := Lib.hid fxe
    clear hf7 fxe
    go_wp2
    try simp only [Exit.inBlock, Exit.then]
    refine bodyPost_ret (results_cell_row rfl _ _ (w.heap.size + 1) _ _ _ _ rfl (row7 HG.out.res _ _ _ _ _ _ _) Tryz.underlying36 rfl Tryz.infoR) rfl ?_
    exact HG.out.done (RealF.held r) (Pz.er 11) none 0 (Or.inl rfl) _ _ _ _ _ _ _

end Go.Proofs.YtbpejjmfdhkfhaaGreatDoor
