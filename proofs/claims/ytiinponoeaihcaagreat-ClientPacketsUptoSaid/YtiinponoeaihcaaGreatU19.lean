/- A whole region of plain operations, run by the kernel over values that are given. -/
import Derived.RowKit
import Derived.Tactics2
set_option linter.unusedVariables false
set_option linter.unusedSimpArgs false
set_option linter.unusedSectionVars false
namespace Go.Proofs.YtiinponoeaihcaaGreat
open Go.RowKit

/-- what is yet to be shown of a world -/
inductive Ob where
  | load (ty : TypeId) (p v : Value)
  | bin (o : BinOp) (t : TypeId) (u v r : Value)
  | un (o : UnOp) (u r : Value)
  | fld (s : TypeId) (p : Value) (f : Nat) (v : Value)
def Ob.Holds (P : Program) (w : World) : Ob → Prop
  | .load ty p v => (Instr.loadAt ty p).run P w = .ok v w
  | .bin o t u v r => (∀ x y, (eqGuard o t x y u v).run P w = .ok () w) ∧ (binOp o t u v).run P w = .ok r w
  | .un o u r => (Op.unary o u).run P w = .ok r w
  | .fld s p f v => (Instr.fieldAt s p f).run P w = .ok v w
def symLook (a : Act) (t : Nat) : List (Nat × Value) → Value
  | [] => a.tmps.getD t undef
  | (d, v) :: e => match Nat.beq d t with
    | true => v
    | false => symLook a t e
def symEval (a : Act) (env : List (Nat × Value)) : Operand → Value
  | .tmp t => symLook a t env
  | .const v => v
  | .global g => .pointer (some ⟨g, 0, none⟩)
  | .func f => .func (.func f) #[] #[]
def symAct (a : Act) : List (Nat × Value) → Act
  | [] => a
  | (d, v) :: e => (symAct a e).put (some d) v
def symYield (ops : Array Oper) (a : Act) (env : List (Nat × Value)) (j : Nat) : Option Bool :=
  match (ops[j]?).bind (·.dst) with
  | none => none
  | some t => match symLook a t env with
    | .bool b => some b
    | _ => none
def symWant (ops : Array Oper) (a : Act) (env : List (Nat × Value)) (o : Oper) : Bool := match o.guard with
  | none => true
  | some (j, want) => match symYield ops a env j with
    | some true => want
    | some false => !want
    | none => false
def symNorm {α : Type} (v : Value) (k : Value → α) : α := match v with
  | .bool true => k (.bool true)
  | .bool false => k (.bool false)
  | v => k v
def symFind (d : Nat) : List (Nat × Value) → Option Value
  | [] => none
  | (e, v) :: r => match Nat.beq e d with
    | true => some v
    | false => symFind d r
def symStep (T : List (Nat × Value)) (a : Act) (env : List (Nat × Value)) (d : Nat) (o : Op) : Option (Value × Option Ob) := match o with
  | .move x => some (symEval a env x, none)
  | .assign x => some (symEval a env x, none)
  | .pick c x y => match symEval a env c with
    | .bool true => some (symEval a env x, none)
    | .bool false => some (symEval a env y, none)
    | _ => none
  | .load ty x => match symFind d T with
    | some v => some (v, some (.load ty (symEval a env x) v))
    | none => none
  | .fieldAddr s x f => match symFind d T with
    | some v => some (v, some (.fld s (symEval a env x) f v))
    | none => none
  | .binOp b t x y _ => match symFind d T with
    | some v => some (v, some (.bin b t (symEval a env x) (symEval a env y) v))
    | none => none
  | .unOp u _ x => match symFind d T with
    | some v => some (v, some (.un u (symEval a env x) v))
    | none => none
  | _ => none
def symRun (T : List (Nat × Value)) (n : Nat) (ops : Array Oper) (a : Act) : List Oper → List (Nat × Value) → List Ob → Option (List (Nat × Value) × List Ob)
  | [], env, acc => some (env, acc)
  | o :: r, env, acc => match o.dst with
    | none => none
    | some d => match Nat.blt d n with
      | false => none
      | true => match symWant ops a env o with
        | false => symRun T n ops a r ((d, undef) :: env) acc
        | true => match symStep T a env d o.op with
          | none => none
          | some (v, some ob) => symRun T n ops a r ((d, v) :: env) (ob :: acc)
          | some (v, none) => symNorm v fun v => symRun T n ops a r ((d, v) :: env) acc
theorem symNorm_eq {α : Type} (v : Value) (k : Value → α) : symNorm v k = k v := by
  unfold symNorm
  split <;> first | rfl | (subst_vars; rfl)
theorem symAct_size (a : Act) : ∀ env, (symAct a env).tmps.size = a.tmps.size
  | [] => rfl
  | (d, v) :: e => by
    rw [symAct]
    simp [Act.put, symAct_size a e]
theorem symLook_eq (a : Act) (t : Nat) : ∀ env : List (Nat × Value), (∀ p ∈ env, p.1 < a.tmps.size) → (symAct a env).tmps.getD t undef = symLook a t env
  | [], _ => rfl
  | (d, v) :: e, h => by
    have hd : d < a.tmps.size := h (d, v) List.mem_cons_self
    have ih := symLook_eq a t e fun p hp => h p (List.mem_cons_of_mem _ hp)
    rw [symLook, symAct]
    by_cases hdt : d = t
    · subst hdt
      rw [Nat.beq_refl]
      simp [Act.put, symAct_size, hd, Array.getD]
    · have hb : Nat.beq d t = false := by
        cases hx : Nat.beq d t
        · rfl
        · exact absurd (Nat.eq_of_beq_eq_true hx) hdt
      rw [hb]
      show _ = symLook a t e
      rw [← ih]
      show ((symAct a e).tmps.setIfInBounds d v).getD t undef = _
      rw [Array.getD_eq_getD_getElem?, Array.getElem?_setIfInBounds_ne hdt, ← Array.getD_eq_getD_getElem?]
theorem symEval_eq (a : Act) (env : List (Nat × Value)) (h : ∀ p ∈ env, p.1 < a.tmps.size) (x : Operand) : (symAct a env).eval x = symEval a env x := by
  cases x
  · exact symLook_eq a _ env h
  · rfl
  · rfl
  · rfl
theorem symYield_eq (ops : Array Oper) (a : Act) (env : List (Nat × Value)) (h : ∀ p ∈ env, p.1 < a.tmps.size) (j : Nat) : yielded ops (symAct a env).tmps j = symYield ops a env j := by
  unfold yielded symYield
  cases (ops[j]?).bind (·.dst) with
  | none => rfl
  | some t =>
    simp only [Option.bind_some]
    rw [← symLook_eq a t env h]
    by_cases ht : t < (symAct a env).tmps.size
    · rw [Array.getElem?_eq_getElem ht, Array.getD_eq_getD_getElem?, Array.getElem?_eq_getElem ht]
      simp only [Option.getD_some]
      split <;> split <;> simp_all
    · rw [Array.getElem?_eq_none (Nat.le_of_not_lt ht), Array.getD_eq_getD_getElem?, Array.getElem?_eq_none (Nat.le_of_not_lt ht)]
      simp [undef]
theorem symWant_eq (ops : Array Oper) (a : Act) (env : List (Nat × Value)) (h : ∀ p ∈ env, p.1 < a.tmps.size) (o : Oper) : Region.wanted o (yielded ops (symAct a env).tmps) = symWant ops a env o := by
  unfold Region.wanted symWant
  cases hg : o.guard with
  | none => rfl
  | some p =>
    obtain ⟨j, want⟩ := p
    simp only [hg]
    rw [symYield_eq ops a env h]
    cases symYield ops a env j with
    | none => rfl
    | some b => cases b <;> cases want <;> rfl
theorem symStep_none {P : Program} {T : List (Nat × Value)} {a : Act} {env : List (Nat × Value)} (he : ∀ p ∈ env, p.1 < a.tmps.size) {d : Nat} {o : Oper} {v : Value} (h : symStep T a env d o.op = some (v, none)) (w : World) : (execOp (symAct a env).eval o).run P w = .ok (.value v) w := by
  unfold symStep at h
  split at h
  · rename_i x ho
    cases h
    unfold execOp
    simp [ho, symEval_eq a env he]
  · rename_i x ho
    cases h
    unfold execOp
    simp [ho, symEval_eq a env he]
  · rename_i c x y ho
    split at h
    · rename_i hb
      cases h
      unfold execOp
      simp [ho, symEval_eq a env he, hb, asBool]
    · rename_i hb
      cases h
      unfold execOp
      simp [ho, symEval_eq a env he, hb, asBool]
    · cases h
  · split at h <;> cases h
  · split at h <;> cases h
  · split at h <;> cases h
  · split at h <;> cases h
  · cases h
theorem symStep_some {P : Program} {T : List (Nat × Value)} {a : Act} {env : List (Nat × Value)} (he : ∀ p ∈ env, p.1 < a.tmps.size) {d : Nat} {o : Oper} {v : Value} {ob : Ob} (h : symStep T a env d o.op = some (v, some ob)) (w : World) (hob : ob.Holds P w) : (execOp (symAct a env).eval o).run P w = .ok (.value v) w := by
  unfold symStep at h
  split at h
  · cases h
  · cases h
  · split at h <;> cases h
  · rename_i ty x ho
    split at h
    · cases h
      unfold Ob.Holds at hob
      unfold execOp
      simp [ho, symEval_eq a env he, hob]
    · cases h
  · rename_i ty x f ho
    split at h
    · cases h
      unfold Ob.Holds at hob
      unfold execOp
      simp [ho, symEval_eq a env he, hob]
    · cases h
  · rename_i b t x y ty ho
    split at h
    · cases h
      unfold Ob.Holds at hob
      unfold execOp
      simp [ho, symEval_eq a env he, hob.1, hob.2]
    · cases h
  · rename_i u ty x ho
    split at h
    · cases h
      unfold Ob.Holds at hob
      unfold execOp
      simp [ho, symEval_eq a env he, hob]
    · cases h
  · cases h
theorem symRun_acc {T : List (Nat × Value)} {n : Nat} {ops : Array Oper} {a : Act} : ∀ (l : List Oper) (env : List (Nat × Value)) (acc : List Ob) (e' : List (Nat × Value)) (obs : List Ob), symRun T n ops a l env acc = some (e', obs) → ∀ o ∈ acc, o ∈ obs
  | [], env, acc, e', obs, h => by
    cases h
    exact fun _ h => h
  | o :: r, env, acc, e', obs, h => by
    rw [symRun] at h
    split at h
    · cases h
    split at h
    · cases h
    split at h
    · exact symRun_acc r _ _ _ _ h
    split at h
    · cases h
    · exact fun x hx => symRun_acc r _ _ _ _ h x (List.mem_cons_of_mem _ hx)
    · rw [symNorm_eq] at h
      exact symRun_acc r _ _ _ _ h
theorem symRun_law {P : Program} {T : List (Nat × Value)} {n : Nat} {ops : Array Oper} {Q : Exit → Act → World → Prop} {a : Act} {w : World} (hn : n ≤ a.tmps.size) : ∀ (l : List Oper) (env : List (Nat × Value)) (acc : List Ob) (e' : List (Nat × Value)) (obs : List Ob),
    (∀ p ∈ env, p.1 < a.tmps.size) → symRun T n ops a l env acc = some (e', obs) → (∀ o ∈ obs, o.Holds P w) → ((∀ p ∈ e', p.1 < a.tmps.size) → wpList P ops Q [] (symAct a e') w) → wpList P ops Q l (symAct a env) w
  | [], env, acc, e', obs, he, h, _, hq => by
    cases h
    exact hq he
  | o :: r, env, acc, e', obs, he, h, ho, hq => by
    rw [symRun] at h
    split at h
    · cases h
    rename_i d hd
    split at h
    · cases h
    rename_i hlt
    have hdn : d < a.tmps.size := Nat.lt_of_lt_of_le (Nat.le_of_ble_eq_true hlt) hn
    have hstep : ∀ v, ∀ p ∈ (d, v) :: env, p.1 < a.tmps.size := fun v p hp => by
      rcases List.mem_cons.1 hp with rfl | hp
      · exact hdn
      · exact he p hp
    have hput : ∀ v, (symAct a env).put o.dst v = symAct a ((d, v) :: env) := fun v => by rw [hd, symAct]
    split at h
    · rename_i hw
      rw [← symWant_eq ops a env he] at hw
      refine wpList_skip hw ?_
      rw [hput]
      exact symRun_law hn r _ _ _ _ (hstep _) h ho hq
    rename_i hw
    rw [← symWant_eq ops a env he] at hw
    split at h
    · cases h
    · rename_i v ob hv
      have hm : ob ∈ obs := symRun_acc r _ _ _ _ h ob List.mem_cons_self
      refine wpList_step fun K hK => ?_
      rw [if_pos hw]
      unfold Oper.wp
      rw [symStep_some he hv w (ho ob hm)]
      refine hK _ _ ?_
      rw [hput]
      exact symRun_law hn r _ _ _ _ (hstep _) h ho hq
    · rename_i v hv
      rw [symNorm_eq] at h
      refine wpList_step fun K hK => ?_
      rw [if_pos hw]
      unfold Oper.wp
      rw [symStep_none he hv w]
      refine hK _ _ ?_
      rw [hput]
      exact symRun_law hn r _ _ _ _ (hstep _) h ho hq
/-- all of these hold -/
def AllOb (P : Program) (w : World) : List Ob → Prop
  | [] => True
  | o :: r => o.Holds P w ∧ AllOb P w r
theorem allOb_mem {P : Program} {w : World} : ∀ obs, AllOb P w obs → ∀ o ∈ obs, o.Holds P w
  | [], _ => fun _ h => absurd h (by simp)
  | a :: r, h => fun o ho => by
    rcases List.mem_cons.1 ho with rfl | ho
    · exact h.1
    · exact allOb_mem r h.2 o ho
theorem obc {P : Program} {w : World} {o : Ob} {r : List Ob} (h : o.Holds P w) (hr : AllOb P w r) : AllOb P w (o :: r) := ⟨h, hr⟩
theorem put_same {a : Act} {d : Nat} {v : Value} (hd : d < a.tmps.size) (h : a.tmps.getD d undef = v) : a.put (some d) v = a := by
  subst h
  show { a with tmps := a.tmps.setIfInBounds d (a.tmps.getD d undef) } = a
  have : a.tmps.setIfInBounds d (a.tmps.getD d undef) = a.tmps := by
    apply Array.ext (by simp)
    intro i h1 h2
    rw [Array.getElem_setIfInBounds]
    split
    · rename_i e
      subst e
      simp [Array.getD, hd]
    · rfl
  rw [this]
theorem symAct_same {a : Act} {n : Nat} (hn : n ≤ a.tmps.size) : ∀ env : List (Nat × Value), env.all (fun p => Nat.blt p.1 n) = true → env.map (fun p => a.eval (.tmp p.1)) = env.map Prod.snd → symAct a env = a ∧ ∀ p ∈ env, p.1 < a.tmps.size
  | [], _, _ => ⟨rfl, fun _ h => absurd h (by simp)⟩
  | (d, v) :: e, hb, h => by
    rw [List.all_cons, Bool.and_eq_true] at hb
    obtain ⟨h1, h2⟩ := List.cons.inj h
    obtain ⟨i1, i2⟩ := symAct_same hn e hb.2 h2
    have hd : d < a.tmps.size := Nat.lt_of_lt_of_le (Nat.le_of_ble_eq_true hb.1) hn
    refine ⟨?_, fun p hp => ?_⟩
    · rw [symAct, i1]
      exact put_same hd h1
    · rcases List.mem_cons.1 hp with rfl | hp
      · exact hd
      · exact i2 p hp
/-- a region's rest by one run of the kernel: T tells what loads and comparisons come to, env what lies in slots -/
theorem sym_region {P : Program} (T : List (Nat × Value)) (n : Nat) {ops : Array Oper} {Q : Exit → Act → World → Prop} {l : List Oper} {a : Act} {w : World} (env : List (Nat × Value)) (xs : List Operand) (vs : List Value) (obs : List Ob) (hn : n ≤ a.tmps.size)
    (hb : env.all (fun p => Nat.blt p.1 n) = true) (he : env.map (fun p => a.eval (.tmp p.1)) = env.map Prod.snd)
    (h : (symRun T n ops a l env []).map (fun r => (xs.map (symEval a r.1), r.2)) = some (vs, obs)) (ho : AllOb P w obs) (hq : ∀ a' : Act, xs.map a'.eval = vs → n ≤ a'.tmps.size → a'.defers = a.defers → wpList P ops Q [] a' w) : wpList P ops Q l a w := by
  obtain ⟨hs, hm⟩ := symAct_same hn env hb he
  cases hr : symRun T n ops a l env [] with
  | none => rw [hr] at h; cases h
  | some r =>
    obtain ⟨e', obs'⟩ := r
    rw [hr] at h
    simp only [Option.map_some, Option.some.injEq, Prod.mk.injEq] at h
    obtain ⟨h1, h2⟩ := h
    subst h2
    have hdf : ∀ env, (symAct a env).defers = a.defers := fun env => by
      induction env with
      | nil => rfl
      | cons p e ih =>
        obtain ⟨d, v⟩ := p
        rw [symAct, ← ih]
        rfl
    have hx := symRun_law (P := P) (Q := Q) (w := w) hn l env [] e' obs' hm hr (allOb_mem _ ho) fun he => hq _ (by rw [← h1]; exact List.map_congr_left fun x _ => symEval_eq a e' he x) (by rw [symAct_size]; exact hn) (hdf _)
    rwa [hs] at hx
/-- a slot that is written -/
theorem put_eval {a : Act} {n d : Nat} {v : Value} (hz : n ≤ a.tmps.size) (hd : Nat.blt d n = true) : (a.put (some d) v).eval (.tmp d) = v := by
  have hd : d < a.tmps.size := Nat.lt_of_lt_of_le (Nat.le_of_ble_eq_true hd) hz
  show (a.tmps.setIfInBounds d v).getD d undef = v
  simp [Array.getD, hd]
end Go.Proofs.YtiinponoeaihcaaGreat
