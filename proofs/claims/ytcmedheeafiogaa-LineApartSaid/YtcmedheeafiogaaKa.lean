/-
  Symbolic values, memory and single operations of the model; each theorem says what one operation does.
-/
import Derived.Calls
import Derived.Orders
import Derived.Deep.LoopGhost
import Derived.Laws.Sem
import Derived.Laws.World
import Derived.Laws.Cells
import Derived.Laws.CopyRow
import Derived.Laws.Entries
import Derived.KernelRfl
import Derived.WalkKit
import Derived.Maps.AppendAt
namespace Go.Sy
set_option linter.unusedVariables false
set_option linter.unusedSimpArgs false

/-! ### 1. Symbolic values: names of blocks stand for places -/
structure Pl where
  b : Nat
  o : Nat
  cap : Nat
  nil : Bool
instance : Inhabited Pl := ⟨⟨0, 0, 0, true⟩⟩

structure PP where
  h : Nat
  i : Nat
  sz : Nat
  f : Nat

inductive BX where
  | T
  | F
  | X (b : Bool)
def BX.v : BX → Bool
  | .T => true
  | .F => false
  | .X b => b

inductive CV where
  | int (k : IntKind) (n : Int)
  | bool (b : BX)
  | ptr (p : PP)
  | nilp
  | slice (h l sz len : Nat)
  | nils
  | fn (f : FuncId) (caps : List PP)
  | nilf

def PP.addr (ν : Nat → Pl) (p : PP) : Addr := ⟨(ν p.h).b, (ν p.h).o + (p.i * p.sz + p.f), none⟩

def CV.den (ν : Nat → Pl) : CV → Value
  | .int k n => .int k n
  | .bool b => .bool b.v
  | .ptr p => .pointer (some (p.addr ν))
  | .nilp => .pointer none
  | .slice h l sz len => .slice (if (ν h).nil then none else some ⟨(ν h).b, (ν h).o + (if (ν h).cap = l then 0 else l * sz), none⟩) len ((ν h).cap - l)
  | .nils => .slice none 0 0
  | .fn f caps => .func (.func f) #[] (caps.map fun p => Value.pointer (some (p.addr ν))).toArray
  | .nilf => .nilFunc

theorem CV.den_one (ν : Nat → Pl) (c : CV) : (c.den ν).oneCell' = true := by
  cases c <;> rfl
theorem CV.den_cells (ν : Nat → Pl) (c : CV) : (c.den ν).cells = #[c.den ν] := by
  cases c <;> rfl

inductive PV where
  | one (c : CV)
  | agg (l : List CV)
def PV.den (ν : Nat → Pl) : PV → Value
  | .one c => c.den ν
  | .agg l => .agg (l.map (CV.den ν)).toArray
def PV.cells : PV → List CV
  | .one c => [c]
  | .agg l => l
theorem PV.den_cells (ν : Nat → Pl) (v : PV) : (v.den ν).cells = (v.cells.map (CV.den ν)).toArray := by
  cases v with
  | one c => simp [PV.den, PV.cells, CV.den_cells]
  | agg l => rfl

inductive SV where
  | unk
  | und
  | v (p : PV)
  | tup (l : List PV)
def SV.den (ν : Nat → Pl) : SV → Value
  | .unk => undef
  | .und => undef
  | .v p => p.den ν
  | .tup l => .tuple (l.map (PV.den ν)).toArray

abbrev sint (n : Int) : SV := .v (.one (.int .i64 n))
abbrev sbool (b : BX) : SV := .v (.one (.bool b))

/-- Constants of the program's text. -/
def cvOf : Value → Option CV
  | .int k n => some (.int k n)
  | .bool true => some (.bool .T)
  | .bool false => some (.bool .F)
  | .pointer none => some .nilp
  | .slice none 0 0 => some .nils
  | .nilFunc => some .nilf
  | _ => none
def cvsOf : List Value → Option (List CV)
  | [] => some []
  | v :: r => match cvOf v, cvsOf r with
    | some c, some l => some (c :: l)
    | _, _ => none
def svOf : Value → SV
  | .agg cs => match cvsOf cs.toList with
    | some l => .v (.agg l)
    | none => .unk
  | v => match cvOf v with
    | some c => .v (.one c)
    | none => .unk
theorem cvOf_den {v : Value} {c : CV} (h : cvOf v = some c) (ν : Nat → Pl) : c.den ν = v := by
  unfold cvOf at h
  split at h <;> simp at h <;> subst h <;> rfl
theorem cvsOf_den : ∀ {l : List Value} {cs : List CV}, cvsOf l = some cs → ∀ ν : Nat → Pl, cs.map (CV.den ν) = l
  | [], cs, h, ν => by simp [cvsOf] at h; subst h; rfl
  | v :: r, cs, h, ν => by
    simp only [cvsOf] at h
    split at h
    · rename_i c l hc hl
      simp at h
      subst h
      simp [cvOf_den hc ν, cvsOf_den hl ν]
    · simp at h
theorem svOf_den {v : Value} (h : svOf v ≠ .unk) (ν : Nat → Pl) : (svOf v).den ν = v := by
  unfold svOf at *
  split
  · rename_i cs
    split
    · rename_i l hl
      simp [SV.den, PV.den, cvsOf_den hl ν]
    · rename_i hl
      simp [hl] at h
  · split
    · rename_i c hc
      simp [SV.den, PV.den, cvOf_den hc ν]
    · rename_i hc
      simp [hc] at h

def CV.plain : CV → Bool
  | .ptr _ => false
  | .slice _ _ _ _ => false
  | .fn _ _ => false
  | _ => true
theorem CV.den_plain {c : CV} (h : c.plain = true) (ν ν' : Nat → Pl) : c.den ν = c.den ν' := by
  cases c <;> first | rfl | cases h

/-! ### 2. Types of elements -/
structure Enc (α : Type) where
  sz : Nat
  E : α → List CV
  D : List CV → Option α
  d : α
  hE : ∀ x, (E x).length = sz
  hD : ∀ cs x, D cs = some x → E x = cs
  pos : 0 < sz
  hP : ∀ x, (E x).all CV.plain = true

structure EncS where
  α : Type
  e : Enc α

inductive TK where
  | basic
  | num (k : IntKind)
  | bool
  | strct (fs pls : List (Nat × Nat))
  | arr (len elem : Nat)
  | slc (elem : Nat)
  | ptr

structure TI where
  size : Nat
  bytes : Nat
  agg : Bool
  zero : List CV
  k : TK

structure Tab where
  lit : Nat → Bool := fun _ => false
  ti : Nat → Option TI
  enc : Nat → Option EncS
  eqs : Nat → Option Nat

def zval (ti : TI) : Option PV := if ti.agg then some (.agg ti.zero) else match ti.zero with
  | [c] => some (.one c)
  | _ => none

structure TIOK (P : Program) (T : Nat) (ti : TI) : Prop where
  info : ∃ i, P.info? T = some i ∧ i.size = ti.size ∧ i.bytes = ti.bytes ∧ ∀ z, zval ti = some z → ∀ ν, i.zero = some (z.den ν)
  zlen : ti.zero.length = ti.size
  desc : ∃ d, P.underlying T = some d ∧ (ti.agg = match d with | .struct _ | .array _ _ => true | _ => false) ∧
    match ti.k with
    | .basic => True
    | .num k => d = .int k
    | .bool => d = .bool
    | .strct fs pls => ∃ fields, d = .struct fields ∧ fields.toList.mapM (fun f => (P.info? f.type).map fun i => (f.offset, i.size)) = some pls ∧ fields.toList.map (fun f => (f.offset, f.type)) = fs
    | .arr n e => d = .array n e
    | .slc e => d = .slice e
    | .ptr => ∃ e, d = .pointer e

/-- '==' on values of whole numbers. -/
def kindB : IntKind → IntKind → Bool
  | .i8, .i8 | .i16, .i16 | .i32, .i32 | .i64, .i64 | .u8, .u8 | .u16, .u16 | .u32, .u32 | .u64, .u64 => true
  | _, _ => false
theorem kindB_eq {a b : IntKind} (h : kindB a b = true) : a = b := by cases a <;> cases b <;> first | rfl | cases h

def eqCells : List CV → List CV → Option Bool
  | [], [] => some true
  | .int k a :: r, .int k' b :: r' => bif kindB k k' then (match eqCells r r' with
    | some t => some (decide (a = b) && t)
    | none => none) else none
  | _, _ => none

def EqOK (P : Program) (T : Nat) (sz : Nat) : Prop := P.eqGuardType P.depth T = false ∧ ∀ (w : World) (ν : Nat → Pl) (l m : List CV) (t : Bool), l.length = sz → eqCells l m = some t →
  (Op.equalIn 10000 T (.agg (l.map (CV.den ν)).toArray) (.agg (m.map (CV.den ν)).toArray)).run P w = .ok t w

structure TabOK (P : Program) (tab : Tab) : Prop where
  ti : ∀ T ti, tab.ti T = some ti → TIOK P T ti
  eqs : ∀ T sz, tab.eqs T = some sz → EqOK P T sz
  mixed : P.follows .mixedOrders = true

/-! ### 3. Memory -/
inductive Chunk : Type 1 where
  | cells (T : TypeId) (l : List CV)
  | rows (T : TypeId) {α : Type} (e : Enc α) (xs : List α)
  | view {α : Type} (e : Enc α) (xs : List α)
  | res (R : Pl → World → (Nat → Prop) → Prop) (st : ∀ p (w w' : World) (F : Nat → Prop), (∀ b, F b → w'.heap[b]? = w.heap[b]?) → R p w F → R p w' F)

abbrev HP := Nat → Option Chunk

def Chunk.sat (ν : Nat → Pl) (V : Nat → Prop) (p : Pl) (w : World) (F : Nat → Prop) : Chunk → Prop
  | .cells T l => p.nil = false ∧ p.o = 0 ∧ w.heap[p.b]? = some (.cells (l.map (CV.den ν)).toArray T (0, 0)) ∧ ∀ b, F b ↔ b = p.b
  | .rows T e xs => (p.nil = true ∧ p.cap = 0 ∧ xs = [] ∧ ∀ b, ¬ F b) ∨
      (p.nil = false ∧ p.o = 0 ∧ (xs.length ≤ p.cap ∧ p.cap ≤ maxLen) ∧ (∃ cs : Array Value, w.heap[p.b]? = some (.cells cs T (0, 0)) ∧ cs.size = p.cap * e.sz ∧
        ∀ (j : Nat) v, ((xs.flatMap e.E).map (CV.den ν))[j]? = some v → cs[j]? = some v) ∧ ∀ b, F b ↔ b = p.b)
  | .view e xs => (∀ b, ¬ F b) ∧ xs.length ≤ p.cap ∧ ((p.nil = true ∧ xs = []) ∨ (p.nil = false ∧ V p.b ∧
        ∀ (j : Nat) v, ((xs.flatMap e.E).map (CV.den ν))[j]? = some v → w.cell? ⟨p.b, p.o + j, none⟩ = some v))
  | .res R _ => R p w F

/-- A set of names: those that have a place. -/
abbrev Nm := Nat → Prop
def Lt (n : Nat) : Nm := fun h => h < n
theorem Lt.le {n m : Nat} (h : n ≤ m) : ∀ i, Lt n i → Lt m i := fun i hi => Nat.lt_of_lt_of_le hi h
def ins (D : Nm) (g : Nat) : Nm := fun h => D h ∨ h = g
theorem ins_lt (n : Nat) : ∀ i, ins (Lt n) n i → Lt (n + 1) i := fun i h => by
  rcases h with h | h
  · exact Nat.lt_succ_of_lt h
  · rw [h]; exact Nat.lt_succ_self n
theorem lt_ins (n : Nat) : ∀ i, Lt (n + 1) i → ins (Lt n) n i := fun i h => by
  rcases Nat.lt_or_ge i n with c | c
  · exact .inl c
  · exact .inr (Nat.le_antisymm (Nat.le_of_lt_succ h) c)
def Agree (n : Nm) (ν ν' : Nat → Pl) : Prop := ∀ h, n h → ν' h = ν h
theorem ne_of_not {D : Nm} {g i : Nat} (h : ¬ D g) (hi : D i) : g ≠ i := fun e => h (by rw [e]; exact hi)
theorem Agree.refl (n : Nm) (ν : Nat → Pl) : Agree n ν ν := fun _ _ => rfl
theorem Agree.trans {n m : Nm} {a b c : Nat → Pl} (h : Agree n a b) (k : Agree m b c) (hn : ∀ i, n i → m i) : Agree n a c :=
  fun i hi => (k i (hn i hi)).trans (h i hi)
theorem Agree.mono {n m : Nm} {a b : Nat → Pl} (k : Agree m a b) (hn : ∀ i, n i → m i) : Agree n a b := fun i hi => k i (hn i hi)

structure Holds (n : Nm) (ν : Nat → Pl) (V : Nat → Prop) (hp : HP) (w : World) (fp : Nat → Nat → Prop) : Prop where
  sat : ∀ ν', Agree n ν ν' → ∀ h c, hp h = some c → c.sat ν' V (ν' h) w (fp h)
  none : ∀ h, hp h = none → ∀ b, ¬ fp h b
  disj : ∀ h h' b, fp h b → fp h' b → h = h'
  low : ∀ h b, fp h b → b < w.heap.size
  nv : ∀ h b, fp h b → ¬ V b
  vlow : ∀ b, V b → b < w.heap.size
  dom : ∀ h c, hp h = some c → n h

def foot (fp : Nat → Nat → Prop) : Nat → Prop := fun b => ∃ h, fp h b

/-- What has become of a world: outside a footprint all blocks are as they were. -/
structure Ext (w : World) (V F : Nat → Prop) (w' : World) (V' F' : Nat → Prop) : Prop where
  os : w'.os = w.os
  tape : w'.tape = w.tape
  output : w'.output = w.output
  size : w.heap.size ≤ w'.heap.size
  same : ∀ b, b < w.heap.size → ¬ F b → w'.heap[b]? = w.heap[b]?
  foot : ∀ b, F' b → F b ∨ w.heap.size ≤ b
  vmono : ∀ b, V b → V' b
  vfrom : ∀ b, V' b → V b ∨ F b ∨ w.heap.size ≤ b

theorem Ext.refl (w : World) (V F : Nat → Prop) : Ext w V F w V F :=
  ⟨rfl, rfl, rfl, Nat.le_refl _, fun _ _ _ => rfl, fun _ h => .inl h, fun _ h => h, fun _ h => .inl h⟩
theorem Ext.trans {w w1 w2 : World} {V F V1 F1 V2 F2 : Nat → Prop} (h : Ext w V F w1 V1 F1) (k : Ext w1 V1 F1 w2 V2 F2) : Ext w V F w2 V2 F2 where
  os := k.os.trans h.os
  tape := k.tape.trans h.tape
  output := k.output.trans h.output
  size := Nat.le_trans h.size k.size
  same := fun b hb hF => by
    rw [k.same b (Nat.lt_of_lt_of_le hb h.size) (fun hF1 => by rcases h.foot b hF1 with h1 | h1; exact hF h1; omega), h.same b hb hF]
  foot := fun b hb => by
    rcases k.foot b hb with h1 | h1
    · exact h.foot b h1
    · exact .inr (Nat.le_trans h.size h1)
  vmono := fun b hb => k.vmono b (h.vmono b hb)
  vfrom := fun b hb => by
    rcases k.vfrom b hb with h1 | h1 | h1
    · exact h.vfrom b h1
    · rcases h.foot b h1 with h2 | h2
      · exact .inr (.inl h2)
      · exact .inr (.inr h2)
    · exact .inr (.inr (Nat.le_trans h.size h1))

/-- What a chunk says hangs on its own blocks alone, and on those that nobody writes. -/
theorem Chunk.sat_kept {ν : Nat → Pl} {V V' : Nat → Prop} {p : Pl} {w w' : World} {F : Nat → Prop} {c : Chunk} (hV : ∀ b, V b → V' b) (hVs : ∀ b, V b → w'.heap[b]? = w.heap[b]?)
    (hF : ∀ b, F b → w'.heap[b]? = w.heap[b]?) (h : c.sat ν V p w F) : c.sat ν V' p w' F := by
  cases c with
  | cells T l =>
    obtain ⟨h1, h2, h3, h4⟩ := h
    exact ⟨h1, h2, by rw [hF _ ((h4 _).2 rfl)]; exact h3, h4⟩
  | rows T e xs =>
    rcases h with h | ⟨h1, h2, h3, ⟨cs, h4, h5⟩, h6⟩
    · exact .inl h
    · exact .inr ⟨h1, h2, h3, ⟨cs, by rw [hF _ ((h6 _).2 rfl)]; exact h4, h5⟩, h6⟩
  | view e xs =>
    obtain ⟨h0, h1, h2⟩ := h
    refine ⟨h0, h1, ?_⟩
    rcases h2 with h2 | ⟨h2, h3, h4⟩
    · exact .inl h2
    · refine .inr ⟨h2, hV _ h3, fun j v hj => ?_⟩
      have := h4 j v hj
      simp only [World.cell?] at this ⊢
      rw [hVs _ h3]
      exact this
  | res R st => exact st p w w' F hF h

/-! ### 4. The state -/
structure St where
  fr : Nat → SV
  hp : HP
  nx : Nat

def FrOK (n : Nm) (ν : Nat → Pl) (fr : Nat → SV) (a : Act) : Prop :=
  ∀ ν', Agree n ν ν' → ∀ i, fr i ≠ .unk → a.tmps[i]? = some ((fr i).den ν')

def opv (fr : Nat → SV) : Operand → SV
  | .tmp t => fr t
  | .const v => svOf v
  | .func f => .v (.one (.fn f []))
  | .global _ => .unk

theorem eval_opv {n : Nm} {ν ν' : Nat → Pl} {fr : Nat → SV} {a : Act} (h : FrOK n ν fr a) (hν : Agree n ν ν') (x : Operand) (hx : opv fr x ≠ .unk) : a.eval x = (opv fr x).den ν' := by
  cases x with
  | tmp t =>
    have := h ν' hν t hx
    simp [Act.eval, opv, Array.getD_eq_getD_getElem?, this]
  | const v => simp [Act.eval, opv, svOf_den hx]
  | func f => simp [Act.eval, opv, SV.den, PV.den, CV.den]
  | global g => simp [opv] at hx

def upd {β : Type _} (f : Nat → β) (i : Nat) (v : β) : Nat → β := fun j => bif Nat.beq i j then v else f j
theorem upd_same {β : Type _} (f : Nat → β) (i : Nat) (v : β) : upd f i v i = v := by simp [upd]
theorem upd_other {β : Type _} (f : Nat → β) {i j : Nat} (v : β) (h : i ≠ j) : upd f i v j = f j := by
  have : Nat.beq i j = false := by
    cases hb : Nat.beq i j with
    | true => exact absurd (Nat.eq_of_beq_eq_true hb) h
    | false => rfl
  simp [upd, this]
theorem upd_eq {β : Type _} (f : Nat → β) (i j : Nat) (v : β) : upd f i v j = if i = j then v else f j := by
  by_cases h : i = j
  · subst h; simp [upd_same]
  · rw [upd_other _ _ h, if_neg h]
end Go.Sy

namespace Go.Sy
set_option linter.unusedVariables false
set_option linter.unusedSimpArgs false

/-! ### 5. One operation -/
structure Eff where
  val : SV
  upd : List (Nat × Option Chunk)
  conds : List Prop

def dropN : Nat → List CV → List CV
  | 0, l => l
  | _ + 1, [] => []
  | n + 1, _ :: l => dropN n l
def takeE : Nat → List CV → Option (List CV)
  | 0, _ => some []
  | _ + 1, [] => none
  | n + 1, c :: l => match takeE n l with
    | some r => some (c :: r)
    | none => none
def sub (l : List CV) (off n : Nat) : Option (List CV) := takeE n (dropN off l)
def putAt : Nat → List CV → List CV → Option (List CV)
  | 0, l, [] => some l
  | 0, [], _ :: _ => none
  | 0, _ :: l, c :: cs => match putAt 0 l cs with
    | some r => some (c :: r)
    | none => none
  | _ + 1, [], _ => none
  | n + 1, x :: l, cs => match putAt n l cs with
    | some r => some (x :: r)
    | none => none

theorem dropN_eq : ∀ (n : Nat) (l : List CV), dropN n l = l.drop n
  | 0, l => rfl
  | _ + 1, [] => rfl
  | n + 1, _ :: l => by simp [dropN, dropN_eq n l]
theorem takeE_some : ∀ {n : Nat} {l r : List CV}, takeE n l = some r → r = l.take n ∧ n ≤ l.length
  | 0, l, r, h => by simp [takeE] at h; simp [h]
  | _ + 1, [], r, h => by simp [takeE] at h
  | n + 1, c :: l, r, h => by
    simp only [takeE] at h
    split at h
    · rename_i r' hr
      simp at h
      subst h
      obtain ⟨h1, h2⟩ := takeE_some hr
      simp [← h1]; omega
    · simp at h
theorem sub_some {l r : List CV} {off n : Nat} (h : sub l off n = some r) : r = (l.drop off).take n ∧ r.length = n ∧ (0 < n → off + n ≤ l.length) := by
  unfold sub at h
  rw [dropN_eq] at h
  obtain ⟨h1, h2⟩ := takeE_some h
  rw [List.length_drop] at h2
  refine ⟨h1, ?_, by omega⟩
  rw [h1, List.length_take, List.length_drop]; omega
theorem putAt_some : ∀ {off : Nat} {l cs r : List CV}, putAt off l cs = some r → r.length = l.length ∧ off + cs.length ≤ l.length ∧ r = l.take off ++ cs ++ l.drop (off + cs.length)
  | 0, l, [], r, h => by simp [putAt] at h; simp [h]
  | 0, [], _ :: _, r, h => by simp [putAt] at h
  | 0, x :: l, c :: cs, r, h => by
    simp only [putAt] at h
    split at h
    · rename_i r' hr
      simp at h
      subst h
      obtain ⟨h1, h2, h3⟩ := putAt_some hr
      refine ⟨by simp [h1], by simp at h2 ⊢; omega, ?_⟩
      simp at h3
      simp [h3, Nat.add_comm]
    · simp at h
  | _ + 1, [], _, r, h => by simp [putAt] at h
  | n + 1, x :: l, cs, r, h => by
    simp only [putAt] at h
    split at h
    · rename_i r' hr
      simp at h
      subst h
      obtain ⟨h1, h2, h3⟩ := putAt_some hr
      refine ⟨by simp [h1], by simp; omega, ?_⟩
      simp [h3, show n + 1 + cs.length = (n + cs.length) + 1 by omega]
    · simp at h

/-- What stands at a place: n cells. -/
def readC (hp : HP) : PP → Nat → Option (List CV × List Prop)
  | ⟨h, i, sz, f⟩, n => match hp h with
    | some (.cells _ l) => match sub l (i * sz + f) n with
      | some r => some (r, [])
      | none => none
    | some (.rows _ e xs) => bif Nat.beq sz e.sz then (match sub (e.E (xs.getD i e.d)) f n with
      | some r => some (r, [i < xs.length])
      | none => none) else none
    | some (.view e xs) => bif Nat.beq sz e.sz then (match sub (e.E (xs.getD i e.d)) f n with
      | some r => some (r, [i < xs.length])
      | none => none) else none
    | _ => none

def writeC (hp : HP) : PP → List CV → Option (Chunk × List Prop)
  | ⟨h, i, sz, f⟩, cs => match hp h with
    | some (.cells T l) => match putAt (i * sz + f) l cs with
      | some l' => some (.cells T l', [])
      | none => none
    | some (.rows T e xs) => bif Nat.beq sz e.sz then (match putAt f (e.E (xs.getD i e.d)) cs with
      | some l' => match e.D l' with
        | some x => some (.rows T e (xs.set i x), [i < xs.length])
        | none => none
      | none => none) else none
    | _ => none

theorem flat_get {α : Type} (e : Enc α) : ∀ (xs : List α) (i j : Nat), i < xs.length → j < e.sz → (xs.flatMap e.E)[i * e.sz + j]? = (e.E (xs.getD i e.d))[j]?
  | [], i, j, h, _ => by simp at h
  | x :: xs, 0, j, _, hj => by
    simp [List.flatMap_cons]
    rw [List.getElem?_append_left (by rw [e.hE]; exact hj)]
  | x :: xs, i + 1, j, h, hj => by
    simp at h
    have ih := flat_get e xs i j h hj
    rw [List.flatMap_cons, List.getElem?_append_right (by rw [e.hE, Nat.add_mul]; omega)]
    rw [e.hE, show (i + 1) * e.sz + j - e.sz = i * e.sz + j by rw [Nat.add_mul]; omega, ih]
    simp
theorem flat_len {α : Type} (e : Enc α) : ∀ xs : List α, (xs.flatMap e.E).length = xs.length * e.sz
  | [] => by simp
  | x :: xs => by rw [List.flatMap_cons, List.length_append, flat_len e xs, e.hE, List.length_cons, Nat.add_mul]; omega
theorem flat_set {α : Type} (e : Enc α) : ∀ (xs : List α) (i : Nat) (x : α), i < xs.length → ((xs.set i x).flatMap e.E) = (xs.flatMap e.E).take (i * e.sz) ++ e.E x ++ (xs.flatMap e.E).drop ((i + 1) * e.sz)
  | [], i, x, h => by simp at h
  | y :: xs, 0, x, _ => by
    simp only [List.set_cons_zero, List.flatMap_cons, Nat.zero_mul, List.take_zero, List.nil_append, Nat.zero_add, Nat.one_mul]
    rw [List.drop_append_of_le_length (by rw [e.hE]; exact Nat.le_refl _)]
    rw [List.drop_of_length_le (by rw [e.hE]; exact Nat.le_refl _)]
    simp
  | y :: xs, i + 1, x, h => by
    simp at h
    have ih := flat_set e xs i x h
    have h1 : (i + 1) * e.sz = (e.E y).length + i * e.sz := by rw [e.hE, Nat.add_mul]; omega
    have h2 : (i + 1 + 1) * e.sz = (e.E y).length + (i + 1) * e.sz := by rw [e.hE, Nat.add_mul (i + 1)]; omega
    simp only [List.set_cons_succ, List.flatMap_cons, ih]
    rw [h2, List.drop_length_add_append, show ∀ F : List CV, ((e.E y) ++ F).take ((i + 1) * e.sz) = e.E y ++ F.take (i * e.sz) from fun F => by rw [h1, List.take_length_add_append]]
    simp only [List.append_assoc]

theorem run_sizeOf_ok {P : Program} {T : Nat} {ti : TI} (h : TIOK P T ti) (w : World) : (sizeOf T).run P w = .ok ti.size w := by
  obtain ⟨i, hi, h1, h2, h3⟩ := h.info
  simp [sizeOf, run_typeInfo w hi, h1]
theorem run_isAgg_ok {P : Program} {T : Nat} {ti : TI} (h : TIOK P T ti) (w : World) : (isAgg T).run P w = .ok ti.agg w := by
  obtain ⟨d, hd, h1, h2⟩ := h.desc
  simp only [isAgg, Sem.run_bind, run_underlying hd, Result.andThen_ok, h1]
  cases d <;> simp
theorem run_zero_ok {P : Program} {T : Nat} {ti : TI} (h : TIOK P T ti) {z : PV} (hz : zval ti = some z) (ν : Nat → Pl) (w : World) : (zeroValue T).run P w = .ok (z.den ν) w := by
  obtain ⟨i, hi, h1, h2, h3⟩ := h.info
  simp [zeroValue, run_typeInfo w hi, h3 z hz ν]

/-- The cells at a place, in memory. -/
theorem read_ok {n : Nm} {ν ν' : Nat → Pl} {V : Nat → Prop} {hp : HP} {w : World} {fp : Nat → Nat → Prop} (H : Holds n ν V hp w fp) (hν : Agree n ν ν')
    {p : PP} {k : Nat} {r : List CV} {cs : List Prop} (h : readC hp p k = some (r, cs)) (hc : ∀ c ∈ cs, c) :
    r.length = k ∧ ∀ j v, (r.map (CV.den ν'))[j]? = some v → w.cell? ((p.addr ν').add j) = some v := by
  obtain ⟨ph, pi, psz, pf⟩ := p
  have hadd : ∀ j, (PP.addr ν' ⟨ph, pi, psz, pf⟩).add j = ⟨(ν' ph).b, (ν' ph).o + (pi * psz + pf) + j, none⟩ := by
    intro j
    unfold Addr.add PP.addr
    split <;> simp_all
  simp only [readC] at h
  split at h
  · rename_i T l hl
    split at h
    · rename_i r' hr
      simp at h
      obtain ⟨rfl, rfl⟩ := h
      obtain ⟨h1, h2, h3⟩ := sub_some hr
      refine ⟨h2, fun j v hj => ?_⟩
      have hs := H.sat ν' hν _ _ hl
      obtain ⟨_, ho, hb, _⟩ := hs
      have hjk : j < r'.length := by
        have := (List.getElem?_eq_some_iff.1 hj).1
        simpa using this
      rw [hadd, ho]
      simp only [World.cell?, hb]
      rw [h1] at hj
      simp only [List.getElem?_map, List.getElem?_take, List.getElem?_drop] at hj
      rw [if_pos (by omega)] at hj
      simp only [List.getElem?_toArray, List.getElem?_map, Nat.zero_add, Option.isSome_none, Bool.false_eq_true, if_false]
      exact hj
    · simp at h
  · rename_i T α e xs hl
    cases hb : Nat.beq psz e.sz with
    | false => simp [hb] at h
    | true =>
      have hsz := Nat.eq_of_beq_eq_true hb
      simp only [hb, cond_true] at h
      split at h
      · rename_i r' hr
        simp at h
        obtain ⟨rfl, rfl⟩ := h
        obtain ⟨h1, h2, h3⟩ := sub_some hr
        have hi : pi < xs.length := hc _ (by simp)
        refine ⟨h2, fun j v hj => ?_⟩
        have hjk : j < r'.length := by
          have := (List.getElem?_eq_some_iff.1 hj).1
          simpa using this
        rw [e.hE] at h3
        rcases H.sat ν' hν _ _ hl with ⟨_, _, hx, _⟩ | ⟨_, ho, _, ⟨cs, hcs, hsize, hget⟩, _⟩
        · rw [hx] at hi; simp at hi
        · rw [hadd, ho]
          simp only [World.cell?, hcs, Nat.zero_add, Option.isSome_none, Bool.false_eq_true, if_false]
          refine hget _ _ ?_
          rw [List.getElem?_map, hsz, Nat.add_assoc, flat_get e xs pi (pf + j) hi (by omega)]
          rw [h1] at hj
          simp only [List.getElem?_map, List.getElem?_take, List.getElem?_drop] at hj
          rw [if_pos (by omega)] at hj
          exact hj
      · simp at h
  · rename_i α e xs hl
    cases hb : Nat.beq psz e.sz with
    | false => simp [hb] at h
    | true =>
      have hsz := Nat.eq_of_beq_eq_true hb
      simp only [hb, cond_true] at h
      split at h
      · rename_i r' hr
        simp at h
        obtain ⟨rfl, rfl⟩ := h
        obtain ⟨h1, h2, h3⟩ := sub_some hr
        have hi : pi < xs.length := hc _ (by simp)
        refine ⟨h2, fun j v hj => ?_⟩
        have hjk : j < r'.length := by
          have := (List.getElem?_eq_some_iff.1 hj).1
          simpa using this
        rw [e.hE] at h3
        obtain ⟨_, _, hs⟩ := H.sat ν' hν _ _ hl
        rcases hs with ⟨_, hx⟩ | ⟨_, _, hget⟩
        · rw [hx] at hi; simp at hi
        · rw [hadd, Nat.add_assoc]
          refine hget _ _ ?_
          rw [List.getElem?_map, hsz, Nat.add_assoc, flat_get e xs pi (pf + j) hi (by omega)]
          rw [h1] at hj
          simp only [List.getElem?_map, List.getElem?_take, List.getElem?_drop] at hj
          rw [if_pos (by omega)] at hj
          exact hj
      · simp at h
  · simp at h

/-- What a load yields. -/
def loadV (ti : TI) (r : List CV) : Option PV := if ti.agg then some (.agg r) else match r with
  | [c] => some (.one c)
  | _ => none
theorem run_load_ok {P : Program} {T : Nat} {ti : TI} (hT : TIOK P T ti) {n : Nm} {ν ν' : Nat → Pl} {V : Nat → Prop} {hp : HP} {w : World} {fp : Nat → Nat → Prop} (H : Holds n ν V hp w fp) (hν : Agree n ν ν')
    {p : PP} {r : List CV} {cs : List Prop} {v : PV} (h : readC hp p ti.size = some (r, cs)) (hc : ∀ c ∈ cs, c) (hv : loadV ti r = some v) :
    (loadVar T (p.addr ν')).run P w = .ok (v.den ν') w := by
  obtain ⟨h1, h2⟩ := read_ok H hν h hc
  simp only [loadVar, Sem.run_bind, run_isAgg_ok hT, Result.andThen_ok]
  unfold loadV at hv
  cases hagg : ti.agg with
  | true =>
    simp [hagg] at hv
    subst hv
    have := run_loadCells_list (P := P) w (p.addr ν') (r.map (CV.den ν')) h2
    rw [List.length_map, h1] at this
    simp [run_sizeOf_ok hT, this, PV.den]
  | false =>
    simp only [hagg, Bool.false_eq_true, if_false] at hv
    split at hv
    · rename_i c
      simp at hv
      subst hv
      have h0 := h2 0 (c.den ν') (by simp)
      have : (p.addr ν').add 0 = p.addr ν' := by simp [Addr.add]
      rw [this] at h0
      simp [run_load, h0, PV.den]
    · simp at hv
end Go.Sy

namespace Go.Sy
set_option linter.unusedVariables false
set_option linter.unusedSimpArgs false

theorem run_storeVar_ok {P : Program} {T : Nat} {ti : TI} (hT : TIOK P T ti) (g o : Nat) (t : TypeId) (cur : Array Value) (w : World) (hg : w.heap[g]? = some (.cells cur t (0, 0)))
    {ν : Nat → Pl} {v : PV} (hv : v.cells.length = ti.size) (hl : o + ti.size ≤ cur.size) :
    (storeVar T ⟨g, o, none⟩ (v.den ν)).run P w = .ok () (w.setRow g (cur.toList.take o ++ v.cells.map (CV.den ν) ++ cur.toList.drop (o + ti.size)).toArray) := by
  have hc : (v.den ν).cells.size = ti.size := by rw [PV.den_cells]; simp [hv]
  have := run_storeCells_at (P := P) g o t (v.cells.map (CV.den ν)) 0 cur w hg (by simp [hv]; omega) (by intro x hx; simp at hx; obtain ⟨c, _, rfl⟩ := hx; exact CV.den_one ν c)
  simp only [storeVar, Sem.run_bind, run_sizeOf_ok hT, Result.andThen_ok, hc]
  simp only [ne_eq, not_true, if_false, ite_false, PV.den_cells]
  simp only [Nat.add_zero, List.length_map, hv] at this
  simpa using this

theorem heap_alloc_lt (w : World) (o : Obj) (b : Nat) (h : b < w.heap.size) : (w.alloc o).heap[b]? = w.heap[b]? := by
  simp only [World.alloc, Array.getElem?_push]
  rw [if_neg (by omega)]

/-- A block more. -/
theorem Holds.push {n : Nm} {ν : Nat → Pl} {V : Nat → Prop} {hp : HP} {w : World} {fp : Nat → Nat → Prop} (H : Holds n ν V hp w fp) {nm : Nat} (hnm : ¬ n nm) (o : Obj) (cap : Nat) (c : Chunk)
    (hc : ∀ ν', Agree (ins n nm) (upd ν nm ⟨w.heap.size, 0, cap, false⟩) ν' → c.sat ν' V ⟨w.heap.size, 0, cap, false⟩ (w.alloc o) (fun b => b = w.heap.size)) :
    Holds (ins n nm) (upd ν nm ⟨w.heap.size, 0, cap, false⟩) V (upd hp nm (some c)) (w.alloc o) (upd fp nm (fun b => b = w.heap.size)) := by
  have hold : ∀ b, b < w.heap.size → (w.alloc o).heap[b]? = w.heap[b]? := fun b hb => heap_alloc_lt w o b hb
  have hag : ∀ ν', Agree (ins n nm) (upd ν nm ⟨w.heap.size, 0, cap, false⟩) ν' → Agree n ν ν' := by
    intro ν' h i hi
    have := h i (.inl hi)
    rw [this, upd_other _ _ (ne_of_not hnm hi)]
  refine ⟨?_, ?_, ?_, ?_, ?_, ?_, fun h c' hh => by
    by_cases e : nm = h
    · exact .inr e.symm
    · rw [upd_other _ _ e] at hh; exact .inl (H.dom h c' hh)⟩
  · intro ν' hν h c' hh
    by_cases e : nm = h
    · subst e
      rw [upd_same] at hh ⊢
      cases hh
      have := hc ν' hν
      rw [hν nm (.inr rfl), upd_same]
      exact this
    · rw [upd_other _ _ e] at hh ⊢
      have hs := H.sat ν' (hag ν' hν) h c' hh
      exact Chunk.sat_kept (fun _ h => h) (fun b hb => hold b (H.vlow b hb)) (fun b hb => hold b (H.low h b hb)) hs
  · intro h hh b hb
    by_cases e : nm = h
    · subst e; rw [upd_same] at hh; cases hh
    · rw [upd_other _ _ e] at hh hb; exact H.none h hh b hb
  · intro h h' b hb hb'
    by_cases e : nm = h
    · subst e
      by_cases e' : nm = h'
      · exact e'
      · rw [upd_same] at hb; rw [upd_other _ _ e'] at hb'
        have := H.low h' b hb'; omega
    · by_cases e' : nm = h'
      · subst e'
        rw [upd_same] at hb'; rw [upd_other _ _ e] at hb
        have := H.low h b hb; omega
      · rw [upd_other _ _ e] at hb; rw [upd_other _ _ e'] at hb'
        exact H.disj h h' b hb hb'
  · intro h b hb
    rw [World.size_alloc]
    by_cases e : nm = h
    · subst e; rw [upd_same] at hb; omega
    · rw [upd_other _ _ e] at hb; have := H.low h b hb; omega
  · intro h b hb hV
    have := H.vlow b hV
    by_cases e : nm = h
    · subst e; rw [upd_same] at hb; omega
    · rw [upd_other _ _ e] at hb; exact H.nv h b hb hV
  · intro b hb; rw [World.size_alloc]; have := H.vlow b hb; omega

theorem Ext.push {n : Nm} {ν : Nat → Pl} {V : Nat → Prop} {hp : HP} {w : World} {fp : Nat → Nat → Prop} (H : Holds n ν V hp w fp) (nm : Nat) (o : Obj) :
    Ext w V (Sy.foot fp) (w.alloc o) V (Sy.foot (upd fp nm (fun b => b = w.heap.size))) where
  os := rfl
  tape := rfl
  output := rfl
  size := by rw [World.size_alloc]; omega
  same := fun b hb _ => heap_alloc_lt w o b hb
  foot := by
    rintro b ⟨h, hb⟩
    by_cases e : nm = h
    · subst e; rw [upd_same] at hb; exact .inr (by omega)
    · rw [upd_other _ _ e] at hb; exact .inl ⟨h, hb⟩
  vmono := fun _ h => h
  vfrom := fun _ h => .inl h

/-- A chunk is written. -/
theorem Holds.write {n : Nm} {ν : Nat → Pl} {V : Nat → Prop} {hp : HP} {w w' : World} {fp : Nat → Nat → Prop} (H : Holds n ν V hp w fp) {h0 : Nat} {c : Chunk} (hn0 : n h0) (hsize : w'.heap.size = w.heap.size)
    (hsame : ∀ b, ¬ fp h0 b → w'.heap[b]? = w.heap[b]?)
    (hc : ∀ ν', Agree n ν ν' → c.sat ν' V (ν' h0) w' (fp h0)) : Holds n ν V (upd hp h0 (some c)) w' fp := by
  refine ⟨?_, ?_, H.disj, fun h b hb => by rw [hsize]; exact H.low h b hb, H.nv, fun b hb => by rw [hsize]; exact H.vlow b hb, fun h c' hh => by
    by_cases e : h0 = h
    · subst e; exact hn0
    · rw [upd_other _ _ e] at hh; exact H.dom h c' hh⟩
  · intro ν' hν h c' hh
    by_cases e : h0 = h
    · subst e; rw [upd_same] at hh; cases hh; exact hc ν' hν
    · rw [upd_other _ _ e] at hh
      refine Chunk.sat_kept (fun _ h => h) (fun b hb => hsame b fun hf => H.nv _ b hf hb) (fun b hb => hsame b fun hf => e (H.disj _ _ b hf hb)) (H.sat ν' hν h c' hh)
  · intro h hh b hb
    by_cases e : h0 = h
    · subst e; rw [upd_same] at hh; cases hh
    · rw [upd_other _ _ e] at hh; exact H.none h hh b hb
theorem Ext.write {V : Nat → Prop} {w w' : World} {fp : Nat → Nat → Prop} (h0 : Nat) (hos : w'.os = w.os) (ht : w'.tape = w.tape) (ho : w'.output = w.output) (hsize : w'.heap.size = w.heap.size)
    (hsame : ∀ b, ¬ fp h0 b → w'.heap[b]? = w.heap[b]?) : Ext w V (Sy.foot fp) w' V (Sy.foot fp) :=
  ⟨hos, ht, ho, by omega, fun b _ hF => hsame b fun hb => hF ⟨h0, hb⟩, fun _ h => .inl h, fun _ h => h, fun _ h => .inl h⟩

/-- Fewer chunks. -/
theorem Holds.drop {n : Nm} {ν : Nat → Pl} {V : Nat → Prop} {hp : HP} {w : World} {fp : Nat → Nat → Prop} (H : Holds n ν V hp w fp) (h0 : Nat) :
    Holds n ν V (upd hp h0 Option.none) w (upd fp h0 (fun _ => False)) := by
  refine ⟨?_, ?_, ?_, ?_, ?_, H.vlow, fun h c' hh => by
    by_cases e : h0 = h
    · subst e; rw [upd_same] at hh; cases hh
    · rw [upd_other _ _ e] at hh; exact H.dom h c' hh⟩
  · intro ν' hν h c' hh
    by_cases e : h0 = h
    · subst e; rw [upd_same] at hh; cases hh
    · rw [upd_other _ _ e] at hh ⊢; exact H.sat ν' hν h c' hh
  · intro h hh b hb
    by_cases e : h0 = h
    · subst e; rw [upd_same] at hb; exact hb
    · rw [upd_other _ _ e] at hh hb; exact H.none h hh b hb
  · intro h h' b hb hb'
    by_cases e : h0 = h
    · subst e; rw [upd_same] at hb; exact hb.elim
    · by_cases e' : h0 = h'
      · subst e'; rw [upd_same] at hb'; exact hb'.elim
      · rw [upd_other _ _ e] at hb; rw [upd_other _ _ e'] at hb'; exact H.disj h h' b hb hb'
  · intro h b hb
    by_cases e : h0 = h
    · subst e; rw [upd_same] at hb; exact hb.elim
    · rw [upd_other _ _ e] at hb; exact H.low h b hb
  · intro h b hb
    by_cases e : h0 = h
    · subst e; rw [upd_same] at hb; exact hb.elim
    · rw [upd_other _ _ e] at hb; exact H.nv h b hb

theorem foot_drop {fp : Nat → Nat → Prop} {h0 b : Nat} (h : foot (upd fp h0 (fun _ => False)) b) : foot fp b := by
  obtain ⟨h, hb⟩ := h
  by_cases e : h0 = h
  · subst e; rw [upd_same] at hb; exact hb.elim
  · rw [upd_other _ _ e] at hb; exact ⟨h, hb⟩

theorem flat_put {α : Type} (e : Enc α) (xs : List α) (i f : Nat) (x : α) (cs : List CV) (hi : i < xs.length) (hf : f + cs.length ≤ e.sz)
    (hx : e.E x = (e.E (xs.getD i e.d)).take f ++ cs ++ (e.E (xs.getD i e.d)).drop (f + cs.length)) :
    ((xs.set i x).flatMap e.E) = (xs.flatMap e.E).take (i * e.sz + f) ++ cs ++ (xs.flatMap e.E).drop (i * e.sz + f + cs.length) := by
  have h0 := flat_set e xs i (xs.getD i e.d) hi
  have hself : xs.set i (xs.getD i e.d) = xs := by
    apply List.ext_getElem?
    intro j
    rw [List.getElem?_set]
    by_cases c : i = j
    · subst c; simp [hi]
    · simp [c]
  rw [hself] at h0
  rw [flat_set e xs i x hi, hx]
  have hlen : (xs.flatMap e.E).length = xs.length * e.sz := flat_len e xs
  have hrow : (i + 1) * e.sz ≤ xs.length * e.sz := Nat.mul_le_mul_right _ (by omega)
  rw [Nat.add_mul, Nat.one_mul] at hrow
  have hA : ((xs.flatMap e.E).take (i * e.sz)).length = i * e.sz := by rw [List.length_take, hlen]; omega
  have hR : (e.E (xs.getD i e.d)).length = e.sz := e.hE _
  generalize hAe : (xs.flatMap e.E).take (i * e.sz) = A at *
  generalize hBe : (xs.flatMap e.E).drop ((i + 1) * e.sz) = B at *
  generalize e.E (xs.getD i e.d) = R at *
  rw [h0]
  have t1 : (A ++ R ++ B).take (i * e.sz + f) = A ++ R.take f := by
    rw [List.append_assoc, ← hA, List.take_length_add_append, List.take_append_of_le_length (by omega)]
  have t2 : (A ++ R ++ B).drop (i * e.sz + f + cs.length) = R.drop (f + cs.length) ++ B := by
    rw [List.append_assoc, ← hA, Nat.add_assoc, List.drop_length_add_append, List.drop_append_of_le_length (by omega)]
  rw [t1, t2]
  simp only [List.append_assoc]

theorem splice_get {A : List Value} {cur : Array Value} {o : Nat} {cs : List Value} (hA : o + cs.length ≤ A.length) (hcur : ∀ (j : Nat) v, A[j]? = some v → cur[j]? = some v) (j : Nat) (v : Value)
    (h : (A.take o ++ cs ++ A.drop (o + cs.length))[j]? = some v) : ((cur.toList.take o ++ cs ++ cur.toList.drop (o + cs.length)).toArray)[j]? = some v := by
  have hsz : A.length ≤ cur.size := by
    rcases Nat.eq_zero_or_pos A.length with h0 | h0
    · omega
    · have := hcur (A.length - 1) A[A.length - 1] (by simp)
      have := (Array.getElem?_eq_some_iff.1 this).1
      omega
  have l1 : (A.take o).length = o := by rw [List.length_take]; omega
  have l2 : (cur.toList.take o).length = o := by rw [List.length_take, Array.length_toList]; omega
  rw [List.getElem?_toArray]
  by_cases c1 : j < o
  · rw [List.append_assoc, List.getElem?_append_left (by omega), List.getElem?_take, if_pos c1] at h
    rw [List.append_assoc, List.getElem?_append_left (by omega), List.getElem?_take, if_pos c1]
    simpa using hcur j v h
  · rw [List.append_assoc, List.getElem?_append_right (by omega), l1] at h
    rw [List.append_assoc, List.getElem?_append_right (by omega), l2]
    by_cases c2 : j - o < cs.length
    · rw [List.getElem?_append_left c2] at h ⊢; exact h
    · rw [List.getElem?_append_right (by omega), List.getElem?_drop] at h ⊢
      rw [show o + cs.length + (j - o - cs.length) = j by omega] at h ⊢
      simpa using hcur j v h

/-- A store. -/
theorem store_ok {P : Program} {T : Nat} {ti : TI} (hT : TIOK P T ti) {n : Nm} {ν : Nat → Pl} {V : Nat → Prop} {hp : HP} {w : World} {fp : Nat → Nat → Prop} (H : Holds n ν V hp w fp)
    {p : PP} {v : PV} {vc : List CV} {c' : Chunk} {cs : List Prop} (hv : v.cells.length = ti.size) (hvc : ∀ ν', vc.map (CV.den ν') = v.cells.map (CV.den ν')) (h : writeC hp p vc = some (c', cs)) (hc : ∀ c ∈ cs, c)
    (hden0 : ∀ ν', Agree n ν ν' → v.cells.map (CV.den ν') = v.cells.map (CV.den ν)) (hpl : ∀ ν', Agree n ν ν' → ν' p.h = ν p.h) :
    ∃ w', (storeVar T (p.addr ν) (v.den ν)).run P w = .ok () w' ∧ Holds n ν V (upd hp p.h (some c')) w' fp ∧ Ext w V (Sy.foot fp) w' V (Sy.foot fp) := by
  have hν0 : Agree n ν ν := Agree.refl _ _
  have hden : ∀ ν', Agree n ν ν' → vc.map (CV.den ν') = vc.map (CV.den ν) := fun ν' h => by rw [hvc, hvc]; exact hden0 ν' h
  have hvcl : vc.length = ti.size := by have := congrArg List.length (hvc ν); simpa [hv] using this
  obtain ⟨ph, pi, psz, pf⟩ := p
  have hlm : (vc.map (CV.den ν)).length = ti.size := by rw [List.length_map, hvcl]
  simp only [writeC] at h
  simp only at hpl
  split at h
  · rename_i T0 l hl
    split at h
    · rename_i l' hl'
      simp at h
      obtain ⟨rfl, rfl⟩ := h
      obtain ⟨h1, h2, h3⟩ := putAt_some hl'
      obtain ⟨hnil, ho, hb, hF⟩ := H.sat ν hν0 _ _ hl
      have hrun := run_storeVar_ok hT (ν ph).b (pi * psz + pf) T0 _ w hb (ν := ν) hv (by simp; omega)
      rw [← hvc] at hrun
      refine ⟨_, by rw [PP.addr]; simp only; rw [ho, Nat.zero_add]; exact hrun, ?_, ?_⟩
      · refine H.write (H.dom _ _ hl) (by simp) (fun b hb' => setRow_other w _ b _ (fun e => hb' ((hF b).2 e))) ?_
        intro ν' hν
        obtain ⟨hnil', ho', hb', hF'⟩ := H.sat ν' hν _ _ hl
        refine ⟨hnil', ho', ?_, hF'⟩
        rw [hpl ν' hν] at hb' ⊢
        rw [setRow_heap w _ _ _ T0 (0, 0) hb]
        rw [hb] at hb'
        injection hb' with hb'
        injection hb' with hb'
        have hm : l.map (CV.den ν) = l.map (CV.den ν') := by simpa using congrArg Array.toList hb'
        congr 2
        rw [h3]
        simp only [List.map_append, List.map_take, List.map_drop, hden ν' hν, hm, hvcl]
      · exact Ext.write ph rfl rfl rfl (by simp) (fun b hb' => setRow_other w _ b _ (fun e => hb' ((hF b).2 e)))
    · simp at h
  · rename_i T0 α e xs hl
    cases hbz : Nat.beq psz e.sz with
    | false => simp [hbz] at h
    | true =>
      have hsz := Nat.eq_of_beq_eq_true hbz
      subst hsz
      simp only [hbz, cond_true] at h
      split at h
      · rename_i l' hl'
        split at h
        · rename_i x hx
          simp at h
          obtain ⟨rfl, rfl⟩ := h
          have hi : pi < xs.length := hc _ (by simp)
          obtain ⟨h1, h2, h3⟩ := putAt_some hl'
          rw [e.hE] at h2
          have hE := e.hD _ _ hx
          have hflat := flat_put e xs pi pf x vc hi h2 (by rw [hE, h3])
          have hlen : (xs.flatMap e.E).length = xs.length * e.sz := flat_len e xs
          have hrow : (pi + 1) * e.sz ≤ xs.length * e.sz := Nat.mul_le_mul_right _ (by omega)
          rw [Nat.add_mul, Nat.one_mul] at hrow
          rcases H.sat ν hν0 _ _ hl with ⟨_, _, hx0, _⟩ | ⟨hnil, ho, hcap, ⟨cur, hcur, hcs, hget⟩, hF⟩
          · rw [hx0] at hi; simp at hi
          · have hcl : xs.length * e.sz ≤ (ν ph).cap * e.sz := Nat.mul_le_mul_right _ hcap.1
            have hfit : pi * e.sz + pf + ti.size ≤ cur.size := by
              rw [hcs, ← hvcl]; omega
            have hrun := run_storeVar_ok hT (ν ph).b (pi * e.sz + pf) T0 _ w hcur (ν := ν) hv hfit
            rw [← hvc] at hrun
            refine ⟨_, by rw [PP.addr]; simp only; rw [ho, Nat.zero_add]; exact hrun, ?_, ?_⟩
            · refine H.write (H.dom _ _ hl) (by simp) (fun b hb' => setRow_other w _ b _ (fun e' => hb' ((hF b).2 e'))) ?_
              intro ν' hν
              rcases H.sat ν' hν _ _ hl with ⟨_, _, hx0, _⟩ | ⟨hnil', ho', hcap', ⟨cur', hcur', hcs', hget'⟩, hF'⟩
              · rw [hx0] at hi; simp at hi
              · rw [hpl ν' hν] at hcur' hcs' hcap' hnil' ho' hF' ⊢
                rw [hcur] at hcur'
                injection hcur' with hcur'
                injection hcur' with hcur'
                subst hcur'
                refine .inr ⟨hnil', ho', by simpa using hcap', ⟨_, setRow_heap w _ _ _ T0 (0, 0) hcur, ?_, ?_⟩, hF'⟩
                · simp only [List.size_toArray, List.length_append, List.length_take, List.length_map, List.length_drop, Array.length_toList, hvcl]
                  omega
                · intro j u hj
                  rw [hflat] at hj
                  simp only [List.map_append, List.map_take, List.map_drop] at hj
                  rw [hden ν' hν] at hj
                  have hs := splice_get (A := (xs.flatMap e.E).map (CV.den ν')) (cur := cur) (o := pi * e.sz + pf) (cs := vc.map (CV.den ν)) (by simp only [List.length_map]; rw [hlen]; omega) hget' j u (by rw [List.length_map]; exact hj)
                  rw [hlm] at hs
                  exact hs
            · exact Ext.write ph rfl rfl rfl (by simp) (fun b hb' => setRow_other w _ b _ (fun e' => hb' ((hF b).2 e')))
        · simp at h
      · simp at h
  · simp at h
end Go.Sy

namespace Go.Sy
set_option linter.unusedVariables false
set_option linter.unusedSimpArgs false

/-- A chunk more, the world having grown beside what is held. -/
theorem Holds.add {n : Nm} {ν : Nat → Pl} {V : Nat → Prop} {hp : HP} {w w' : World} {fp : Nat → Nat → Prop} (H : Holds n ν V hp w fp) {nm : Nat} (hnm : ¬ n nm) (pl : Pl) (c : Chunk) (G : Nat → Prop)
    (hsize : w.heap.size ≤ w'.heap.size) (hsame : ∀ h b, fp h b → w'.heap[b]? = w.heap[b]?) (hV : ∀ b, V b → w'.heap[b]? = w.heap[b]?)
    (hG : ∀ b, G b → b < w'.heap.size ∧ ¬ V b ∧ ∀ h, ¬ fp h b)
    (hc : ∀ ν', Agree (ins n nm) (upd ν nm pl) ν' → c.sat ν' V pl w' G) :
    Holds (ins n nm) (upd ν nm pl) V (upd hp nm (some c)) w' (upd fp nm G) := by
  have hag : ∀ ν', Agree (ins n nm) (upd ν nm pl) ν' → Agree n ν ν' := by
    intro ν' h i hi
    have := h i (.inl hi)
    rw [this, upd_other _ _ (ne_of_not hnm hi)]
  refine ⟨?_, ?_, ?_, ?_, ?_, ?_, fun h c' hh => by
    by_cases e : nm = h
    · exact .inr e.symm
    · rw [upd_other _ _ e] at hh; exact .inl (H.dom h c' hh)⟩
  · intro ν' hν h c' hh
    by_cases e : nm = h
    · subst e
      rw [upd_same] at hh ⊢
      cases hh
      have := hc ν' hν
      rw [hν nm (.inr rfl), upd_same]
      exact this
    · rw [upd_other _ _ e] at hh ⊢
      exact Chunk.sat_kept (fun _ h => h) hV (fun b hb => hsame h b hb) (H.sat ν' (hag ν' hν) h c' hh)
  · intro h hh b hb
    by_cases e : nm = h
    · subst e; rw [upd_same] at hh; cases hh
    · rw [upd_other _ _ e] at hh hb; exact H.none h hh b hb
  · intro h h' b hb hb'
    by_cases e : nm = h
    · subst e
      by_cases e' : nm = h'
      · exact e'
      · rw [upd_same] at hb; rw [upd_other _ _ e'] at hb'
        exact absurd hb' ((hG b hb).2.2 h')
    · by_cases e' : nm = h'
      · subst e'
        rw [upd_same] at hb'; rw [upd_other _ _ e] at hb
        exact absurd hb ((hG b hb').2.2 h)
      · rw [upd_other _ _ e] at hb; rw [upd_other _ _ e'] at hb'
        exact H.disj h h' b hb hb'
  · intro h b hb
    by_cases e : nm = h
    · subst e; rw [upd_same] at hb; exact (hG b hb).1
    · rw [upd_other _ _ e] at hb; have := H.low h b hb; omega
  · intro h b hb hV'
    by_cases e : nm = h
    · subst e; rw [upd_same] at hb; exact (hG b hb).2.1 hV'
    · rw [upd_other _ _ e] at hb; exact H.nv h b hb hV'
  · intro b hb; have := H.vlow b hb; omega

/-- A slice of the call's own, as a row of the kit's. -/
theorem own_of_rows {n : Nm} {ν ν' : Nat → Pl} {V : Nat → Prop} {hp : HP} {w : World} {fp : Nat → Nat → Prop} (H : Holds n ν V hp w fp) (hν : Agree n ν ν') {h : Nat} {T : TypeId} {α : Type} {e : Enc α} {xs : List α}
    (hh : hp h = some (.rows T e xs)) {len : Nat} (hl : len = xs.length) :
    w.ownsRow 0 T e.sz (CV.den ν' (.slice h 0 e.sz len)) len ((xs.flatMap e.E).map (CV.den ν')) ∧ ∀ g, (CV.den ν' (.slice h 0 e.sz len)).ownBlock = some g → fp h g := by
  subst hl
  rcases H.sat ν' hν _ _ hh with ⟨h1, h2, h3, h4⟩ | ⟨h1, h2, h3, ⟨cs, hcs, hs, hget⟩, h4⟩
  · subst h3
    simp only [CV.den, h1, h2]
    exact ⟨⟨by simp, .inl ⟨by simp, rfl⟩⟩, by simp [Value.ownBlock]⟩
  · have hz : (if (ν' h).cap = 0 then 0 else 0 * e.sz) = 0 := by simp
    simp only [CV.den, h1, h2, hz, Nat.add_zero, Nat.sub_zero]
    refine ⟨⟨by rw [List.length_map, flat_len], .inr ⟨(ν' h).b, (ν' h).cap, cs, by simp, Nat.zero_le _, hcs, h3.1, h3.2, hs, ?_⟩⟩, ?_⟩
    · apply List.ext_getElem?
      intro j
      have hfl : ((xs.flatMap e.E).map (CV.den ν')).length = xs.length * e.sz := by rw [List.length_map, flat_len]
      rw [List.getElem?_take]
      by_cases c : j < xs.length * e.sz
      · rw [if_pos c]
        have hj := List.getElem?_eq_getElem (l := (xs.flatMap e.E).map (CV.den ν')) (i := j) (by omega)
        rw [hj]
        simpa using hget j _ hj
      · rw [if_neg c, List.getElem?_eq_none (by omega)]
    · intro g hg
      simp [Value.ownBlock] at hg
      exact (h4 g).2 hg.symm

/-- Placement of a row of the kit's. -/
def plOf : Value → Pl
  | .slice (some a) _ c => ⟨a.block, 0, c, false⟩
  | _ => ⟨0, 0, 0, true⟩

theorem rows_of_own {ν' : Nat → Pl} {V : Nat → Prop} {w : World} {T : TypeId} {α : Type} {e : Enc α} {xs : List α} {v : Value}
    (h : w.ownsRow 0 T e.sz v xs.length ((xs.flatMap e.E).map (CV.den ν'))) :
    (Chunk.rows T e xs).sat ν' V (plOf v) w (fun b => v.ownBlock = some b) ∧ v = .slice (if (plOf v).nil then none else some ⟨(plOf v).b, 0, none⟩) xs.length (plOf v).cap := by
  rcases h.2 with ⟨rfl, hn⟩ | ⟨g, cap, cur, rfl, _, hcur, hnc, hcm, hcs, htake⟩
  · have : xs = [] := List.eq_nil_of_length_eq_zero hn
    subst this
    exact ⟨.inl ⟨rfl, rfl, rfl, by simp [Value.ownBlock]⟩, rfl⟩
  · refine ⟨.inr ⟨rfl, rfl, ⟨hnc, hcm⟩, ⟨cur, hcur, hcs, ?_⟩, ?_⟩, rfl⟩
    · intro j u hj
      rw [← htake, List.getElem?_take] at hj
      split at hj
      · simpa using hj
      · cases hj
    · intro b
      simp only [Value.ownBlock, plOf, Option.some.injEq]
      exact eq_comm

theorem append_ok {P : Program} {t ty : TypeId} {ti te : TI} {e : TypeId} (ht : TIOK P t ti) (hk : ti.k = .slc e) (hte : TIOK P e te) {z : PV} (hz : zval te = some z)
    {n : Nm} {ν : Nat → Pl} {V : Nat → Prop} {hp : HP} {w : World} {fp : Nat → Nat → Prop} (H : Holds n ν V hp w fp) {nm : Nat} (hnm : ¬ n nm)
    {α : Type} {enc : Enc α} (hsz : te.size = enc.sz) (hb : 0 < te.bytes) {xs ys : List α} {v : Value} (h0 : Option Nat)
    (hown : w.ownsRow 0 e enc.sz v xs.length ((xs.flatMap enc.E).map (CV.den ν))) (hfoot : ∀ g, v.ownBlock = some g → ∃ h, h0 = some h ∧ fp h g) (hh0 : ∀ h, h0 = some h → n h)
    (hstab : ∀ ν', Agree n ν ν' → ((xs ++ ys).flatMap enc.E).map (CV.den ν') = ((xs ++ ys).flatMap enc.E).map (CV.den ν))
    {ad : Addr} {c : Nat} (hnews : ∀ (j : Nat) u, ((ys.flatMap enc.E).map (CV.den ν))[j]? = some u → w.cell? (ad.add j) = some u)
    (hroom : (xs.length + ys.length) * te.bytes ≤ 140737488355328) :
    ∃ w' pl fp', (Builtin.append_ #[t, t] ty #[v, .slice (some ad) ys.length c]).run P w = .ok (CV.den (upd ν nm pl) (.slice nm 0 enc.sz (xs.length + ys.length))) w' ∧
      Holds (ins n nm) (upd ν nm pl) V (upd (match h0 with | some h => upd hp h none | none => hp) nm (some (.rows e enc (xs ++ ys)))) w' fp' ∧ Ext w V (Sy.foot fp) w' V (Sy.foot fp') := by
  obtain ⟨i, hi, his, hib, hiz⟩ := hte.info
  obtain ⟨d, hd, _, hdk⟩ := ht.desc
  rw [hk] at hdk
  simp only at hdk
  subst hdk
  have hzc : (z.den ν).cells.size = enc.sz := by
    rw [PV.den_cells]
    unfold zval at hz
    have := hte.zlen
    cases hagg : te.agg with
    | true => simp [hagg] at hz; subst hz; simp [PV.cells, this, hsz]
    | false =>
      simp only [hagg, Bool.false_eq_true, if_false] at hz
      split at hz
      · rename_i c0 hc0
        simp at hz; subst hz
        rw [hc0] at this
        simp [PV.cells] at this ⊢; omega
      · simp at hz
  have hpos := enc.pos
  have hlen : xs.length + ys.length ≤ 140737488355328 := Nat.le_trans (Nat.le_mul_of_pos_right _ hb) hroom
  obtain ⟨v', w', hrun, hown', hg, hnil, hat⟩ := run_append_own_at (P := P) w 0 t ty e i (z.den ν) enc.sz te.bytes hd hi (hiz z hz ν) (his.trans hsz) hib hzc hpos v xs.length _ hown ad ys.length c ((ys.flatMap enc.E).map (CV.den ν))
    (by rw [List.length_map, flat_len]) hnews (by intro u hu; obtain ⟨c', _, rfl⟩ := List.mem_map.1 hu; exact CV.den_one ν c') (by simp only [maxLen]; omega) hroom (Nat.zero_le _)
  rw [← List.map_append, ← List.flatMap_append, ← List.length_append] at hown'
  have hsat : ∀ ν', Agree (ins n nm) (upd ν nm (plOf v')) ν' → (Chunk.rows e enc (xs ++ ys)).sat ν' V (plOf v') w' (fun b => v'.ownBlock = some b) := by
    intro ν' hν'
    refine (rows_of_own (ν' := ν') ?_).1
    rw [hstab ν' (fun i hi => by rw [hν' i (.inl hi), upd_other _ _ (ne_of_not hnm hi)])]
    exact hown'
  have hv' := (rows_of_own (V := V) hown').2
  have hblk : ∀ k, k < w.heap.size → some k ≠ v.ownBlock → w'.heap[k]? = w.heap[k]? := hg.block
  have hnew : ∀ b, v'.ownBlock = some b → b < w'.heap.size := by
    intro b hb
    rcases hown'.2 with ⟨rfl, _⟩ | ⟨g, cap, cur, rfl, _, hcur, _⟩
    · simp [Value.ownBlock] at hb
    · simp [Value.ownBlock] at hb
      subst hb
      exact (Array.getElem?_eq_some_iff.1 hcur).1
  have hrun' : (Builtin.append_ #[t, t] ty #[v, .slice (some ad) ys.length c]).run P w = .ok (CV.den (upd ν nm (plOf v')) (.slice nm 0 enc.sz (xs.length + ys.length))) w' := by
    rw [hrun]
    congr 1
    refine hv'.trans ?_
    have ho : (plOf v').o = 0 := by unfold plOf; split <;> rfl
    simp only [CV.den, upd_same, List.length_append, Nat.sub_zero, ho]
    simp
  cases h0 with
  | none =>
    have hvn : v.ownBlock = none := by
      cases hvb : v.ownBlock with
      | none => rfl
      | some g => obtain ⟨h, hh, _⟩ := hfoot g hvb; cases hh
    refine ⟨w', plOf v', _, hrun', H.add hnm (plOf v') _ (fun b => v'.ownBlock = some b) hg.size (fun h b hb' => hblk b (H.low h b hb') (by rw [hvn]; simp)) (fun b hb' => hblk b (H.vlow b hb') (by rw [hvn]; simp)) ?_ hsat, ?_⟩
    · intro b hb'
      have hbw : b = w.heap.size := by
        rcases hat with h | h
        · rw [hvn] at h; rw [h] at hb'; cases hb'
        · rw [h] at hb'; cases hb'; rfl
      refine ⟨hnew b hb', fun hV => ?_, fun h hf => ?_⟩
      · have := H.vlow b hV; omega
      · have := H.low h b hf; omega
    · refine ⟨hg.os, hg.tape, hg.output, hg.size, fun b hb' hF => hblk b hb' (by rw [hvn]; simp), ?_, fun _ h => h, fun _ h => .inl h⟩
      rintro b ⟨h, hb'⟩
      by_cases e : nm = h
      · subst e; rw [upd_same] at hb'
        rcases hat with h | h
        · rw [hvn] at h; rw [h] at hb'; cases hb'
        · rw [h] at hb'; cases hb'; exact .inr (Nat.le_refl _)
      · rw [upd_other _ _ e] at hb'; exact .inl ⟨h, hb'⟩
  | some h0 =>
    have hfoot' : ∀ g, v.ownBlock = some g → fp h0 g := fun g hg => by
      obtain ⟨h, hh, hf⟩ := hfoot g hg
      cases hh; exact hf
    have H' := H.drop h0
    have hne : ∀ h b, upd fp h0 (fun _ => False) h b → some b ≠ v.ownBlock := by
      intro h b hb' he
      by_cases e : h0 = h
      · subst e; rw [upd_same] at hb'; exact hb'
      · rw [upd_other _ _ e] at hb'
        exact e (H.disj _ _ b (hfoot' b he.symm) hb')
    refine ⟨w', plOf v', _, hrun', H'.add hnm (plOf v') _ (fun b => v'.ownBlock = some b) hg.size (fun h b hb' => hblk b (H'.low h b hb') (hne h b hb')) (fun b hb' => hblk b (H.vlow b hb') (fun he => H.nv _ b (hfoot' b he.symm) hb')) ?_ hsat, ?_⟩
    · intro b hb'
      refine ⟨hnew b hb', fun hV => ?_, fun h hf => ?_⟩
      · rcases hat with h | h
        · rw [h] at hb'; exact H.nv _ b (hfoot' b hb') hV
        · rw [h] at hb'; cases hb'; have := H.vlow _ hV; omega
      · rcases hat with h1 | h1
        · rw [h1] at hb'; exact hne h b hf hb'.symm
        · rw [h1] at hb'; cases hb'; have := H'.low h _ hf; omega
    · refine ⟨hg.os, hg.tape, hg.output, hg.size, fun b hb' hF => hblk b hb' (fun he => hF ⟨h0, hfoot' b he.symm⟩), ?_, fun _ h => h, fun _ h => .inl h⟩
      rintro b ⟨h, hb'⟩
      by_cases e : nm = h
      · subst e; rw [upd_same] at hb'
        rcases hat with h | h
        · rw [h] at hb'; exact .inl ⟨h0, hfoot' b hb'⟩
        · rw [h] at hb'; cases hb'; exact .inr (Nat.le_refl _)
      · rw [upd_other _ _ e] at hb'; exact .inl (foot_drop ⟨h, hb'⟩)
end Go.Sy

namespace Go.Sy
set_option linter.unusedVariables false
set_option linter.unusedSimpArgs false

def cellsOf : SV → Option (List CV)
  | .v (.one c) => some [c]
  | .v (.agg l) => some l
  | _ => none

def ibin (op : BinOp) (k : IntKind) (x y : Int) : Option (CV × List Prop) :=
  match op with
  | .add => some (.int k (k.wrap (x + y)), [])
  | .sub => some (.int k (k.wrap (x - y)), [])
  | .mul => some (.int k (k.wrap (x * y)), [])
  | .quo => some (.int k (k.wrap (x.tdiv y)), [y ≠ 0])
  | .rem => some (.int k (x.tmod y), [y ≠ 0])
  | .eql => some (.bool (.X (decide (x = y))), [])
  | .neq => some (.bool (.X (!decide (x = y))), [])
  | .lss => some (.bool (.X (decide (x < y))), [])
  | .leq => some (.bool (.X (decide (x ≤ y))), [])
  | .gtr => some (.bool (.X (decide (x > y))), [])
  | .geq => some (.bool (.X (decide (x ≥ y))), [])
  | .shl => some (.int k (k.wrap (x * 2 ^ (min y.toNat k.bits))), [0 ≤ y])
  | .shr => some (.int k (x.fdiv (2 ^ (min y.toNat k.bits))), [0 ≤ y])
  | _ => none

/-- Parts laid into cells. -/
def fillS (pl : Nat → Option (Nat × Nat)) (ρ : Operand → SV) (cells : List CV) : List (Nat × Operand) → Option (List CV)
  | [] => some cells
  | (i, x) :: rest => match pl i, cellsOf (ρ x) with
    | some (off, size), some cs => bif Nat.beq cs.length size then (match putAt off cells cs with
      | some cells' => fillS pl ρ cells' rest
      | none => none) else none
    | _, _ => none

def repl (z : List CV) : Nat → List CV
  | 0 => []
  | n + 1 => z ++ repl z n

/-- Rows of cells read as elements. -/
def groups {α : Type} (e : Enc α) : Nat → List CV → Option (List α)
  | 0, [] => some []
  | n + 1, l => match takeE e.sz l with
    | some r => match e.D r, groups e n (dropN e.sz l) with
      | some x, some xs => some (x :: xs)
      | _, _ => none
    | none => none
  | _, _ => none

def ptrs (ρ : Operand → SV) : List Operand → Option (List PP)
  | [] => some []
  | x :: r => match ρ x, ptrs ρ r with
    | .v (.one (.ptr p)), some l => some (p :: l)
    | _, _ => none

def lenOfChunk (hp : HP) (h sz len l : Nat) : Option (List Prop) :=
  match hp h with
  | some (.rows _ e xs) => bif Nat.beq sz e.sz then some [l + len ≤ xs.length] else none
  | some (.view e xs) => bif Nat.beq sz e.sz then some [l + len ≤ xs.length] else none
  | _ => none

/-- In memory a bool is no constant. -/
def nrm : List CV → List CV
  | [] => []
  | .bool .T :: r => .bool (.X true) :: nrm r
  | .bool .F :: r => .bool (.X false) :: nrm r
  | .bool (.X b) :: r => .bool (.X b) :: nrm r
  | .int k n :: r => .int k n :: nrm r
  | .ptr p :: r => .ptr p :: nrm r
  | .nilp :: r => .nilp :: nrm r
  | .slice h l sz len :: r => .slice h l sz len :: nrm r
  | .nils :: r => .nils :: nrm r
  | .fn f l :: r => .fn f l :: nrm r
  | .nilf :: r => .nilf :: nrm r
theorem nrm_den (ν : Nat → Pl) : ∀ l : List CV, (nrm l).map (CV.den ν) = l.map (CV.den ν)
  | [] => rfl
  | c :: r => by
    cases c with
    | bool b => cases b <;> simp [nrm, nrm_den ν r, CV.den, BX.v]
    | _ => simp [nrm, nrm_den ν r, CV.den]
theorem nrm_len : ∀ l : List CV, (nrm l).length = l.length
  | [] => rfl
  | c :: r => by
    cases c with
    | bool b => cases b <;> simp [nrm, nrm_len r]
    | _ => simp [nrm, nrm_len r]

/-- Elements cleared. -/
def clr {α : Type} (l n : Nat) (z : α) (xs : List α) : List α := xs.take l ++ (List.replicate n z ++ xs.drop (l + n))
def eff (tab : Tab) (ρ : Operand → SV) (hp : HP) (nm : Nat) : Op → Option Eff
  | .move x => match ρ x with
    | .v p => some ⟨.v p, [], []⟩
    | .tup l => some ⟨.tup l, [], []⟩
    | .und => some ⟨.und, [], []⟩
    | .unk => none
  | .assign x => match ρ x with
    | .v p => some ⟨.v p, [], []⟩
    | .tup l => some ⟨.tup l, [], []⟩
    | .und => some ⟨.und, [], []⟩
    | .unk => none
  | .pick c x y => match ρ c with
    | .v (.one (.bool .T)) => match ρ x with
      | .v p => some ⟨.v p, [], []⟩
      | _ => none
    | .v (.one (.bool .F)) => match ρ y with
      | .v p => some ⟨.v p, [], []⟩
      | _ => none
    | .v (.one (.bool (.X t))) => match ρ x, ρ y with
      | .v (.one (.bool p)), .v (.one (.bool q)) => some ⟨sbool (.X (bif t then p.v else q.v)), [], []⟩
      | _, _ => none
    | _ => none
  | .alloc T => match tab.ti T with
    | some ti => match zval ti with
      | some _ => some ⟨.v (.one (.ptr ⟨nm, 0, 0, 0⟩)), [(nm, some (.cells T (nrm ti.zero)))], []⟩
      | none => none
    | none => none
  | .box T x => match cellsOf (ρ x) with
    | some l => some ⟨.v (.one (.ptr ⟨nm, 0, 0, 0⟩)), [(nm, some (.cells T (nrm l)))], []⟩
    | none => none
  | .build T parts => match tab.ti T with
    | some ⟨_, _, true, zero, .strct _ pls⟩ => match fillS (fun i => pls[i]?) ρ zero parts.toList with
      | some l => some ⟨.v (.agg l), [], []⟩
      | none => none
    | some ⟨_, _, true, zero, .arr _ e⟩ => match tab.ti e with
      | some te => match fillS (fun i => some (i * te.size, te.size)) ρ zero parts.toList with
        | some l => some ⟨.v (.agg l), [], []⟩
        | none => none
      | none => none
    | _ => none
  | .buildSlice T len parts => match tab.ti T with
    | some ⟨_, _, _, _, .slc e⟩ => match tab.ti e with
      | some te => match zval te with
        | some _ => bif Nat.ble (len * te.size) 16777216 && Nat.ble 1 te.size then (match fillS (fun i => some (i * te.size, te.size)) ρ (repl te.zero len) parts.toList with
          | some l => match tab.lit len with
            | false => some ⟨.v (.one (.slice nm 0 te.size len)), [(nm, some (.cells e (nrm l)))], []⟩
            | true => match tab.enc e with
              | some ⟨_, enc⟩ => bif Nat.beq te.size enc.sz then (match groups enc len (nrm l) with
                | some ys => some ⟨.v (.one (.slice nm 0 te.size len)), [(nm, some (.rows e enc ys))], []⟩
                | none => none) else none
              | none => none
          | none => none) else none
        | none => none
      | none => none
    | _ => none
  | .load T x => match ρ x with
    | .v (.one (.ptr p)) => match tab.ti T with
      | some ti => match readC hp p ti.size with
        | some (r, cs) => match loadV ti r with
          | some v => some ⟨.v v, [], cs⟩
          | none => none
        | none => none
      | none => none
    | _ => none
  | .store T x y => match ρ x, ρ y with
    | .v (.one (.ptr p)), .v v => match tab.ti T with
      | some ti => bif Nat.beq v.cells.length ti.size then (match writeC hp p (nrm v.cells) with
        | some (c, cs) => some ⟨.und, [(p.h, some c)], cs⟩
        | none => none) else none
      | none => none
    | _, _ => none
  | .nilCheck x => match ρ x with
    | .v (.one (.ptr p)) => some ⟨.v (.one (.ptr p)), [], []⟩
    | .v (.one (.fn f l)) => some ⟨.v (.one (.fn f l)), [], []⟩
    | _ => none
  | .binOp op T x y _ => match ρ x, ρ y with
    | .v (.one (.int k a)), .v (.one (.int k' b)) => bif kindB k k' then (match ibin op k a b with
      | some (c, cs) => some ⟨.v (.one c), [], cs⟩
      | none => none) else none
    | .v (.one (.bool p)), .v (.one (.bool q)) => match tab.ti T with
      | some ⟨_, _, _, _, .bool⟩ => match op with
        | .eql => some ⟨sbool (.X (p.v == q.v)), [], []⟩
        | .neq => some ⟨sbool (.X (!(p.v == q.v))), [], []⟩
        | _ => none
      | _ => none
    | .v (.one .nilp), .v (.one .nilp) => match tab.ti T with
      | some ⟨_, _, _, _, .ptr⟩ => match op with
        | .eql => some ⟨sbool .T, [], []⟩
        | .neq => some ⟨sbool .F, [], []⟩
        | _ => none
      | _ => none
    | .v (.one (.ptr _)), .v (.one .nilp) => match tab.ti T with
      | some ⟨_, _, _, _, .ptr⟩ => match op with
        | .eql => some ⟨sbool .F, [], []⟩
        | .neq => some ⟨sbool .T, [], []⟩
        | _ => none
      | _ => none
    | .v (.agg l), .v (.agg m) => match tab.eqs T with
      | some sz => bif Nat.beq l.length sz then (match eqCells l m with
        | some t => match op with
          | .eql => some ⟨sbool (.X t), [], []⟩
          | .neq => some ⟨sbool (.X (!t)), [], []⟩
          | _ => none
        | none => none) else none
      | none => none
    | _, _ => none
  | .unOp op _ x => match op, ρ x with
    | .not, .v (.one (.bool .T)) => some ⟨sbool .F, [], []⟩
    | .not, .v (.one (.bool .F)) => some ⟨sbool .T, [], []⟩
    | .not, .v (.one (.bool (.X t))) => some ⟨sbool (.X (!t)), [], []⟩
    | .neg, .v (.one (.int k n)) => some ⟨.v (.one (.int k (k.wrap (0 - n)))), [], []⟩
    | _, _ => none
  | .convert src dst x => match ρ x, tab.ti src, tab.ti dst with
    | .v (.one (.int _ n)), some _, some ⟨_, _, _, _, .num k⟩ => some ⟨.v (.one (.int k (k.wrap n))), [], []⟩
    | _, _, _ => none
  | .makeFunc (.func f) first captured => bif Nat.beq first.size 0 then (match ptrs ρ captured.toList with
    | some l => some ⟨.v (.one (.fn f l)), [], []⟩
    | none => none) else none
  | .slice T x lo hi none => match tab.ti T with
    | some ⟨_, _, _, _, .slc e⟩ => match tab.ti e with
      | some te => match ρ x with
        | .v (.one (.slice h 0 sz len)) => bif Nat.beq sz te.size then (match lenOfChunk hp h sz len 0 with
          | some cs => match lo, hi with
            | some l, some m => match ρ l, ρ m with
              | .v (.one (.int _ a)), .v (.one (.int _ b)) => some ⟨.v (.one (.slice h a.toNat sz (b.toNat - a.toNat))), [], (0 ≤ a) :: (a ≤ b) :: (b ≤ len) :: cs⟩
              | _, _ => none
            | some l, none => match ρ l with
              | .v (.one (.int _ a)) => some ⟨.v (.one (.slice h a.toNat sz (len - a.toNat))), [], (0 ≤ a) :: (a ≤ len) :: cs⟩
              | _ => none
            | none, some m => match ρ m with
              | .v (.one (.int _ b)) => some ⟨.v (.one (.slice h 0 sz b.toNat)), [], (0 ≤ b) :: (b ≤ len) :: cs⟩
              | _ => none
            | none, none => some ⟨.v (.one (.slice h 0 sz len)), [], cs⟩
          | none => none) else none
        | _ => none
      | none => none
    | _ => none
  | .fieldAddr T x j => match ρ x with
    | .v (.one (.ptr ⟨h, i, sz, f⟩)) => match tab.ti T with
      | some ⟨_, _, _, _, .strct _ pls⟩ => match pls[j]? with
        | some (o, n + 1) => some ⟨.v (.one (.ptr ⟨h, i, sz, f + o⟩)), [], []⟩
        | _ => none
      | _ => none
    | _ => none
  | .field T x j => match ρ x with
    | .v (.agg l) => match tab.ti T with
      | some ⟨_, _, _, _, .strct fs _⟩ => match fs[j]? with
        | some (o, t) => match tab.ti t with
          | some ti => match sub l o ti.size with
            | some r => match loadV ti r with
              | some v => some ⟨.v v, [], []⟩
              | none => none
            | none => none
          | none => none
        | none => none
      | _ => none
    | _ => none
  | .indexAddr T x ix => match ρ x, ρ ix with
    | .v (.one (.slice h l sz len)), .v (.one (.int _ n)) => match tab.ti T with
      | some ⟨_, _, _, _, .slc e⟩ => match tab.ti e with
        | some te => bif Nat.beq sz te.size then (match lenOfChunk hp h sz len l with
          | some cs => some ⟨.v (.one (.ptr ⟨h, l + n.toNat, sz, 0⟩)), [], (0 ≤ n) :: (n < len) :: cs⟩
          | none => match hp h with
            | some (.cells _ cl) => match l with
              | 0 => bif Nat.beq cl.length (len * sz) then some ⟨.v (.one (.ptr ⟨h, n.toNat, sz, 0⟩)), [], (0 ≤ n) :: (n < len) :: [0 < len]⟩ else none
              | _ => none
            | _ => none) else none
        | none => none
      | _ => none
    | .v (.one (.ptr ⟨h, i, sz, f⟩)), .v (.one (.int _ n)) => match tab.ti T with
      | some ⟨_, _, _, _, .arr len e⟩ => match tab.ti e with
        | some te => some ⟨.v (.one (.ptr ⟨h, i, sz, f + n.toNat * te.size⟩)), [], (0 ≤ n) :: (n < len) :: []⟩
        | none => none
      | _ => none
    | _, _ => none
  | .extract x j => match ρ x with
    | .tup l => match l[j]? with
      | some p => some ⟨.v p, [], []⟩
      | none => none
    | _ => none
  | .call c => match c.callee with
    | .builtin .len => match c.args.toList, c.argTypes.toList with
      | [x], [T] => match ρ x with
        | .v (.one (.slice _ _ _ len)) => match tab.ti T with
          | some ⟨_, _, _, _, .slc _⟩ => some ⟨sint len, [], []⟩
          | _ => none
        | .v (.one .nils) => match tab.ti T with
          | some ⟨_, _, _, _, .slc _⟩ => some ⟨sint 0, [], []⟩
          | _ => none
        | _ => none
      | _, _ => none
    | .builtin .max => match c.args.toList with
      | [x, y] => match ρ x, ρ y with
        | .v (.one (.int k a)), .v (.one (.int _ b)) => some ⟨.v (.one (.int k (max a b))), [], []⟩
        | _, _ => none
      | _ => none
    | .builtin .min => match c.args.toList with
      | [x, y] => match ρ x, ρ y with
        | .v (.one (.int k a)), .v (.one (.int _ b)) => some ⟨.v (.one (.int k (min a b))), [], []⟩
        | _, _ => none
      | _ => none
    | .builtin .clear => match c.args.toList, c.argTypes.toList with
      | [x], [T] => match tab.ti T with
        | some ⟨_, _, _, _, .slc e⟩ => match tab.ti e with
          | some te => match zval te with
            | some _ => match ρ x with
              | .v (.one (.slice h l sz len)) => match hp h with
                | some (.rows e' enc xs) => bif Nat.beq te.size enc.sz && Nat.beq sz enc.sz then (match enc.D te.zero with
                  | some z => some ⟨.tup [], [(h, some (.rows e' enc (clr l len z xs)))], [l + len ≤ xs.length]⟩
                  | none => none) else none
                | _ => none
              | _ => none
            | none => none
          | none => none
        | _ => none
      | _, _ => none
    | .builtin .append => match c.args.toList, c.argTypes.toList with
      | [x, y], [T, T'] => bif Nat.beq T T' then (match tab.ti T with
        | some ⟨_, _, _, _, .slc e⟩ => match tab.ti e with
          | some te => match zval te with
            | some _ => match ρ x, ρ y with
              | .v (.one (.slice h 0 sz len)), .v (.one (.slice h2 0 sz2 len2)) => match hp h, hp h2 with
                | some (.rows e' enc xs), some (.cells _ l) => bif Nat.beq e e' && Nat.beq sz enc.sz && Nat.beq te.size enc.sz && Nat.beq sz2 enc.sz && Nat.ble 1 te.bytes then (match groups enc len2 l with
                  | some ys => some ⟨.v (.one (.slice nm 0 enc.sz (xs.length + ys.length))), [(h, none), (nm, some (.rows e enc (xs ++ ys)))], [len = xs.length, (xs.length + ys.length) * te.bytes ≤ 140737488355328, h ≠ h2]⟩
                  | none => none) else none
                | _, _ => none
              | .v (.one .nils), .v (.one (.slice h2 0 sz2 len2)) => match hp h2, tab.enc e with
                | some (.cells _ l), some ⟨_, enc⟩ => bif Nat.beq te.size enc.sz && Nat.beq sz2 enc.sz && Nat.ble 1 te.bytes then (match groups enc len2 l with
                  | some ys => some ⟨.v (.one (.slice nm 0 enc.sz ys.length)), [(nm, some (.rows e enc ys))], [ys.length * te.bytes ≤ 140737488355328]⟩
                  | none => none) else none
                | _, _ => none
              | _, _ => none
            | none => none
          | none => none
        | _ => none) else none
      | _, _ => none
    | _ => none
  | _ => none

def updL (hp : HP) : List (Nat × Option Chunk) → HP
  | [] => hp
  | (k, c) :: r => updL (upd hp k c) r
theorem groups_ok {α : Type} (e : Enc α) : ∀ (k : Nat) (l : List CV) (ys : List α), groups e k l = some ys → ys.length = k ∧ ys.flatMap e.E = l
  | 0, [], ys, h => by simp [groups] at h; subst h; simp
  | 0, _ :: _, ys, h => by simp [groups] at h
  | k + 1, l, ys, h => by
    simp only [groups] at h
    split at h
    · rename_i r hr
      split at h
      · rename_i x xs hx hxs
        simp at h; subst h
        obtain ⟨h1, h2⟩ := takeE_some hr
        obtain ⟨h3, h4⟩ := groups_ok e k _ xs hxs
        rw [dropN_eq] at h4
        refine ⟨by simp [h3], ?_⟩
        rw [List.flatMap_cons, h4, e.hD _ _ hx, h1, List.take_append_drop]
      · simp at h
    · simp at h

end Go.Sy

namespace Go.Sy
set_option linter.unusedVariables false
set_option linter.unusedSimpArgs false
set_option linter.unusedSectionVars false

theorem Holds.mono {n m : Nm} {ν : Nat → Pl} {V : Nat → Prop} {hp : HP} {w : World} {fp : Nat → Nat → Prop} (H : Holds n ν V hp w fp) (h : ∀ i, n i → m i) : Holds m ν V hp w fp :=
  ⟨fun ν' hν => H.sat ν' (hν.mono h), H.none, H.disj, H.low, H.nv, H.vlow, fun i c hi => h i (H.dom i c hi)⟩

theorem alloc_new (w : World) (o : Obj) : (w.alloc o).heap[w.heap.size]? = some o := by
  unfold World.alloc
  rw [Array.getElem?_push]
  simp

/-- What one operation comes to. -/
def Does (P : Program) (n : Nm) (ν : Nat → Pl) (V : Nat → Prop) (hp : HP) (w : World) (fp : Nat → Nat → Prop) (nm : Nat) (r : Result Next) (e : Eff) : Prop :=
  ∃ w' ν' fp', Agree n ν ν' ∧ Holds (ins n nm) ν' V (updL hp e.upd) w' fp' ∧ Ext w V (Sy.foot fp) w' V (Sy.foot fp') ∧
    ((∃ v, r = .ok (.value v) w' ∧ ∀ ν'', Agree (ins n nm) ν' ν'' → v = e.val.den ν'') ∨ (r = .ok .skip w' ∧ e.val = .und))

section
variable {P : Program} {tab : Tab} (hok : TabOK P tab) {n : Nm} {ν : Nat → Pl} {V : Nat → Prop} {hp : HP} {w : World} {fp : Nat → Nat → Prop} (H : Holds n ν V hp w fp)
  {fr : Nat → SV} {a : Act} (hfr : FrOK n ν fr a) {nm : Nat} (hnm : ¬ n nm)
include H hnm

theorem does_pure {r : Result Next} {e : Eff} (hu : e.upd = []) (h : ∀ ν'', Agree n ν ν'' → r = .ok (.value (e.val.den ν'')) w) : Does P n ν V hp w fp nm r e := by
  refine ⟨w, ν, fp, Agree.refl _ _, by rw [hu]; exact H.mono (fun _ h => .inl h), Ext.refl _ _ _, .inl ⟨_, h ν (Agree.refl _ _), fun ν'' hν => ?_⟩⟩
  have h1 := h ν (Agree.refl _ _)
  have h2 := h ν'' (hν.mono (fun _ h => .inl h))
  rw [h1] at h2
  injection h2 with h2
  injection h2

/-- A new block, told as a chunk. -/
theorem does_newC {r : Result Next} {e : Eff} {T : TypeId} {l : List CV} {cap : Nat} {c : CV} {ch : Chunk} (hv : e.val = .v (.one c)) (hu : e.upd = [(nm, some ch)])
    (hrun : ∀ ν'', Agree n ν ν'' → r = .ok (.value (c.den (upd ν'' nm ⟨w.heap.size, 0, cap, false⟩))) (w.alloc (.cells (l.map (CV.den ν'')).toArray T)))
    (hch : ∀ ν' W b, W.heap[b]? = some (.cells (l.map (CV.den ν')).toArray T (0, 0)) → ch.sat ν' V ⟨b, 0, cap, false⟩ W (fun x => x = b))
    (hc : ∀ ν₁ ν₂ : Nat → Pl, ν₁ nm = ν₂ nm → c.den ν₁ = c.den ν₂) : Does P n ν V hp w fp nm r e := by
  have h0 := hrun ν (Agree.refl _ _)
  have hl : ∀ ν'', Agree n ν ν'' → l.map (CV.den ν'') = l.map (CV.den ν) := by
    intro ν'' hν
    have h1 := hrun ν'' hν
    rw [h0] at h1
    injection h1 with _ h1
    have := congrArg (fun W : World => W.heap[w.heap.size]?) h1
    simp only [alloc_new, Option.some.injEq, Obj.cells.injEq, and_true] at this
    simpa using (congrArg Array.toList this).symm
  have hH := H.push hnm (.cells (l.map (CV.den ν)).toArray T) cap ch (by
    intro ν' hν'
    refine hch ν' _ _ ?_
    rw [hl ν' (fun i hi => by rw [hν' i (.inl hi), upd_other _ _ (ne_of_not hnm hi)])]
    exact alloc_new _ _)
  refine ⟨_, upd ν nm ⟨w.heap.size, 0, cap, false⟩, _, ?_, by rw [hu]; exact hH, Ext.push H nm _, .inl ⟨_, h0, ?_⟩⟩
  · intro h hh; exact upd_other _ _ (ne_of_not hnm hh)
  · intro ν'' hν''
    rw [hv]
    simp only [SV.den, PV.den]
    exact hc _ _ (by rw [hν'' nm (.inr rfl)])
/-- A new block. -/
theorem does_new {r : Result Next} {e : Eff} {T : TypeId} {l : List CV} {cap : Nat} {c : CV} (hv : e.val = .v (.one c)) (hu : e.upd = [(nm, some (.cells T l))])
    (hrun : ∀ ν'', Agree n ν ν'' → r = .ok (.value (c.den (upd ν'' nm ⟨w.heap.size, 0, cap, false⟩))) (w.alloc (.cells (l.map (CV.den ν'')).toArray T)))
    (hc : ∀ ν₁ ν₂ : Nat → Pl, ν₁ nm = ν₂ nm → c.den ν₁ = c.den ν₂) : Does P n ν V hp w fp nm r e := by
  have h0 := hrun ν (Agree.refl _ _)
  have hl : ∀ ν'', Agree n ν ν'' → l.map (CV.den ν'') = l.map (CV.den ν) := by
    intro ν'' hν
    have h1 := hrun ν'' hν
    rw [h0] at h1
    injection h1 with _ h1
    have := congrArg (fun W : World => W.heap[w.heap.size]?) h1
    simp only [alloc_new, Option.some.injEq, Obj.cells.injEq, and_true] at this
    simpa using (congrArg Array.toList this).symm
  have hH := H.push hnm (.cells (l.map (CV.den ν)).toArray T) cap (.cells T l) (by
    intro ν' hν'
    refine ⟨rfl, rfl, ?_, fun b => Iff.rfl⟩
    rw [hl ν' (fun i hi => by rw [hν' i (.inl hi), upd_other _ _ (ne_of_not hnm hi)])]
    exact alloc_new _ _)
  refine ⟨_, upd ν nm ⟨w.heap.size, 0, cap, false⟩, _, ?_, by rw [hu]; exact hH, Ext.push H nm _, .inl ⟨_, h0, ?_⟩⟩
  · intro h hh; exact upd_other _ _ (ne_of_not hnm hh)
  · intro ν'' hν''
    rw [hv]
    simp only [SV.den, PV.den]
    exact hc _ _ (by rw [hν'' nm (.inr rfl)])

include hfr
theorem ev {x : Operand} {v : SV} (hx : opv fr x = v) (hv : v ≠ .unk) : ∀ ν'', Agree n ν ν'' → a.eval x = v.den ν'' := by
  intro ν'' hν
  subst hx
  exact eval_opv hfr hν x hv

theorem does_move {x : Operand} {e : Eff} {o : Oper} (ho : o.op = .move x ∨ o.op = .assign x) (he : eff tab (opv fr) hp nm o.op = some e) :
    Does P n ν V hp w fp nm ((execOp a.eval o).run P w) e := by
  have hrun : (execOp a.eval o).run P w = .ok (.value (a.eval x)) w := by rcases ho with ho | ho <;> simp [execOp, ho]
  have he' : (match opv fr x with
    | .v p => some (⟨.v p, [], []⟩ : Eff)
    | .tup l => some ⟨.tup l, [], []⟩
    | .und => some ⟨.und, [], []⟩
    | .unk => none) = some e := by rcases ho with ho | ho <;> (rw [ho] at he; exact he)
  split at he' <;> first
    | (rename_i hx; simp at he'; subst he'; exact does_pure H hnm rfl fun ν'' hν => by rw [hrun, ev H hfr hnm hx (by simp) ν'' hν])
    | simp at he'

theorem does_pick {c x y : Operand} {e : Eff} {o : Oper} (ho : o.op = .pick c x y) (he : eff tab (opv fr) hp nm o.op = some e) :
    Does P n ν V hp w fp nm ((execOp a.eval o).run P w) e := by
  rw [ho] at he
  simp only [eff] at he
  split at he
  · rename_i hcv
    split at he
    · rename_i p hx
      simp at he; subst he
      refine does_pure H hnm rfl fun ν'' hν => ?_
      simp [execOp, ho, ev H hfr hnm hcv (by simp) ν'' hν, ev H hfr hnm hx (by simp) ν'' hν, SV.den, PV.den, CV.den, BX.v, asBool]
    · simp at he
  · rename_i hcv
    split at he
    · rename_i p hx
      simp at he; subst he
      refine does_pure H hnm rfl fun ν'' hν => ?_
      simp [execOp, ho, ev H hfr hnm hcv (by simp) ν'' hν, ev H hfr hnm hx (by simp) ν'' hν, SV.den, PV.den, CV.den, BX.v, asBool]
    · simp at he
  · rename_i t hcv
    split at he
    · rename_i p q hx hy
      simp at he; subst he
      refine does_pure H hnm rfl fun ν'' hν => ?_
      simp only [execOp, ho, ev H hfr hnm hcv (by simp) ν'' hν, ev H hfr hnm hx (by simp) ν'' hν, ev H hfr hnm hy (by simp) ν'' hν, SV.den, PV.den, CV.den, BX.v, asBool]
      cases t <;> simp
    · simp at he
  · simp at he

theorem does_alloc {T : TypeId} {e : Eff} {o : Oper} (hok : TabOK P tab) (ho : o.op = .alloc T) (he : eff tab (opv fr) hp nm o.op = some e) :
    Does P n ν V hp w fp nm ((execOp a.eval o).run P w) e := by
  rw [ho] at he
  simp only [eff] at he
  split at he
  · rename_i ti hti
    split at he
    · rename_i z hz
      simp at he; subst he
      have hT := hok.ti _ _ hti
      refine does_new H hnm (T := T) (l := nrm ti.zero) (cap := 0) rfl rfl ?_ ?_
      · intro ν'' hν
        have hzc : (z.den ν'').cells = (ti.zero.map (CV.den ν'')).toArray := by
          rw [PV.den_cells]
          unfold zval at hz
          split at hz
          · simp at hz; subst hz; rfl
          · split at hz
            · rename_i c hc; simp at hz; subst hz; rw [hc]; rfl
            · simp at hz
        simp [execOp, ho, Instr.alloc, run_zero_ok hT hz ν'', newVar, newRow, hzc, CV.den, PP.addr, upd_same, nrm_den]
      · intro ν₁ ν₂ h
        simp [CV.den, PP.addr, h]
    · simp at he
  · simp at he

theorem does_box {T : TypeId} {x : Operand} {e : Eff} {o : Oper} (ho : o.op = .box T x) (he : eff tab (opv fr) hp nm o.op = some e) :
    Does P n ν V hp w fp nm ((execOp a.eval o).run P w) e := by
  rw [ho] at he
  simp only [eff] at he
  split at he
  · rename_i l hl
    simp at he; subst he
    have hx : ∃ p : PV, opv fr x = .v p ∧ p.cells = l := by
      unfold cellsOf at hl
      split at hl
      · rename_i c hx; simp at hl; exact ⟨_, hx, hl⟩
      · rename_i l' hx; simp at hl; exact ⟨_, hx, hl⟩
      · simp at hl
    obtain ⟨p, hx, rfl⟩ := hx
    refine does_new H hnm (T := T) (l := nrm p.cells) (cap := 0) rfl rfl ?_ ?_
    · intro ν'' hν
      simp [execOp, ho, Instr.box, newVar, newRow, ev H hfr hnm hx (by simp) ν'' hν, SV.den, PV.den_cells, CV.den, PP.addr, upd_same, nrm_den]
    · intro ν₁ ν₂ h
      simp [CV.den, PP.addr, h]
  · simp at he

theorem does_load {T : TypeId} {x : Operand} {e : Eff} {o : Oper} (hok : TabOK P tab) (ho : o.op = .load T x) (he : eff tab (opv fr) hp nm o.op = some e) (hc : ∀ c ∈ e.conds, c) :
    Does P n ν V hp w fp nm ((execOp a.eval o).run P w) e := by
  rw [ho] at he
  simp only [eff] at he
  split at he
  · rename_i p hx
    split at he
    · rename_i ti hti
      split at he
      · rename_i r cs hr
        split at he
        · rename_i v hv
          simp at he; subst he
          refine does_pure H hnm rfl fun ν'' hν => ?_
          have := run_load_ok (hok.ti _ _ hti) H hν hr hc hv
          simp [execOp, ho, Instr.loadAt, ev H hfr hnm hx (by simp) ν'' hν, SV.den, PV.den, CV.den, Instr.sureAddr, this]
        · simp at he
      · simp at he
    · simp at he
  · simp at he

theorem does_store {T : TypeId} {x y : Operand} {e : Eff} {o : Oper} (hok : TabOK P tab) (ho : o.op = .store T x y) (he : eff tab (opv fr) hp nm o.op = some e) (hc : ∀ c ∈ e.conds, c) :
    Does P n ν V hp w fp nm ((execOp a.eval o).run P w) e := by
  rw [ho] at he
  simp only [eff] at he
  split at he
  · rename_i p v hx hy
    split at he
    · rename_i ti hti
      cases hb : Nat.beq v.cells.length ti.size with
      | false => simp [hb] at he
      | true =>
        simp only [hb, cond_true] at he
        split at he
        · rename_i c cs hcs
          simp at he; subst he
          have hxe := ev H hfr hnm hx (by simp)
          have hye := ev H hfr hnm hy (by simp)
          have hpl : ∀ ν', Agree n ν ν' → p.addr ν' = p.addr ν := by
            intro ν' hν
            have h1 := hxe ν' hν
            have h2 := hxe ν (Agree.refl _ _)
            rw [h2] at h1
            simp [SV.den, PV.den, CV.den] at h1
            exact h1.symm
          have hden : ∀ ν', Agree n ν ν' → v.cells.map (CV.den ν') = v.cells.map (CV.den ν) := by
            intro ν' hν
            have h1 := hye ν' hν
            have h2 := hye ν (Agree.refl _ _)
            rw [h2] at h1
            have h3 := congrArg Value.cells h1
            simp only [SV.den, PV.den_cells] at h3
            have h4 := congrArg Array.toList h3
            simpa using h4.symm
          have hplh : ∀ ν', Agree n ν ν' → ν' p.h = ν p.h := by
            intro ν' hν
            by_cases hh : n p.h
            · exact hν _ hh
            · exfalso
              -- a name beyond the bound has no fixed place
              have h1 := hpl (upd ν p.h ⟨(ν p.h).b + 1, (ν p.h).o, 0, false⟩) (fun i hi => upd_other _ _ (ne_of_not hh hi))
              simp [PP.addr, upd_same] at h1
          obtain ⟨w', hrun, hH, hE⟩ := store_ok (hok.ti _ _ hti) H (Nat.eq_of_beq_eq_true hb) (fun ν' => nrm_den ν' _) hcs hc hden hplh
          refine ⟨w', ν, fp, Agree.refl _ _, hH.mono (fun _ h => .inl h), hE, .inr ⟨?_, rfl⟩⟩
          have hx0 : a.eval x = .pointer (some (p.addr ν)) := hxe ν (Agree.refl _ _)
          have hy0 : a.eval y = v.den ν := hye ν (Agree.refl _ _)
          simp [execOp, ho, Instr.storeAt, hx0, hy0, Instr.sureAddr, hrun]
        · simp at he
    · simp at he
  · simp at he
end
end Go.Sy

namespace Go.Sy
set_option linter.unusedVariables false
set_option linter.unusedSimpArgs false
set_option linter.unusedSectionVars false

theorem foldl_set : ∀ (vs : List Value) (k off : Nat) (cs : Array Value), off + k + vs.length ≤ cs.size →
    ((vs.zipIdx k).foldl (fun (cs : Array Value) (p : Value × Nat) => cs.setIfInBounds (off + p.2) p.1) cs).toList = cs.toList.take (off + k) ++ vs ++ cs.toList.drop (off + k + vs.length)
  | [], k, off, cs, h => by simp
  | v :: vs, k, off, cs, h => by
    simp only [List.zipIdx_cons, List.foldl_cons]
    have ih := foldl_set vs (k + 1) off (cs.setIfInBounds (off + k) v) (by simp at h ⊢; omega)
    rw [ih]
    have e := list_seg_step cs.toList (off + k) v vs (by simp at h ⊢; omega)
    simpa [Array.toList_setIfInBounds, Nat.add_assoc] using e

theorem cellsOf_some {v : SV} {l : List CV} (h : cellsOf v = some l) : ∃ p : PV, v = .v p ∧ p.cells = l := by
  unfold cellsOf at h
  split at h
  · simp at h; exact ⟨_, rfl, h⟩
  · simp at h; exact ⟨_, rfl, h⟩
  · simp at h

section
variable {P : Program} {tab : Tab} {n : Nm} {ν : Nat → Pl} {V : Nat → Prop} {hp : HP} {w : World} {fp : Nat → Nat → Prop} (H : Holds n ν V hp w fp)
  {fr : Nat → SV} {a : Act} (hfr : FrOK n ν fr a) {nm : Nat} (hnm : ¬ n nm)
include H hnm hfr

theorem fill_ok {pl pl' : Nat → Option (Nat × Nat)} {ν'' : Nat → Pl} (hν : Agree n ν ν'') (hpl : ∀ i q, pl i = some q → pl' i = some q) :
    ∀ (parts : List (Nat × Operand)) (cells l : List CV), fillS pl (opv fr) cells parts = some l →
      Instr.fill pl' (cells.map (CV.den ν'')).toArray (parts.map fun (i, x) => (i, a.eval x)) = some (l.map (CV.den ν'')).toArray
  | [], cells, l, h => by simp [fillS] at h; subst h; simp [Instr.fill]
  | (i, x) :: rest, cells, l, h => by
    simp only [fillS] at h
    split at h
    · rename_i off size cs hp1 hx
      obtain ⟨p, hxv, rfl⟩ := cellsOf_some hx
      cases hb : Nat.beq p.cells.length size with
      | false => simp [hb] at h
      | true =>
        have hsz := Nat.eq_of_beq_eq_true hb
        simp only [hb, cond_true] at h
        split at h
        · rename_i cells' hc
          obtain ⟨h1, h2, h3⟩ := putAt_some hc
          have hev := ev H hfr hnm hxv (by simp) ν'' hν
          have hcells : (a.eval x).cells = (p.cells.map (CV.den ν'')).toArray := by rw [hev]; simp only [SV.den]; exact PV.den_cells ν'' p
          have ih := fill_ok hν hpl rest cells' l h
          simp only [List.map_cons, Instr.fill, hpl i _ hp1, hcells]
          simp only [List.size_toArray, List.length_map, hsz]
          rw [if_neg (by simp; omega)]
          rw [show ((p.cells.map (CV.den ν'')).toArray.zipIdx.foldl (fun (cs : Array Value) (q : Value × Nat) => cs.setIfInBounds (off + q.2) q.1) (cells.map (CV.den ν'')).toArray) = (cells'.map (CV.den ν'')).toArray from by
            apply Array.ext'
            have := foldl_set (p.cells.map (CV.den ν'')) 0 off (cells.map (CV.den ν'')).toArray (by simp; omega)
            rw [← Array.foldl_toList]
            simp only [Array.toList_zipIdx]
            simp only [Nat.add_zero, List.length_map] at this
            rw [this, h3]
            simp]
          exact ih
        · simp at h
    · simp at h

theorem does_build {T : TypeId} {parts : Array (Nat × Operand)} {e : Eff} {o : Oper} (hok : TabOK P tab) (ho : o.op = .build T parts) (he : eff tab (opv fr) hp nm o.op = some e) :
    Does P n ν V hp w fp nm ((execOp a.eval o).run P w) e := by
  rw [ho] at he
  simp only [eff] at he
  split at he
  · rename_i sz by_ zero fs pls hti
    split at he
    · rename_i l hl
      simp at he; subst he
      have hT := hok.ti _ _ hti
      obtain ⟨d, hd, hagg, fields, rfl, hf, _⟩ := hT.desc
      obtain ⟨i, hi, _, _, hiz⟩ := hT.info
      refine does_pure H hnm rfl fun ν'' hν => ?_
      have hfill := fill_ok H hfr hnm hν (pl' := fun i => pls[i]?) (fun i q h => h) parts.toList zero l hl
      have hzz := hiz (.agg zero) rfl ν''
      have hb : P.built T ((parts.map fun (i, x) => (i, a.eval x)).toList) = some (l.map (CV.den ν'')).toArray := by
        unfold Program.built
        simp only [hi, hd, hzz, hf, PV.den, Value.cells, Array.toList_map]
        simpa using hfill
      simp [execOp, ho, run_build w T _ _ hb, SV.den, PV.den]
    · simp at he
  · rename_i sz by_ zero len el hti
    split at he
    · rename_i te hte
      split at he
      · rename_i l hl
        simp at he; subst he
        have hT := hok.ti _ _ hti
        obtain ⟨d, hd, hagg, rfl⟩ := hT.desc
        refine does_pure H hnm rfl fun ν'' hν => ?_
        have hz : zval ⟨sz, by_, true, zero, .arr len el⟩ = some (.agg zero) := rfl
        have hfill := fill_ok H hfr hnm hν (fun i q h => h) parts.toList zero l hl
        have hzr := run_zero_ok hT hz ν'' w
        simp only [execOp, ho, Instr.build, Sem.run_bind, hzr, Result.andThen_ok, run_underlying hd, Array.toList_map, PV.den, Value.cells, run_sizeOf_ok (hok.ti _ _ hte), hfill]
        simp [SV.den, PV.den]
      · simp at he
    · simp at he
  · simp at he

theorem does_nilCheck {x : Operand} {e : Eff} {o : Oper} (ho : o.op = .nilCheck x) (he : eff tab (opv fr) hp nm o.op = some e) :
    Does P n ν V hp w fp nm ((execOp a.eval o).run P w) e := by
  rw [ho] at he
  simp only [eff] at he
  split at he
  · rename_i p hx
    simp at he; subst he
    exact does_pure H hnm rfl fun ν'' hν => by simp [execOp, ho, ev H hfr hnm hx (by simp) ν'' hν, SV.den, PV.den, CV.den]
  · rename_i f l hx
    simp at he; subst he
    exact does_pure H hnm rfl fun ν'' hν => by simp [execOp, ho, ev H hfr hnm hx (by simp) ν'' hν, SV.den, PV.den, CV.den]
  · simp at he

theorem ibin_ok {op : BinOp} {k : IntKind} {x y : Int} {c : CV} {cs : List Prop} (h : ibin op k x y = some (c, cs)) (hc : ∀ p ∈ cs, p) (T : TypeId) (ν'' : Nat → Pl) :
    (binOp op T (.int k x) (.int k y)).run P w = .ok (c.den ν'') w := by
  unfold ibin at h
  split at h <;> simp at h <;> obtain ⟨rfl, rfl⟩ := h
  all_goals simp only [binOp, CV.den, BX.v]
  · simp [Op.intArith]
  · simp [Op.intArith]
  · simp [Op.intArith]
  · have hy : y ≠ 0 := hc _ (by simp)
    simp [Op.intDiv, hy]
  · have hy : y ≠ 0 := hc _ (by simp)
    simp [Op.intDiv, hy]
  · simp only [ne_eq, not_true, if_false, ite_false, Op.intCmp, Sem.run_pure]; rfl
  · simp only [ne_eq, not_true, if_false, ite_false, Op.intCmp, Sem.run_pure]; rfl
  · simp [Op.intCmp]
  · simp [Op.intCmp]
  · simp [Op.intCmp]
  · simp [Op.intCmp]
  · have hy : 0 ≤ y := hc _ (by simp)
    simp [Op.shift, show ¬ y < 0 by omega]
  · have hy : 0 ≤ y := hc _ (by simp)
    simp [Op.shift, show ¬ y < 0 by omega]

omit H hfr hnm in
theorem equalIn_nil_nil (d : Nat) {T el : TypeId} (hd : P.underlying T = some (.pointer el)) : (Op.equalIn (d + 1) T (.pointer none) (.pointer none)).run P w = .ok true w := by
  simp [Op.equalIn, run_underlying hd]
omit H hfr hnm in
theorem equalIn_ptr_nil (d : Nat) {T el : TypeId} (hd : P.underlying T = some (.pointer el)) (b : Addr) : (Op.equalIn (d + 1) T (.pointer (some b)) (.pointer none)).run P w = .ok false w := by
  simp [Op.equalIn, run_underlying hd]

omit H hfr hnm in
theorem eq_runs {T : TypeId} {x y : Value} {t : Bool} {u v : Operand} (hg : (eqGuard .eql T u v x y).run P w = .ok () w ∧ (eqGuard .neq T u v x y).run P w = .ok () w)
    (hb : binOp .eql T x y = (do pure (.bool (← Op.equal T x y))) ∧ binOp .neq T x y = (do pure (.bool (!(← Op.equal T x y))))) (h : (Op.equalIn (9999 + 1) T x y).run P w = .ok t w) :
    (do eqGuard .eql T u v x y; binOp .eql T x y : Sem Value).run P w = .ok (.bool t) w ∧ (do eqGuard .neq T u v x y; binOp .neq T x y : Sem Value).run P w = .ok (.bool (!t)) w := by
  have h' : (Op.equal T x y).run P w = .ok t w := h
  constructor
  · simp only [Sem.run_bind, hg.1, Result.andThen_ok, hb.1, h', Sem.run_pure]
  · simp only [Sem.run_bind, hg.2, Result.andThen_ok, hb.2, h', Sem.run_pure]

theorem does_binOp {op : BinOp} {T T' : TypeId} {x y : Operand} {e : Eff} {o : Oper} (hok : TabOK P tab) (ho : o.op = .binOp op T x y T') (he : eff tab (opv fr) hp nm o.op = some e) (hc : ∀ c ∈ e.conds, c) :
    Does P n ν V hp w fp nm ((execOp a.eval o).run P w) e := by
  rw [ho] at he
  simp only [eff] at he
  split at he
  · rename_i k p k' q hx hy
    cases hb : kindB k k' with
    | false => simp [hb] at he
    | true =>
      have := kindB_eq hb
      subst this
      simp only [hb, cond_true] at he
      split at he
      · rename_i c cs hcs
        simp at he; subst he
        refine does_pure H hnm rfl fun ν'' hν => ?_
        have hb := ibin_ok (P := P) (w := w) H hfr hnm hcs hc T ν''
        have hx0 : a.eval x = .int k p := ev H hfr hnm hx (by simp) ν'' hν
        have hy0 : a.eval y = .int k q := ev H hfr hnm hy (by simp) ν'' hν
        have hg : (eqGuard op T x y (.int k p) (.int k q)).run P w = .ok () w := by cases op <;> simp [eqGuard]
        simp only [execOp, ho, hx0, hy0, Sem.run_bind, hg, Result.andThen_ok, hb, Sem.run_pure]
        rfl
      · simp at he
  · rename_i p q hx hy
    split at he
    · rename_i s1 s2 s3 s4 hti
      obtain ⟨d, hd, _, rfl⟩ := (hok.ti _ _ hti).desc
      have hx0 := ev H hfr hnm hx (by simp)
      have hy0 := ev H hfr hnm hy (by simp)
      split at he <;> simp at he <;> subst he
      · refine does_pure H hnm rfl fun ν'' hν => ?_
        have hx1 : a.eval x = .bool p.v := hx0 ν'' hν
        have hy1 : a.eval y = .bool q.v := hy0 ν'' hν
        have hq := eq_runs (P := P) (w := w) (T := T) (x := .bool p.v) (y := .bool q.v) (t := (p.v == q.v)) (u := x) (v := y) ⟨by simp [eqGuard], by simp [eqGuard]⟩ ⟨rfl, rfl⟩ (run_equalIn_bool w 9999 T _ _ hd)
        simp only [execOp, ho, hx1, hy1]
        rw [Sem.run_bind, hq.1]
        rfl
      · refine does_pure H hnm rfl fun ν'' hν => ?_
        have hx1 : a.eval x = .bool p.v := hx0 ν'' hν
        have hy1 : a.eval y = .bool q.v := hy0 ν'' hν
        have hq := eq_runs (P := P) (w := w) (T := T) (x := .bool p.v) (y := .bool q.v) (t := (p.v == q.v)) (u := x) (v := y) ⟨by simp [eqGuard], by simp [eqGuard]⟩ ⟨rfl, rfl⟩ (run_equalIn_bool w 9999 T _ _ hd)
        simp only [execOp, ho, hx1, hy1]
        rw [Sem.run_bind, hq.2]
        rfl
    · simp at he
  · rename_i hx hy
    split at he
    · rename_i s1 s2 s3 s4 hti
      obtain ⟨d, hd, _, el, rfl⟩ := (hok.ti _ _ hti).desc
      have hx0 := ev H hfr hnm hx (by simp)
      have hy0 := ev H hfr hnm hy (by simp)
      split at he <;> simp at he <;> subst he
      · refine does_pure H hnm rfl fun ν'' hν => ?_
        have hx1 : a.eval x = .pointer none := hx0 ν'' hν
        have hy1 : a.eval y = .pointer none := hy0 ν'' hν
        have hq := eq_runs (P := P) (w := w) (T := T) (x := .pointer none) (y := .pointer none) (t := true) (u := x) (v := y) ⟨by simp [eqGuard], by simp [eqGuard]⟩ ⟨rfl, rfl⟩ (equalIn_nil_nil 9999 hd)
        simp only [execOp, ho, hx1, hy1]
        rw [Sem.run_bind, hq.1]
        rfl
      · refine does_pure H hnm rfl fun ν'' hν => ?_
        have hx1 : a.eval x = .pointer none := hx0 ν'' hν
        have hy1 : a.eval y = .pointer none := hy0 ν'' hν
        have hq := eq_runs (P := P) (w := w) (T := T) (x := .pointer none) (y := .pointer none) (t := true) (u := x) (v := y) ⟨by simp [eqGuard], by simp [eqGuard]⟩ ⟨rfl, rfl⟩ (equalIn_nil_nil 9999 hd)
        simp only [execOp, ho, hx1, hy1]
        rw [Sem.run_bind, hq.2]
        rfl
    · simp at he
  · rename_i p hx hy
    split at he
    · rename_i s1 s2 s3 s4 hti
      obtain ⟨d, hd, _, el, rfl⟩ := (hok.ti _ _ hti).desc
      have hx0 := ev H hfr hnm hx (by simp)
      have hy0 := ev H hfr hnm hy (by simp)
      split at he <;> simp at he <;> subst he
      · refine does_pure H hnm rfl fun ν'' hν => ?_
        have hx1 : a.eval x = .pointer (some (p.addr ν'')) := hx0 ν'' hν
        have hy1 : a.eval y = .pointer none := hy0 ν'' hν
        have hq := eq_runs (P := P) (w := w) (T := T) (x := .pointer (some (p.addr ν''))) (y := .pointer none) (t := false) (u := x) (v := y) ⟨by simp [eqGuard], by simp [eqGuard]⟩ ⟨rfl, rfl⟩ (equalIn_ptr_nil 9999 hd _)
        simp only [execOp, ho, hx1, hy1]
        rw [Sem.run_bind, hq.1]
        rfl
      · refine does_pure H hnm rfl fun ν'' hν => ?_
        have hx1 : a.eval x = .pointer (some (p.addr ν'')) := hx0 ν'' hν
        have hy1 : a.eval y = .pointer none := hy0 ν'' hν
        have hq := eq_runs (P := P) (w := w) (T := T) (x := .pointer (some (p.addr ν''))) (y := .pointer none) (t := false) (u := x) (v := y) ⟨by simp [eqGuard], by simp [eqGuard]⟩ ⟨rfl, rfl⟩ (equalIn_ptr_nil 9999 hd _)
        simp only [execOp, ho, hx1, hy1]
        rw [Sem.run_bind, hq.2]
        rfl
    · simp at he
  · rename_i l m hx hy
    split at he
    · rename_i sz hsz
      obtain ⟨hg, hq⟩ := hok.eqs _ _ hsz
      cases hb : Nat.beq l.length sz with
      | false => simp [hb] at he
      | true =>
        simp only [hb, cond_true] at he
        split at he
        · rename_i t ht
          have hrun := fun ν'' => hq w ν'' l m t (Nat.eq_of_beq_eq_true hb) ht
          have hx0 := ev H hfr hnm hx (by simp)
          have hy0 := ev H hfr hnm hy (by simp)
          split at he <;> simp at he <;> subst he
          all_goals
            refine does_pure H hnm rfl fun ν'' hν => ?_
            have hx1 : a.eval x = .agg (l.map (CV.den ν'')).toArray := hx0 ν'' hν
            have hy1 : a.eval y = .agg (m.map (CV.den ν'')).toArray := hy0 ν'' hν
            simp only [execOp, ho, hx1, hy1]
            rw [Sem.run_bind, Sem.run_bind, run_eqGuard_agg w _ T x y _ _ hg, Result.andThen_ok]
            first
              | rw [run_eql_struct, hrun ν'']
              | rw [run_neq_struct, hrun ν'']
            simp only [Result.andThen_ok, Sem.run_pure, SV.den, PV.den, CV.den, BX.v]
        · simp at he
    · simp at he
  · simp at he

theorem does_unOp {op : UnOp} {T : TypeId} {x : Operand} {e : Eff} {o : Oper} (ho : o.op = .unOp op T x) (he : eff tab (opv fr) hp nm o.op = some e) :
    Does P n ν V hp w fp nm ((execOp a.eval o).run P w) e := by
  rw [ho] at he
  simp only [eff] at he
  split at he <;> first
    | (rename_i hx; simp at he; subst he; exact does_pure H hnm rfl fun ν'' hν => by simp [execOp, ho, ev H hfr hnm hx (by simp) ν'' hν, SV.den, PV.den, CV.den, BX.v, Op.unary, Op.intArith])
    | simp at he

theorem does_convert {src dst : TypeId} {x : Operand} {e : Eff} {o : Oper} (hok : TabOK P tab) (ho : o.op = .convert src dst x) (he : eff tab (opv fr) hp nm o.op = some e) :
    Does P n ν V hp w fp nm ((execOp a.eval o).run P w) e := by
  rw [ho] at he
  simp only [eff] at he
  split at he
  · rename_i k' m ts s1 s2 s3 s4 k hx hts htd
    simp at he; subst he
    obtain ⟨ds, hds, _⟩ := (hok.ti _ _ hts).desc
    obtain ⟨d, hd, _, rfl⟩ := (hok.ti _ _ htd).desc
    exact does_pure H hnm rfl fun ν'' hν => by simp [execOp, ho, ev H hfr hnm hx (by simp) ν'' hν, SV.den, PV.den, CV.den, convert, run_underlying hds, run_underlying hd, Conv.intToInt]
  · simp at he

theorem ptrs_ok : ∀ {l : List Operand} {ps : List PP}, ptrs (opv fr) l = some ps → ∀ ν'', Agree n ν ν'' → l.map a.eval = ps.map fun p => Value.pointer (some (p.addr ν''))
  | [], ps, h, ν'', hν => by simp [ptrs] at h; subst h; rfl
  | x :: r, ps, h, ν'', hν => by
    simp only [ptrs] at h
    split at h
    · rename_i p l hx hl
      simp at h; subst h
      simp [ev H hfr hnm hx (by simp) ν'' hν, SV.den, PV.den, CV.den, ptrs_ok hl ν'' hν]
    · simp at h

theorem does_makeFunc {f : Fn} {first captured : Array Operand} {e : Eff} {o : Oper} (ho : o.op = .makeFunc f first captured) (he : eff tab (opv fr) hp nm o.op = some e) :
    Does P n ν V hp w fp nm ((execOp a.eval o).run P w) e := by
  rw [ho] at he
  cases f <;> simp only [eff] at he <;> try (simp at he; done)
  rename_i f
  cases hb : Nat.beq first.size 0 with
  | false => simp [hb] at he
  | true =>
    have h0 := Nat.eq_of_beq_eq_true hb
    simp only [hb, cond_true] at he
    split at he
    · rename_i l hl
      simp at he; subst he
      refine does_pure H hnm rfl fun ν'' hν => ?_
      have := ptrs_ok H hfr hnm hl ν'' hν
      have h1 : first.map a.eval = #[] := by
        have : first = #[] := Array.eq_empty_of_size_eq_zero h0
        simp [this]
      have h2 : captured.map a.eval = (l.map fun p => Value.pointer (some (p.addr ν''))).toArray := by
        apply Array.ext'
        simpa using this
      simp [execOp, ho, Instr.makeFunc, h1, h2, SV.den, PV.den, CV.den]
    · simp at he
end
end Go.Sy

namespace Go.Sy
set_option linter.unusedVariables false
set_option linter.unusedSimpArgs false
set_option linter.unusedSectionVars false

section
variable {P : Program} {tab : Tab} {n : Nm} {ν : Nat → Pl} {V : Nat → Prop} {hp : HP} {w : World} {fp : Nat → Nat → Prop} (H : Holds n ν V hp w fp)
  {fr : Nat → SV} {a : Act} (hfr : FrOK n ν fr a) {nm : Nat} (hnm : ¬ n nm)
include H hnm hfr

theorem repl_eq (z : List CV) : ∀ k, repl z k = (List.replicate k z).flatten
  | 0 => rfl
  | k + 1 => by simp [repl, repl_eq z k, List.replicate_succ]

theorem repl_get (z : List CV) : ∀ (k i : Nat), i < k * z.length → (repl z k)[i]? = z[i % z.length]?
  | 0, i, h => by simp at h
  | k + 1, i, h => by
    simp only [repl]
    by_cases c : i < z.length
    · rw [List.getElem?_append_left c, Nat.mod_eq_of_lt c]
    · rw [List.getElem?_append_right (by omega), repl_get z k (i - z.length) (by rw [Nat.add_mul] at h; omega)]
      congr 1
      conv => rhs; rw [show i = (i - z.length) + z.length by omega, Nat.add_mod_right]

theorem does_buildSlice {T : TypeId} {len : Nat} {parts : Array (Nat × Operand)} {e : Eff} {o : Oper} (hok : TabOK P tab) (ho : o.op = .buildSlice T len parts) (he : eff tab (opv fr) hp nm o.op = some e) :
    Does P n ν V hp w fp nm ((execOp a.eval o).run P w) e := by
  rw [ho] at he
  simp only [eff] at he
  split at he
  · rename_i s1 s2 s3 s4 el hti
    split at he
    · rename_i te hte
      split at he
      · rename_i z hz
        cases hb : (Nat.ble (len * te.size) 16777216 && Nat.ble 1 te.size) with
        | false => simp [hb] at he
        | true =>
          simp only [Bool.and_eq_true, Nat.ble_eq] at hb
          obtain ⟨hb1, hb2⟩ := hb
          simp only [hb1, hb2, Nat.ble_eq_true_of_le, Bool.and_self, cond_true] at he
          split at he
          · rename_i l hl
            obtain ⟨d, hd, _, rfl⟩ := (hok.ti _ _ hti).desc
            have hT := hok.ti _ _ hte
            have hzl : te.zero.length = te.size := hT.zlen
            have hll : l.length = len * te.size := by
              have : ∀ (parts : List (Nat × Operand)) (c l : List CV), fillS (fun i => some (i * te.size, te.size)) (opv fr) c parts = some l → l.length = c.length := by
                intro parts
                induction parts with
                | nil => intro c l h; simp [fillS] at h; rw [h]
                | cons q rest ih =>
                  intro c l h
                  obtain ⟨i, x⟩ := q
                  simp only [fillS] at h
                  split at h
                  · rename_i off size cs hp1 hx
                    cases hbb : Nat.beq cs.length size with
                    | false => simp [hbb] at h
                    | true =>
                      simp only [hbb, cond_true] at h
                      split at h
                      · rename_i c' hc'
                        rw [ih _ _ h, (putAt_some hc').1]
                      · simp at h
                  · simp at h
              rw [this _ _ _ hl, repl_eq H hfr hnm]
              simp [hzl]
            have hrunA : ∀ ν'', Agree n ν ν'' → (execOp a.eval o).run P w = .ok (.value ((CV.slice nm 0 te.size len).den (upd ν'' nm ⟨w.heap.size, 0, len, false⟩))) (w.alloc (.cells ((nrm l).map (CV.den ν'')).toArray el)) := by
              intro ν'' hν
              have hfill := fill_ok H hfr hnm hν (pl' := fun i => some (i * te.size, te.size)) (fun i q h => h) parts.toList _ l hl
              have hzr := run_zero_ok hT hz ν'' w
              have hzc : (z.den ν'').cells = (te.zero.map (CV.den ν'')).toArray := by
                rw [PV.den_cells]
                unfold zval at hz
                split at hz
                · simp at hz; subst hz; rfl
                · split at hz
                  · rename_i c hc; simp at hz; subst hz; rw [hc]; rfl
                  · simp at hz
              have hx : ∀ (Z : Array Value), (len * te.size ≠ 0 → Z = (te.zero.map (CV.den ν'')).toArray) → (Array.range (len * te.size)).map (fun i => Z[i % Z.size]!) = ((repl te.zero len).map (CV.den ν'')).toArray := by
                intro Z hZ
                rcases Nat.eq_zero_or_pos len with h0 | h0
                · subst h0; simp [repl]
                · have hne : len * te.size ≠ 0 := by
                    have := Nat.mul_le_mul h0 hb2; omega
                  rw [hZ hne]
                  apply Array.ext
                  · simp [repl_eq H hfr hnm, hzl]
                  · intro i h1 h2
                    have hi : i < len * te.zero.length := by simp at h1; rw [hzl]; exact h1
                    have hg := repl_get H hfr hnm te.zero len i hi
                    have hm : i % te.zero.length < te.zero.length := Nat.mod_lt _ (by rw [hzl]; omega)
                    rw [List.getElem?_eq_getElem hm] at hg
                    have hg2 : ((repl te.zero len).map (CV.den ν''))[i]? = some ((te.zero[i % te.zero.length]).den ν'') := by rw [List.getElem?_map, hg]; rfl
                    have : ((repl te.zero len).map (CV.den ν'')).toArray[i]? = some ((te.zero[i % te.zero.length]).den ν'') := by simpa using hg2
                    rw [Array.getElem?_eq_getElem h2] at this
                    injection this with this
                    rw [this]
                    simp [getElem!_pos, hm]
              have hrun : (Instr.buildSlice T len (parts.map fun (i, x) => (i, a.eval x))).run P w = .ok (.slice (some ⟨w.heap.size, 0, none⟩) len len) (w.alloc (.cells (l.map (CV.den ν'')).toArray el)) := by
                simp only [Instr.buildSlice, Sem.run_bind, run_underlying hd, Result.andThen_ok, run_sizeOf_ok hT]
                rw [if_neg (by omega)]
                by_cases hz0 : len * te.size = 0
                · have := hx #[] (fun h => absurd hz0 h)
                  simp only [hz0, if_true, Sem.run_pure, Result.andThen_ok, Sem.run_bind]
                  rw [hz0] at this
                  rw [this]
                  simp only [Array.toList_map, hfill]
                  simp [newRow]
                · have := hx (z.den ν'').cells (fun _ => hzc)
                  simp only [hz0, if_false, Sem.run_bind, hzr, Sem.run_pure, Result.andThen_ok]
                  rw [this]
                  simp only [Array.toList_map, hfill]
                  simp [newRow]
              simp [execOp, ho, hrun, CV.den, upd_same, nrm_den]
            split at he
            · simp at he; subst he
              exact does_new H hnm (T := el) (l := nrm l) (cap := len) rfl rfl hrunA (fun ν₁ ν₂ h => by simp [CV.den, h])
            · split at he
              · rename_i α enc henc
                cases hbe : Nat.beq te.size enc.sz with
                | false => simp [hbe] at he
                | true =>
                  have hse := Nat.eq_of_beq_eq_true hbe
                  simp only [hbe, cond_true] at he
                  split at he
                  · rename_i ys hys
                    simp at he; subst he
                    obtain ⟨g1, g2⟩ := groups_ok enc _ _ _ hys
                    refine does_newC H hnm (T := el) (l := nrm l) (cap := len) (ch := .rows el enc ys) rfl rfl hrunA (fun ν' W b hb => ?_) (fun ν₁ ν₂ h => by simp [CV.den, h])
                    refine .inr ⟨rfl, rfl, ⟨by show _ ≤ len; omega, by
                      show len ≤ maxLen
                      have : len ≤ len * te.size := Nat.le_mul_of_pos_right _ hb2
                      unfold maxLen; omega⟩, ⟨_, hb, ?_, fun j v hj => ?_⟩, fun b => Iff.rfl⟩
                    · simp [nrm_len, hll, hse]
                    · rw [g2] at hj
                      simpa using hj
                  · simp at he
              · simp at he
          · simp at he
      · simp at he
    · simp at he
  · simp at he

theorem does_fieldAddr {T : TypeId} {x : Operand} {j : Nat} {e : Eff} {o : Oper} (hok : TabOK P tab) (ho : o.op = .fieldAddr T x j) (he : eff tab (opv fr) hp nm o.op = some e) :
    Does P n ν V hp w fp nm ((execOp a.eval o).run P w) e := by
  rw [ho] at he
  simp only [eff] at he
  split at he
  · rename_i ph pi psz pf hx
    split at he
    · rename_i s1 s2 s3 s4 fs pls hti
      obtain ⟨d, hd, _, fields, rfl, hm, hf⟩ := (hok.ti _ _ hti).desc
      split at he
      · rename_i off k hk
        simp at he; subst he
        have hfd : ∃ fd : Field, fields[j]? = some fd ∧ fd.offset = off ∧ ∃ i, P.info? fd.type = some i ∧ i.size = k + 1 := by
          have : ∀ (l : List Field) (pls : List (Nat × Nat)) (j : Nat), l.mapM (fun f => (P.info? f.type).map fun i => (f.offset, i.size)) = some pls → pls[j]? = some (off, k + 1) →
              ∃ fd : Field, l[j]? = some fd ∧ fd.offset = off ∧ ∃ i, P.info? fd.type = some i ∧ i.size = k + 1 := by
            intro l
            induction l with
            | nil => intro pls j h1 h2; simp at h1; subst h1; simp at h2
            | cons f l ih =>
              intro pls j h1 h2
              simp only [List.mapM_cons, Option.bind_eq_bind, Option.pure_def] at h1
              cases hi : P.info? f.type with
              | none => simp [hi] at h1
              | some i =>
                cases hr : l.mapM (fun f => (P.info? f.type).map fun i => (f.offset, i.size)) with
                | none => simp [hi, hr] at h1
                | some rest =>
                  simp [hi, hr] at h1
                  subst h1
                  cases j with
                  | zero => simp at h2; exact ⟨f, by simp, h2.1, i, hi, h2.2⟩
                  | succ j => simp at h2 ⊢; exact ih rest j hr h2
          obtain ⟨fd, h1, h2⟩ := this fields.toList pls j hm hk
          exact ⟨fd, by simpa using h1, h2⟩
        obtain ⟨fd, h1, h2, i, h3, h4⟩ := hfd
        refine does_pure H hnm rfl fun ν'' hν => ?_
        have hx1 : a.eval x = .pointer (some (PP.addr ν'' ⟨ph, pi, psz, pf⟩)) := ev H hfr hnm hx (by simp) ν'' hν
        have hs : (sizeOf fd.type).run P w = .ok (k + 1) w := by simp [sizeOf, run_typeInfo w h3, h4]
        have hadd : (PP.addr ν'' ⟨ph, pi, psz, pf⟩).add off = PP.addr ν'' ⟨ph, pi, psz, pf + off⟩ := by
          unfold Addr.add PP.addr
          split <;> simp_all [Nat.add_assoc]
        simp [execOp, ho, Instr.fieldAt, hx1, run_underlying hd, h1, Instr.sureAddr, fieldPlace, hs, h2, hadd, SV.den, PV.den, CV.den]
      · simp at he
    · simp at he
  · simp at he

theorem does_field {T : TypeId} {x : Operand} {j : Nat} {e : Eff} {o : Oper} (hok : TabOK P tab) (ho : o.op = .field T x j) (he : eff tab (opv fr) hp nm o.op = some e) :
    Does P n ν V hp w fp nm ((execOp a.eval o).run P w) e := by
  rw [ho] at he
  simp only [eff] at he
  split at he
  · rename_i l hx
    split at he
    · rename_i s1 s2 s3 s4 fs pls hti
      obtain ⟨d, hd, _, fields, rfl, hm, hf⟩ := (hok.ti _ _ hti).desc
      split at he
      · rename_i off t hk
        split at he
        · rename_i ti hft
          split at he
          · rename_i r hr
            split at he
            · rename_i v hv
              simp at he; subst he
              have hfd : ∃ fd : Field, fields[j]? = some fd ∧ fd.offset = off ∧ fd.type = t := by
                rw [← hf, List.getElem?_map] at hk
                cases h : fields.toList[j]? with
                | none => simp [h] at hk
                | some fd => simp [h] at hk; exact ⟨fd, by simpa using h, hk.1, hk.2⟩
              obtain ⟨fd, h1, h2, h3⟩ := hfd
              obtain ⟨q1, q2, q3⟩ := sub_some hr
              have hT := hok.ti _ _ hft
              refine does_pure H hnm rfl fun ν'' hν => ?_
              have hx1 : a.eval x = .agg (l.map (CV.den ν'')).toArray := ev H hfr hnm hx (by simp) ν'' hν
              have hpart : (part t (l.map (CV.den ν'')).toArray off).run P w = .ok (v.den ν'') w := by
                unfold loadV at hv
                simp only [part, Sem.run_bind, run_isAgg_ok hT, Result.andThen_ok]
                cases hagg : ti.agg with
                | true =>
                  simp [hagg] at hv
                  subst hv
                  simp only [if_true, Sem.run_bind, run_sizeOf_ok hT, Result.andThen_ok, Sem.run_pure, PV.den]
                  congr 2
                  apply Array.ext'
                  rw [q1]
                  simp [List.map_take, List.map_drop, Nat.add_sub_cancel_left]
                | false =>
                  simp only [hagg, Bool.false_eq_true, if_false] at hv
                  split at hv
                  · rename_i c
                    simp at hv
                    subst hv
                    have h0 : (l.map (CV.den ν''))[off]? = some (c.den ν'') := by
                      have : ((l.drop off).take ti.size)[0]? = some c := by rw [← q1]; rfl
                      rw [List.getElem?_take] at this
                      split at this
                      · rw [List.getElem?_drop] at this
                        simp only [Nat.add_zero] at this
                        simp [this]
                      · simp at this
                    simp only [Bool.false_eq_true, if_false, List.getElem?_toArray, h0, Sem.run_pure, PV.den]
                  · simp at hv
              simp [execOp, ho, Instr.field, hx1, run_underlying hd, h1, asAgg, h2, h3, hpart, SV.den]
            · simp at he
          · simp at he
        · simp at he
      · simp at he
    · simp at he
  · simp at he

theorem does_extract {x : Operand} {j : Nat} {e : Eff} {o : Oper} (ho : o.op = .extract x j) (he : eff tab (opv fr) hp nm o.op = some e) :
    Does P n ν V hp w fp nm ((execOp a.eval o).run P w) e := by
  rw [ho] at he
  simp only [eff] at he
  split at he
  · rename_i l hx
    split at he
    · rename_i p hj
      simp at he; subst he
      refine does_pure H hnm rfl fun ν'' hν => ?_
      have hx1 : a.eval x = .tuple (l.map (PV.den ν'')).toArray := ev H hfr hnm hx (by simp) ν'' hν
      simp [execOp, ho, Instr.extract, hx1, hj, SV.den]
    · simp at he
  · simp at he
end
end Go.Sy

namespace Go.Sy
set_option linter.unusedVariables false
set_option linter.unusedSimpArgs false
set_option linter.unusedSectionVars false

section
variable {P : Program} {tab : Tab} {n : Nm} {ν : Nat → Pl} {V : Nat → Prop} {hp : HP} {w : World} {fp : Nat → Nat → Prop} (H : Holds n ν V hp w fp)
  {fr : Nat → SV} {a : Act} (hfr : FrOK n ν fr a) {nm : Nat} (hnm : ¬ n nm)
include H hnm hfr

theorem lenOf_ok {h sz len l : Nat} {cs : List Prop} (hl : lenOfChunk hp h sz len l = some cs) (hc : ∀ c ∈ cs, c) : ∀ ν'', Agree n ν ν'' →
    l + len ≤ (ν'' h).cap ∧ ((ν'' h).nil = true → len = 0 ∧ l = 0 ∧ (ν'' h).cap = 0 ∨ len = 0 ∧ l = 0) := by
  intro ν'' hν
  unfold lenOfChunk at hl
  split at hl
  · rename_i T α e xs hh
    cases hb : Nat.beq sz e.sz with
    | false => simp [hb] at hl
    | true =>
      simp only [hb, cond_true, Option.some.injEq] at hl
      subst hl
      have h1 : l + len ≤ xs.length := hc _ (by simp)
      rcases H.sat ν'' hν _ _ hh with ⟨h2, h3, h4, _⟩ | ⟨h2, _, h3, _⟩
      · rw [h4] at h1; simp at h1
        exact ⟨by omega, fun _ => .inr ⟨h1.2, h1.1⟩⟩
      · exact ⟨by omega, fun hn => by rw [h2] at hn; cases hn⟩
  · rename_i α e xs hh
    cases hb : Nat.beq sz e.sz with
    | false => simp [hb] at hl
    | true =>
      simp only [hb, cond_true, Option.some.injEq] at hl
      subst hl
      have h1 : l + len ≤ xs.length := hc _ (by simp)
      obtain ⟨_, h2, h3⟩ := H.sat ν'' hν _ _ hh
      refine ⟨by omega, fun hn => ?_⟩
      rcases h3 with ⟨_, h4⟩ | ⟨h4, _⟩
      · rw [h4] at h1; simp at h1
        exact .inr ⟨h1.2, h1.1⟩
      · rw [h4] at hn; cases hn
  · simp at hl

theorem run_sliceBound (k : IntKind) (i : Int) (y : Nat) (code : BoundsCode) (h : 0 ≤ i ∧ i ≤ y) : (Instr.sliceBound (.int k i) y code).run P w = .ok i.toNat w := by
  simp [Instr.sliceBound, asIntOf, h]

theorem does_slice {T : TypeId} {x : Operand} {lo hi mx : Option Operand} {e : Eff} {o : Oper} (hok : TabOK P tab) (ho : o.op = .slice T x lo hi mx) (he : eff tab (opv fr) hp nm o.op = some e) (hc : ∀ c ∈ e.conds, c) :
    Does P n ν V hp w fp nm ((execOp a.eval o).run P w) e := by
  rw [ho] at he
  cases mx with
  | some m => simp [eff] at he
  | none =>
  simp only [eff] at he
  split at he
  · rename_i s1 s2 s3 s4 el hti
    obtain ⟨d, hd, _, rfl⟩ := (hok.ti _ _ hti).desc
    split at he
    · rename_i te hte
      have hT := hok.ti _ _ hte
      split at he
      · rename_i h sz len hx
        cases hb : Nat.beq sz te.size with
        | false => simp [hb] at he
        | true =>
          have hsz := Nat.eq_of_beq_eq_true hb
          simp only [hb, cond_true] at he
          split at he
          · rename_i cs hcs
            have hgo : ∀ (l m : Nat) (LO HI : Option Value), (∀ cap : Nat, len ≤ cap → (Instr.sliceBounds true len cap LO HI none).run P w = .ok (l, m, cap) w) → l ≤ m → m ≤ len →
                (∀ c ∈ cs, c) → ∀ ν'', Agree n ν ν'' → lo.map a.eval = LO → hi.map a.eval = HI → (execOp a.eval o).run P w = .ok (.value (CV.den ν'' (.slice h l sz (m - l)))) w := by
              intro l m LO HI hbd hlm hml hcs' ν'' hν hLO hHI
              have hx1 : a.eval x = CV.den ν'' (.slice h 0 sz len) := ev H hfr hnm hx (by simp) ν'' hν
              obtain ⟨hcap, hnil⟩ := lenOf_ok H hfr hnm hcs hcs' ν'' hν
              rw [CV.den] at hx1
              have hbd' := hbd ((ν'' h).cap - 0) (by omega)
              simp only [execOp, ho, hx1, hLO, hHI, Option.map_none]
              simp only [Instr.sliceAt, Sem.run_bind, run_underlying hd, Result.andThen_ok, Instr.slice, hbd', run_sizeOf_ok hT, Sem.run_pure]
              congr 2
              rw [CV.den]
              congr 1
              · cases hn : (ν'' h).nil with
                | true =>
                  simp
                | false =>
                  simp only [Bool.false_eq_true, if_false, Nat.sub_zero, Option.map_some]
                  by_cases hcl : (ν'' h).cap = l
                  · simp only [hcl, if_true]
                    by_cases hl0 : l = 0
                    · simp [hl0]
                    · have : ¬ l = 0 := hl0
                      simp
                  · simp only [hcl, if_false]
                    simp only [Addr.add]
                    by_cases hl0 : l * te.size = 0
                    · rw [if_pos hl0]
                      simp [hsz, hl0]
                    · rw [if_neg hl0]
                      by_cases hc0 : (ν'' h).cap = 0
                      · omega
                      · simp [hsz]
            split at he
            · rename_i lop hip
              split at he
              · rename_i k1 a1 k2 b1 hl1 hm1
                simp at he; subst he
                have c1 : 0 ≤ a1 := hc _ (by simp)
                have c2 : a1 ≤ b1 := hc _ (by simp)
                have c3 : b1 ≤ (len : Int) := hc _ (by simp)
                refine does_pure H hnm rfl fun ν'' hν => ?_
                have e1 : a.eval lop = .int k1 a1 := ev H hfr hnm hl1 (by simp) ν'' hν
                have e2 : a.eval hip = .int k2 b1 := ev H hfr hnm hm1 (by simp) ν'' hν
                refine hgo a1.toNat b1.toNat (some (.int k1 a1)) (some (.int k2 b1)) ?_ (by omega) (by omega) (fun c hcc => hc c (by simp [hcc])) ν'' hν (by simp [e1]) (by simp [e2])
                intro cap hcap
                have q1 := run_sliceBound (P := P) (w := w) H hfr hnm k2 b1 cap .sliceAcap ⟨by omega, by omega⟩
                have q2 := run_sliceBound (P := P) (w := w) H hfr hnm k1 a1 b1.toNat .sliceB ⟨by omega, by omega⟩
                simp [Instr.sliceBounds, q1, q2]
              · simp at he
            · rename_i lop
              split at he
              · rename_i k1 a1 hl1
                simp at he; subst he
                have c1 : 0 ≤ a1 := hc _ (by simp)
                have c2 : a1 ≤ (len : Int) := hc _ (by simp)
                refine does_pure H hnm rfl fun ν'' hν => ?_
                have e1 : a.eval lop = .int k1 a1 := ev H hfr hnm hl1 (by simp) ν'' hν
                refine hgo a1.toNat len (some (.int k1 a1)) none ?_ (by omega) (by omega) (fun c hcc => hc c (by simp [hcc])) ν'' hν (by simp [e1]) (by simp)
                intro cap hcap
                have q2 := run_sliceBound (P := P) (w := w) H hfr hnm k1 a1 len .sliceB ⟨by omega, by omega⟩
                simp [Instr.sliceBounds, q2]
              · simp at he
            · rename_i hip
              split at he
              · rename_i k2 b1 hm1
                simp at he; subst he
                have c1 : 0 ≤ b1 := hc _ (by simp)
                have c2 : b1 ≤ (len : Int) := hc _ (by simp)
                refine does_pure H hnm rfl fun ν'' hν => ?_
                have e1 : a.eval hip = .int k2 b1 := ev H hfr hnm hm1 (by simp) ν'' hν
                refine hgo 0 b1.toNat none (some (.int k2 b1)) ?_ (by omega) (by omega) (fun c hcc => hc c (by simp [hcc])) ν'' hν (by simp) (by simp [e1])
                intro cap hcap
                have q2 := run_sliceBound (P := P) (w := w) H hfr hnm k2 b1 cap .sliceAcap ⟨by omega, by omega⟩
                simp [Instr.sliceBounds, q2]
              · simp at he
            · simp at he; subst he
              refine does_pure H hnm rfl fun ν'' hν => ?_
              refine hgo 0 len none none ?_ (by omega) (by omega) (fun c hcc => hc c (by simp [hcc])) ν'' hν (by simp) (by simp)
              intro cap hcap
              simp [Instr.sliceBounds]
          · simp at he
      · simp at he
    · simp at he
  · simp at he

theorem does_indexAddr {T : TypeId} {x ix : Operand} {e : Eff} {o : Oper} (hok : TabOK P tab) (ho : o.op = .indexAddr T x ix) (he : eff tab (opv fr) hp nm o.op = some e) (hc : ∀ c ∈ e.conds, c) :
    Does P n ν V hp w fp nm ((execOp a.eval o).run P w) e := by
  rw [ho] at he
  simp only [eff] at he
  split at he
  · rename_i h l sz len k i hx hi
    split at he
    · rename_i s1 s2 s3 s4 el hti
      obtain ⟨d, hd, _, rfl⟩ := (hok.ti _ _ hti).desc
      split at he
      · rename_i te hte
        have hT := hok.ti _ _ hte
        cases hb : Nat.beq sz te.size with
        | false => simp [hb] at he
        | true =>
          have hsz := Nat.eq_of_beq_eq_true hb
          simp only [hb, cond_true] at he
          have hgo : ∀ (hcap : ∀ ν'', Agree n ν ν'' → (l = 0 ∨ (ν'' h).cap ≠ l) ∧ (ν'' h).nil = false), 0 ≤ i → i < len → ∀ ν'', Agree n ν ν'' → (execOp a.eval o).run P w = .ok (.value (CV.den ν'' (.ptr ⟨h, l + i.toNat, sz, 0⟩))) w := by
            intro hcap h0 h1 ν'' hν
            obtain ⟨q1, q2⟩ := hcap ν'' hν
            have hx1 : a.eval x = CV.den ν'' (.slice h l sz len) := ev H hfr hnm hx (by simp) ν'' hν
            have hi1 : a.eval ix = .int k i := ev H hfr hnm hi (by simp) ν'' hν
            rw [CV.den, q2] at hx1
            have hne : (if (ν'' h).cap = l then 0 else l * sz) = l * sz := by
              rcases q1 with q1 | q1
              · simp [q1]
              · rw [if_neg q1]
            simp only [Bool.false_eq_true, if_false, hne] at hx1
            simp only [execOp, ho, hx1, hi1, Instr.indexAt, asIntOf, Sem.run_bind, Sem.run_pure, Result.andThen_ok, run_underlying hd]
            simp only [h0, h1, and_self, if_true, run_sizeOf_ok hT, Sem.run_bind, Result.andThen_ok, Sem.run_pure]
            congr 3
            simp only [CV.den, PP.addr, Addr.add]
            congr 2
            split
            · rename_i hz
              simp only [Addr.mk.injEq, true_and, and_true]
              rw [Nat.add_mul, hsz, hz]; omega
            · simp only [Addr.mk.injEq, true_and, and_true]
              rw [Nat.add_mul, hsz]; omega
          split at he
          · rename_i cs hcs
            simp at he; subst he
            have c1 : 0 ≤ i := hc _ (by simp)
            have c2 : i < (len : Int) := hc _ (by simp)
            refine does_pure H hnm rfl ?_
            refine hgo (fun ν'' hν => ?_) c1 c2
            obtain ⟨q1, q2⟩ := lenOf_ok H hfr hnm hcs (fun c hcc => hc c (by simp [hcc])) ν'' hν
            refine ⟨by omega, ?_⟩
            cases hn : (ν'' h).nil with
            | false => rfl
            | true => rcases q2 hn with q | q <;> omega
          · split at he
            · rename_i T' cl hh
              split at he
              · rename_i hl0
                cases hb2 : Nat.beq cl.length (len * sz) with
                | false => simp [hb2] at he
                | true =>
                  simp only [hb2, cond_true, Option.some.injEq] at he
                  subst he
                  have c1 : 0 ≤ i := hc _ (by simp)
                  have c2 : i < (len : Int) := hc _ (by simp)
                  refine does_pure H hnm rfl ?_
                  have := hgo (fun ν'' hν => ⟨.inl rfl, (H.sat ν'' hν _ _ hh).1⟩) c1 c2
                  intro ν'' hν
                  have := this ν'' hν
                  rw [Nat.zero_add] at this
                  exact this
              · simp at he
            · simp at he
      · simp at he
    · simp at he
  · rename_i ph pi psz pf k i hx hi
    split at he
    · rename_i s1 s2 s3 s4 len el hti
      obtain ⟨d, hd, _, rfl⟩ := (hok.ti _ _ hti).desc
      split at he
      · rename_i te hte
        have hT := hok.ti _ _ hte
        simp at he; subst he
        have c1 : 0 ≤ i := hc _ (by simp)
        have c2 : i < (len : Int) := hc _ (by simp)
        refine does_pure H hnm rfl fun ν'' hν => ?_
        have hx1 : a.eval x = .pointer (some (PP.addr ν'' ⟨ph, pi, psz, pf⟩)) := ev H hfr hnm hx (by simp) ν'' hν
        have hi1 : a.eval ix = .int k i := ev H hfr hnm hi (by simp) ν'' hν
        simp only [execOp, ho, hx1, hi1, Instr.indexAt, asIntOf, Sem.run_bind, Sem.run_pure, Result.andThen_ok, run_underlying hd, Instr.sureAddr]
        simp only [c1, c2, and_self, if_true, run_sizeOf_ok hT, Sem.run_bind, Result.andThen_ok, Sem.run_pure]
        congr 3
        simp only [CV.den, PP.addr, Addr.add]
        congr 2
        split <;> simp_all [Nat.add_assoc]
      · simp at he
    · simp at he
  · simp at he
end
end Go.Sy
