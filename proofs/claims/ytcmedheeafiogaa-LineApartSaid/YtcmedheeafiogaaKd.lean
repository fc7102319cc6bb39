/-
  The types of the program as the walk reads them.
-/
import Derived.Test.YtcmedheeafiogaaProg
import Derived.Laws.StructEq
import Derived.ChangeKeysEq
import Derived.Test.YtcmedheeafiogaaKc
namespace Go.Proofs.Ytcmedheeafiogaa
open Go.Sy
set_option linter.unusedVariables false
set_option linter.unusedSimpArgs false
theorem eqCells_ints : ∀ {l m : List CV} {t : Bool}, eqCells l m = some t → ∃ zs : List (IntKind × Int × Int), l = zs.map (fun z => .int z.1 z.2.1) ∧ m = zs.map (fun z => .int z.1 z.2.2) ∧ t = zs.all (fun z => decide (z.2.1 = z.2.2))
  | [], [], t, h => by simp [eqCells] at h; exact ⟨[], rfl, rfl, by simp [← h]⟩
  | .int k a :: r, .int k' b :: s, t, h => by
    simp only [eqCells] at h
    cases hk : kindB k k' with
    | false => simp [hk] at h
    | true =>
      simp only [hk, cond_true] at h
      split at h
      · rename_i t' ht'
        simp at h
        obtain ⟨zs, h1, h2, h3⟩ := eqCells_ints ht'
        refine ⟨(k, a, b) :: zs, by simp [h1], by simp [h2, kindB_eq hk], ?_⟩
        rw [← h, h3]; simp
      · simp at h
  | [], _ :: _, _, h => by simp [eqCells] at h
  | .int _ _ :: _, [], _, h => by simp [eqCells] at h
theorem part3 (xs : Array Value) (off : Nat) (k : IntKind) (n : Int) (w : World) (h : xs[off]? = some (.int k n)) : (part 3 xs off).run Try.prog w = .ok (.int k n) w := by
  simp [part, isAgg, run_underlying Try.underlying3, h]
theorem eqStep {d : Nat} {f : Field} {fs : List Field} {xs ys : Array Value} {k : IntKind} {a b : Int} {off : Nat} (w : World) (hn : f.name ≠ "_") (ht : f.type = 3) (ho : f.offset = off) (hx : xs[off]? = some (.int k a)) (hy : ys[off]? = some (.int k b)) :
    (Op.eqFields (d + 1) xs ys (f :: fs)).run Try.prog w = if a = b then (Op.eqFields (d + 1) xs ys fs).run Try.prog w else .ok false w := by
  rw [Op.eqFields, if_pos hn, ht, ho]
  simp only [Sem.run_bind, part3 xs off k a w hx, part3 ys off k b w hy, Result.andThen_ok, run_equalIn_int w d 3 k .i64 a b Try.underlying3]
  by_cases e : a = b
  · subst e; simp
  · simp [e]
theorem hold30 : Try.prog.stoodInHeld 30 = false := by kernel_rfl
theorem fields30 : (Try.prog.fieldsOf 30).toList.map (fun f => (f.name, f.type, f.offset)) = [("Left", 3, 0), ("Top", 3, 1), ("Right", 3, 2), ("Bottom", 3, 3)] := by kernel_rfl
theorem und30 : Try.prog.underlying 30 = some (.struct (Try.prog.fieldsOf 30)) := by kernel_rfl
theorem hold33 : Try.prog.stoodInHeld 33 = false := by kernel_rfl
theorem fields33 : (Try.prog.fieldsOf 33).toList.map (fun f => (f.name, f.type, f.offset)) = [("From", 3, 0), ("To", 3, 1)] := by kernel_rfl
theorem und33 : Try.prog.underlying 33 = some (.struct (Try.prog.fieldsOf 33)) := by kernel_rfl
theorem eq30 : EqOK Try.prog 30 4 := by
  refine ⟨by kernel_rfl, fun w ν l m t hl h => ?_⟩
  obtain ⟨zs, rfl, rfl, rfl⟩ := eqCells_ints h
  match zs, hl with
  | [(k1, a1, b1), (k2, a2, b2), (k3, a3, b3), (k4, a4, b4)], _ =>
    rw [run_equalIn_agg w 9999 30 _ _ und30 hold30]
    have hf := fields30
    generalize (Try.prog.fieldsOf 30).toList = fs at hf
    have hlen : fs.length = 4 := by have := congrArg List.length hf; simpa using this
    match fs, hlen, hf with
    | [f1, f2, f3, f4], _, hf =>
      simp only [List.map_cons, List.map_nil, List.cons.injEq, Prod.mk.injEq, and_true] at hf
      obtain ⟨⟨n1, t1, o1⟩, ⟨n2, t2, o2⟩, ⟨n3, t3, o3⟩, ⟨n4, t4, o4⟩⟩ := hf
      rw [eqStep (k := k1) (a := a1) (b := b1) w (by rw [n1]; decide) t1 o1 rfl rfl, eqStep (k := k2) (a := a2) (b := b2) w (by rw [n2]; decide) t2 o2 rfl rfl, eqStep (k := k3) (a := a3) (b := b3) w (by rw [n3]; decide) t3 o3 rfl rfl, eqStep (k := k4) (a := a4) (b := b4) w (by rw [n4]; decide) t4 o4 rfl rfl]
      by_cases h1 : a1 = b1 <;> by_cases h2 : a2 = b2 <;> by_cases h3 : a3 = b3 <;> by_cases h4 : a4 = b4 <;> simp [h1, h2, h3, h4, Op.eqFields]
theorem eq33 : EqOK Try.prog 33 2 := by
  refine ⟨by kernel_rfl, fun w ν l m t hl h => ?_⟩
  obtain ⟨zs, rfl, rfl, rfl⟩ := eqCells_ints h
  match zs, hl with
  | [(k1, a1, b1), (k2, a2, b2)], _ =>
    rw [run_equalIn_agg w 9999 33 _ _ und33 hold33]
    have hf := fields33
    generalize (Try.prog.fieldsOf 33).toList = fs at hf
    have hlen : fs.length = 2 := by have := congrArg List.length hf; simpa using this
    match fs, hlen, hf with
    | [f1, f2], _, hf =>
      simp only [List.map_cons, List.map_nil, List.cons.injEq, Prod.mk.injEq, and_true] at hf
      obtain ⟨⟨n1, t1, o1⟩, ⟨n2, t2, o2⟩⟩ := hf
      rw [eqStep (k := k1) (a := a1) (b := b1) w (by rw [n1]; decide) t1 o1 rfl rfl, eqStep (k := k2) (a := a2) (b := b2) w (by rw [n2]; decide) t2 o2 rfl rfl]
      by_cases h1 : a1 = b1 <;> by_cases h2 : a2 = b2 <;> simp [h1, h2, Op.eqFields]
def eqsF (T : Nat) : Option Nat := match Nat.beq T 30 with
  | true => some 4
  | false => match Nat.beq T 33 with
    | true => some 2
    | false => none
theorem eqsF_ok : ∀ T sz, eqsF T = some sz → EqOK Try.prog T sz := by
  intro T sz h
  unfold eqsF at h
  cases h1 : Nat.beq T 30 with
  | true => rw [h1] at h; simp at h; subst h; rw [Nat.eq_of_beq_eq_true h1]; exact eq30
  | false =>
    rw [h1] at h
    cases h2 : Nat.beq T 33 with
    | true => rw [h2] at h; simp at h; subst h; rw [Nat.eq_of_beq_eq_true h2]; exact eq33
    | false => rw [h2] at h; simp at h
end Go.Proofs.Ytcmedheeafiogaa

namespace Go.Sy
set_option linter.unusedVariables false
set_option linter.unusedSimpArgs false

inductive BT where
  | leaf
  | node (k : Nat) (v : TI) (l r : BT)
def BT.get : BT → Nat → Option TI
  | .leaf, _ => none
  | .node k v l r, t => match Nat.beq k t with
    | true => some v
    | false => match Nat.blt t k with
      | true => l.get t
      | false => r.get t
def BT.All (p : Nat → TI → Prop) : BT → Prop
  | .leaf => True
  | .node k v l r => p k v ∧ l.All p ∧ r.All p
theorem BT.get_ok {p : Nat → TI → Prop} : ∀ {b : BT}, b.All p → ∀ {t : Nat} {v : TI}, b.get t = some v → p t v
  | .leaf, _, t, v, h => by simp [BT.get] at h
  | .node k u l r, ha, t, v, h => by
    simp only [BT.get] at h
    split at h
    · rename_i hb
      have := Nat.eq_of_beq_eq_true hb
      subst this
      simp at h
      subst h
      exact ha.1
    · split at h
      · exact BT.get_ok ha.2.1 h
      · exact BT.get_ok ha.2.2 h

section
variable {P : Program} {T : Nat} {z : Value} {sz by_ : Nat} {zero : List CV}
theorem tiok_info {agg : Bool} {k : TK} (hi : (P.info? T).map (fun i => (i.zero, i.size, i.bytes)) = some (some z, sz, by_)) (hz : ∀ p, zval ⟨sz, by_, agg, zero, k⟩ = some p → ∀ ν, p.den ν = z) :
    ∃ i, P.info? T = some i ∧ i.size = (⟨sz, by_, agg, zero, k⟩ : TI).size ∧ i.bytes = (⟨sz, by_, agg, zero, k⟩ : TI).bytes ∧ ∀ p, zval ⟨sz, by_, agg, zero, k⟩ = some p → ∀ ν, i.zero = some (p.den ν) := by
  obtain ⟨i, h1, h2⟩ := Option.map_eq_some_iff.1 hi
  simp only [Prod.mk.injEq] at h2
  exact ⟨i, h1, h2.2.1, h2.2.2, fun p hp ν => by rw [hz p hp ν]; exact h2.1⟩
theorem tiok_strct {fields : Array Field} {fs pls : List (Nat × Nat)} (hu : P.underlying T = some (.struct fields)) (hi : (P.info? T).map (fun i => (i.zero, i.size, i.bytes)) = some (some z, sz, by_))
    (hm : fields.toList.mapM (fun f => (P.info? f.type).map fun i => (f.offset, i.size)) = some pls) (hf : fields.toList.map (fun f => (f.offset, f.type)) = fs)
    (hz : ∀ p, zval ⟨sz, by_, true, zero, .strct fs pls⟩ = some p → ∀ ν, p.den ν = z) (hl : zero.length = sz) : TIOK P T ⟨sz, by_, true, zero, .strct fs pls⟩ :=
  ⟨tiok_info hi hz, hl, _, hu, rfl, fields, rfl, hm, hf⟩
theorem tiok_arr {n e : Nat} (hu : P.underlying T = some (.array n e)) (hi : (P.info? T).map (fun i => (i.zero, i.size, i.bytes)) = some (some z, sz, by_))
    (hz : ∀ p, zval ⟨sz, by_, true, zero, .arr n e⟩ = some p → ∀ ν, p.den ν = z) (hl : zero.length = sz) : TIOK P T ⟨sz, by_, true, zero, .arr n e⟩ :=
  ⟨tiok_info hi hz, hl, _, hu, rfl, rfl⟩
theorem tiok_slc {e : Nat} (hu : P.underlying T = some (.slice e)) (hi : (P.info? T).map (fun i => (i.zero, i.size, i.bytes)) = some (some z, sz, by_))
    (hz : ∀ p, zval ⟨sz, by_, false, zero, .slc e⟩ = some p → ∀ ν, p.den ν = z) (hl : zero.length = sz) : TIOK P T ⟨sz, by_, false, zero, .slc e⟩ :=
  ⟨tiok_info hi hz, hl, _, hu, rfl, rfl⟩
theorem tiok_ptr {e : Nat} (hu : P.underlying T = some (.pointer e)) (hi : (P.info? T).map (fun i => (i.zero, i.size, i.bytes)) = some (some z, sz, by_))
    (hz : ∀ p, zval ⟨sz, by_, false, zero, .ptr⟩ = some p → ∀ ν, p.den ν = z) (hl : zero.length = sz) : TIOK P T ⟨sz, by_, false, zero, .ptr⟩ :=
  ⟨tiok_info hi hz, hl, _, hu, rfl, _, rfl⟩
theorem tiok_num {k : IntKind} (hu : P.underlying T = some (.int k)) (hi : (P.info? T).map (fun i => (i.zero, i.size, i.bytes)) = some (some z, sz, by_))
    (hz : ∀ p, zval ⟨sz, by_, false, zero, .num k⟩ = some p → ∀ ν, p.den ν = z) (hl : zero.length = sz) : TIOK P T ⟨sz, by_, false, zero, .num k⟩ :=
  ⟨tiok_info hi hz, hl, _, hu, rfl, rfl⟩
theorem tiok_bool (hu : P.underlying T = some .bool) (hi : (P.info? T).map (fun i => (i.zero, i.size, i.bytes)) = some (some z, sz, by_))
    (hz : ∀ p, zval ⟨sz, by_, false, zero, .bool⟩ = some p → ∀ ν, p.den ν = z) (hl : zero.length = sz) : TIOK P T ⟨sz, by_, false, zero, .bool⟩ :=
  ⟨tiok_info hi hz, hl, _, hu, rfl, rfl⟩
theorem tiok_func {a b : Array TypeId} {v : Bool} (hu : P.underlying T = some (.func a b v)) (hi : (P.info? T).map (fun i => (i.zero, i.size, i.bytes)) = some (some z, sz, by_))
    (hz : ∀ p, zval ⟨sz, by_, false, zero, .basic⟩ = some p → ∀ ν, p.den ν = z) (hl : zero.length = sz) : TIOK P T ⟨sz, by_, false, zero, .basic⟩ :=
  ⟨tiok_info hi hz, hl, _, hu, rfl, trivial⟩
end
end Go.Sy
namespace Go.Proofs.Ytcmedheeafiogaa
open Go.Sy

def ti2 : TI := ⟨1, 8, false, [(.int .i64 0)], .num .i64⟩
theorem tiok2 : TIOK Try.prog 2 ti2 := tiok_num (z := .int .i64 0) Try.underlying2 (by kernel_rfl) (fun p h => by cases h; exact fun _ => rfl) rfl
def ti3 : TI := ⟨1, 8, false, [(.int .i64 0)], .num .i64⟩
theorem tiok3 : TIOK Try.prog 3 ti3 := tiok_num (z := .int .i64 0) Try.underlying3 (by kernel_rfl) (fun p h => by cases h; exact fun _ => rfl) rfl
def ti4 : TI := ⟨1, 1, false, [(.bool .F)], .bool⟩
theorem tiok4 : TIOK Try.prog 4 ti4 := tiok_bool (z := .bool false) Try.underlying4 (by kernel_rfl) (fun p h => by cases h; exact fun _ => rfl) rfl
def ti5 : TI := ⟨1, 1, false, [(.int .u8 0)], .num .u8⟩
theorem tiok5 : TIOK Try.prog 5 ti5 := tiok_num (z := .int .u8 0) Try.underlying5 (by kernel_rfl) (fun p h => by cases h; exact fun _ => rfl) rfl
def ti21 : TI := ⟨1, 4, false, [(.int .i32 0)], .num .i32⟩
theorem tiok21 : TIOK Try.prog 21 ti21 := tiok_num (z := .int .i32 0) Try.underlying21 (by kernel_rfl) (fun p h => by cases h; exact fun _ => rfl) rfl
def ti22 : TI := ⟨1, 24, false, [.nils], .slc 108⟩
theorem tiok22 : TIOK Try.prog 22 ti22 := tiok_slc (z := .slice none 0 0) Try.underlying22 (by kernel_rfl) (fun p h => by cases h; exact fun _ => rfl) rfl
def ti23 : TI := ⟨7, 56, true, [(.int .i64 0), (.int .i64 0), (.int .i64 0), (.int .i64 0), (.int .i64 0), (.int .i64 0), (.int .i64 0)], .strct [(0, 3), (1, 3), (2, 3), (3, 3), (4, 3), (5, 3), (6, 3)] [(0, 1), (1, 1), (2, 1), (3, 1), (4, 1), (5, 1), (6, 1)]⟩
theorem tiok23 : TIOK Try.prog 23 ti23 := tiok_strct (z := .agg #[.int .i64 0, .int .i64 0, .int .i64 0, .int .i64 0, .int .i64 0, .int .i64 0, .int .i64 0]) Try.underlying23 (by kernel_rfl) (by kernel_rfl) (by kernel_rfl) (fun p h => by cases h; exact fun _ => rfl) rfl
def ti24 : TI := ⟨7, 56, true, [(.int .i64 0), (.int .i64 0), (.int .i64 0), (.int .i64 0), (.int .i64 0), (.int .i64 0), (.int .i64 0)], .strct [(0, 3), (1, 3), (2, 3), (3, 3), (4, 3), (5, 3), (6, 3)] [(0, 1), (1, 1), (2, 1), (3, 1), (4, 1), (5, 1), (6, 1)]⟩
theorem tiok24 : TIOK Try.prog 24 ti24 := tiok_strct (z := .agg #[.int .i64 0, .int .i64 0, .int .i64 0, .int .i64 0, .int .i64 0, .int .i64 0, .int .i64 0]) Try.underlying24 (by kernel_rfl) (by kernel_rfl) (by kernel_rfl) (fun p h => by cases h; exact fun _ => rfl) rfl
def ti25 : TI := ⟨1, 8, false, [.nilp], .ptr⟩
theorem tiok25 : TIOK Try.prog 25 ti25 := tiok_ptr (z := .pointer none) Try.underlying25 (by kernel_rfl) (fun p h => by cases h; exact fun _ => rfl) rfl
def ti26 : TI := ⟨1, 8, false, [.nilf], .basic⟩
theorem tiok26 : TIOK Try.prog 26 ti26 := tiok_func (z := .nilFunc) Try.underlying26 (by kernel_rfl) (fun p h => by cases h; exact fun _ => rfl) rfl
def ti27 : TI := ⟨1, 8, false, [.nilf], .basic⟩
theorem tiok27 : TIOK Try.prog 27 ti27 := tiok_func (z := .nilFunc) Try.underlying27 (by kernel_rfl) (fun p h => by cases h; exact fun _ => rfl) rfl
def ti28 : TI := ⟨1, 8, false, [.nilf], .basic⟩
theorem tiok28 : TIOK Try.prog 28 ti28 := tiok_func (z := .nilFunc) Try.underlying28 (by kernel_rfl) (fun p h => by cases h; exact fun _ => rfl) rfl
def ti29 : TI := ⟨4, 32, true, [(.int .i64 0), (.int .i64 0), (.int .i64 0), (.int .i64 0)], .strct [(0, 3), (1, 3), (2, 3), (3, 3)] [(0, 1), (1, 1), (2, 1), (3, 1)]⟩
theorem tiok29 : TIOK Try.prog 29 ti29 := tiok_strct (z := .agg #[.int .i64 0, .int .i64 0, .int .i64 0, .int .i64 0]) Try.underlying29 (by kernel_rfl) (by kernel_rfl) (by kernel_rfl) (fun p h => by cases h; exact fun _ => rfl) rfl
def ti30 : TI := ⟨4, 32, true, [(.int .i64 0), (.int .i64 0), (.int .i64 0), (.int .i64 0)], .strct [(0, 3), (1, 3), (2, 3), (3, 3)] [(0, 1), (1, 1), (2, 1), (3, 1)]⟩
theorem tiok30 : TIOK Try.prog 30 ti30 := tiok_strct (z := .agg #[.int .i64 0, .int .i64 0, .int .i64 0, .int .i64 0]) Try.underlying30 (by kernel_rfl) (by kernel_rfl) (by kernel_rfl) (fun p h => by cases h; exact fun _ => rfl) rfl
def ti31 : TI := ⟨1, 8, false, [.nilf], .basic⟩
theorem tiok31 : TIOK Try.prog 31 ti31 := tiok_func (z := .nilFunc) Try.underlying31 (by kernel_rfl) (fun p h => by cases h; exact fun _ => rfl) rfl
def ti32 : TI := ⟨2, 16, true, [(.int .i64 0), (.int .i64 0)], .strct [(0, 3), (1, 3)] [(0, 1), (1, 1)]⟩
theorem tiok32 : TIOK Try.prog 32 ti32 := tiok_strct (z := .agg #[.int .i64 0, .int .i64 0]) Try.underlying32 (by kernel_rfl) (by kernel_rfl) (by kernel_rfl) (fun p h => by cases h; exact fun _ => rfl) rfl
def ti33 : TI := ⟨2, 16, true, [(.int .i64 0), (.int .i64 0)], .strct [(0, 3), (1, 3)] [(0, 1), (1, 1)]⟩
theorem tiok33 : TIOK Try.prog 33 ti33 := tiok_strct (z := .agg #[.int .i64 0, .int .i64 0]) Try.underlying33 (by kernel_rfl) (by kernel_rfl) (by kernel_rfl) (fun p h => by cases h; exact fun _ => rfl) rfl
def ti34 : TI := ⟨7, 56, true, [(.int .i64 0), (.int .i64 0), (.int .i64 0), (.int .i64 0), (.int .i64 0), (.int .i64 0), (.int .i64 0)], .strct [(0, 3), (1, 3), (2, 33), (4, 3), (5, 3), (6, 3)] [(0, 1), (1, 1), (2, 2), (4, 1), (5, 1), (6, 1)]⟩
theorem tiok34 : TIOK Try.prog 34 ti34 := tiok_strct (z := .agg #[.int .i64 0, .int .i64 0, .int .i64 0, .int .i64 0, .int .i64 0, .int .i64 0, .int .i64 0]) Try.underlying34 (by kernel_rfl) (by kernel_rfl) (by kernel_rfl) (fun p h => by cases h; exact fun _ => rfl) rfl
def ti35 : TI := ⟨7, 56, true, [(.int .i64 0), (.int .i64 0), (.int .i64 0), (.int .i64 0), (.int .i64 0), (.int .i64 0), (.int .i64 0)], .strct [(0, 3), (1, 3), (2, 33), (4, 3), (5, 3), (6, 3)] [(0, 1), (1, 1), (2, 2), (4, 1), (5, 1), (6, 1)]⟩
theorem tiok35 : TIOK Try.prog 35 ti35 := tiok_strct (z := .agg #[.int .i64 0, .int .i64 0, .int .i64 0, .int .i64 0, .int .i64 0, .int .i64 0, .int .i64 0]) Try.underlying35 (by kernel_rfl) (by kernel_rfl) (by kernel_rfl) (fun p h => by cases h; exact fun _ => rfl) rfl
def ti36 : TI := ⟨1, 8, false, [.nilf], .basic⟩
theorem tiok36 : TIOK Try.prog 36 ti36 := tiok_func (z := .nilFunc) Try.underlying36 (by kernel_rfl) (fun p h => by cases h; exact fun _ => rfl) rfl
def ti37 : TI := ⟨1, 8, false, [.nilf], .basic⟩
theorem tiok37 : TIOK Try.prog 37 ti37 := tiok_func (z := .nilFunc) Try.underlying37 (by kernel_rfl) (fun p h => by cases h; exact fun _ => rfl) rfl
def ti38 : TI := ⟨1, 24, false, [.nils], .slc 48⟩
theorem tiok38 : TIOK Try.prog 38 ti38 := tiok_slc (z := .slice none 0 0) Try.underlying38 (by kernel_rfl) (fun p h => by cases h; exact fun _ => rfl) rfl
def ti39 : TI := ⟨1, 8, false, [.nilf], .basic⟩
theorem tiok39 : TIOK Try.prog 39 ti39 := tiok_func (z := .nilFunc) Try.underlying39 (by kernel_rfl) (fun p h => by cases h; exact fun _ => rfl) rfl
def ti40 : TI := ⟨1, 8, false, [.nilf], .basic⟩
theorem tiok40 : TIOK Try.prog 40 ti40 := tiok_func (z := .nilFunc) Try.underlying40 (by kernel_rfl) (fun p h => by cases h; exact fun _ => rfl) rfl
def ti41 : TI := ⟨1, 24, false, [.nils], .slc 46⟩
theorem tiok41 : TIOK Try.prog 41 ti41 := tiok_slc (z := .slice none 0 0) Try.underlying41 (by kernel_rfl) (fun p h => by cases h; exact fun _ => rfl) rfl
def ti42 : TI := ⟨1, 8, false, [.nilf], .basic⟩
theorem tiok42 : TIOK Try.prog 42 ti42 := tiok_func (z := .nilFunc) Try.underlying42 (by kernel_rfl) (fun p h => by cases h; exact fun _ => rfl) rfl
def ti43 : TI := ⟨1, 24, false, [.nils], .slc 57⟩
theorem tiok43 : TIOK Try.prog 43 ti43 := tiok_slc (z := .slice none 0 0) Try.underlying43 (by kernel_rfl) (fun p h => by cases h; exact fun _ => rfl) rfl
def ti44 : TI := ⟨1, 8, false, [.nilf], .basic⟩
theorem tiok44 : TIOK Try.prog 44 ti44 := tiok_func (z := .nilFunc) Try.underlying44 (by kernel_rfl) (fun p h => by cases h; exact fun _ => rfl) rfl
def ti45 : TI := ⟨6, 48, true, [(.int .i64 0), (.int .i64 0), (.int .i64 0), (.int .i64 0), (.int .i64 0), (.int .i64 0)], .strct [(0, 30), (4, 3), (5, 3)] [(0, 4), (4, 1), (5, 1)]⟩
theorem tiok45 : TIOK Try.prog 45 ti45 := tiok_strct (z := .agg #[.int .i64 0, .int .i64 0, .int .i64 0, .int .i64 0, .int .i64 0, .int .i64 0]) Try.underlying45 (by kernel_rfl) (by kernel_rfl) (by kernel_rfl) (fun p h => by cases h; exact fun _ => rfl) rfl
def ti46 : TI := ⟨6, 48, true, [(.int .i64 0), (.int .i64 0), (.int .i64 0), (.int .i64 0), (.int .i64 0), (.int .i64 0)], .strct [(0, 30), (4, 3), (5, 3)] [(0, 4), (4, 1), (5, 1)]⟩
theorem tiok46 : TIOK Try.prog 46 ti46 := tiok_strct (z := .agg #[.int .i64 0, .int .i64 0, .int .i64 0, .int .i64 0, .int .i64 0, .int .i64 0]) Try.underlying46 (by kernel_rfl) (by kernel_rfl) (by kernel_rfl) (fun p h => by cases h; exact fun _ => rfl) rfl
def ti47 : TI := ⟨2, 16, true, [(.int .i64 0), (.int .i64 0)], .strct [(0, 3), (1, 3)] [(0, 1), (1, 1)]⟩
theorem tiok47 : TIOK Try.prog 47 ti47 := tiok_strct (z := .agg #[.int .i64 0, .int .i64 0]) Try.underlying47 (by kernel_rfl) (by kernel_rfl) (by kernel_rfl) (fun p h => by cases h; exact fun _ => rfl) rfl
def ti48 : TI := ⟨2, 16, true, [(.int .i64 0), (.int .i64 0)], .strct [(0, 3), (1, 3)] [(0, 1), (1, 1)]⟩
theorem tiok48 : TIOK Try.prog 48 ti48 := tiok_strct (z := .agg #[.int .i64 0, .int .i64 0]) Try.underlying48 (by kernel_rfl) (by kernel_rfl) (by kernel_rfl) (fun p h => by cases h; exact fun _ => rfl) rfl
def ti49 : TI := ⟨1, 8, false, [.nilf], .basic⟩
theorem tiok49 : TIOK Try.prog 49 ti49 := tiok_func (z := .nilFunc) Try.underlying49 (by kernel_rfl) (fun p h => by cases h; exact fun _ => rfl) rfl
def ti50 : TI := ⟨1, 8, false, [.nilf], .basic⟩
theorem tiok50 : TIOK Try.prog 50 ti50 := tiok_func (z := .nilFunc) Try.underlying50 (by kernel_rfl) (fun p h => by cases h; exact fun _ => rfl) rfl
def ti51 : TI := ⟨1, 8, false, [.nilf], .basic⟩
theorem tiok51 : TIOK Try.prog 51 ti51 := tiok_func (z := .nilFunc) Try.underlying51 (by kernel_rfl) (fun p h => by cases h; exact fun _ => rfl) rfl
def ti52 : TI := ⟨1, 8, false, [.nilf], .basic⟩
theorem tiok52 : TIOK Try.prog 52 ti52 := tiok_func (z := .nilFunc) Try.underlying52 (by kernel_rfl) (fun p h => by cases h; exact fun _ => rfl) rfl
def ti53 : TI := ⟨1, 8, false, [.nilf], .basic⟩
theorem tiok53 : TIOK Try.prog 53 ti53 := tiok_func (z := .nilFunc) Try.underlying53 (by kernel_rfl) (fun p h => by cases h; exact fun _ => rfl) rfl
def ti54 : TI := ⟨1, 8, false, [.nilp], .ptr⟩
theorem tiok54 : TIOK Try.prog 54 ti54 := tiok_ptr (z := .pointer none) Try.underlying54 (by kernel_rfl) (fun p h => by cases h; exact fun _ => rfl) rfl
def ti55 : TI := ⟨1, 8, false, [.nilf], .basic⟩
theorem tiok55 : TIOK Try.prog 55 ti55 := tiok_func (z := .nilFunc) Try.underlying55 (by kernel_rfl) (fun p h => by cases h; exact fun _ => rfl) rfl
def ti56 : TI := ⟨1, 8, false, [.nilf], .basic⟩
theorem tiok56 : TIOK Try.prog 56 ti56 := tiok_func (z := .nilFunc) Try.underlying56 (by kernel_rfl) (fun p h => by cases h; exact fun _ => rfl) rfl
def ti57 : TI := ⟨2, 16, true, [(.int .i64 0), (.int .i64 0)], .strct [(0, 3), (1, 3)] [(0, 1), (1, 1)]⟩
theorem tiok57 : TIOK Try.prog 57 ti57 := tiok_strct (z := .agg #[.int .i64 0, .int .i64 0]) Try.underlying57 (by kernel_rfl) (by kernel_rfl) (by kernel_rfl) (fun p h => by cases h; exact fun _ => rfl) rfl
def ti59 : TI := ⟨1, 8, false, [.nilf], .basic⟩
theorem tiok59 : TIOK Try.prog 59 ti59 := tiok_func (z := .nilFunc) Try.underlying59 (by kernel_rfl) (fun p h => by cases h; exact fun _ => rfl) rfl
def ti60 : TI := ⟨1, 8, false, [.nilf], .basic⟩
theorem tiok60 : TIOK Try.prog 60 ti60 := tiok_func (z := .nilFunc) Try.underlying60 (by kernel_rfl) (fun p h => by cases h; exact fun _ => rfl) rfl
def ti61 : TI := ⟨1, 8, false, [.nilf], .basic⟩
theorem tiok61 : TIOK Try.prog 61 ti61 := tiok_func (z := .nilFunc) Try.underlying61 (by kernel_rfl) (fun p h => by cases h; exact fun _ => rfl) rfl
def ti62 : TI := ⟨1, 8, false, [.nilf], .basic⟩
theorem tiok62 : TIOK Try.prog 62 ti62 := tiok_func (z := .nilFunc) Try.underlying62 (by kernel_rfl) (fun p h => by cases h; exact fun _ => rfl) rfl
def ti64 : TI := ⟨1, 8, false, [.nilf], .basic⟩
theorem tiok64 : TIOK Try.prog 64 ti64 := tiok_func (z := .nilFunc) Try.underlying64 (by kernel_rfl) (fun p h => by cases h; exact fun _ => rfl) rfl
def ti65 : TI := ⟨1, 8, false, [.nilf], .basic⟩
theorem tiok65 : TIOK Try.prog 65 ti65 := tiok_func (z := .nilFunc) Try.underlying65 (by kernel_rfl) (fun p h => by cases h; exact fun _ => rfl) rfl
def ti66 : TI := ⟨1, 8, false, [.nilf], .basic⟩
theorem tiok66 : TIOK Try.prog 66 ti66 := tiok_func (z := .nilFunc) Try.underlying66 (by kernel_rfl) (fun p h => by cases h; exact fun _ => rfl) rfl
def ti67 : TI := ⟨1, 8, false, [.nilf], .basic⟩
theorem tiok67 : TIOK Try.prog 67 ti67 := tiok_func (z := .nilFunc) Try.underlying67 (by kernel_rfl) (fun p h => by cases h; exact fun _ => rfl) rfl
def ti68 : TI := ⟨1, 8, false, [.nilf], .basic⟩
theorem tiok68 : TIOK Try.prog 68 ti68 := tiok_func (z := .nilFunc) Try.underlying68 (by kernel_rfl) (fun p h => by cases h; exact fun _ => rfl) rfl
def ti69 : TI := ⟨4, 32, true, [(.int .i64 0), (.int .i64 0), (.int .i64 0), (.int .i64 0)], .arr 4 3⟩
theorem tiok69 : TIOK Try.prog 69 ti69 := tiok_arr (z := .agg #[.int .i64 0, .int .i64 0, .int .i64 0, .int .i64 0]) Try.underlying69 (by kernel_rfl) (fun p h => by cases h; exact fun _ => rfl) rfl
def ti70 : TI := ⟨4, 32, true, [(.int .i64 0), (.int .i64 0), (.int .i64 0), (.int .i64 0)], .arr 4 3⟩
theorem tiok70 : TIOK Try.prog 70 ti70 := tiok_arr (z := .agg #[.int .i64 0, .int .i64 0, .int .i64 0, .int .i64 0]) Try.underlying70 (by kernel_rfl) (fun p h => by cases h; exact fun _ => rfl) rfl
def ti71 : TI := ⟨1, 8, false, [.nilf], .basic⟩
theorem tiok71 : TIOK Try.prog 71 ti71 := tiok_func (z := .nilFunc) Try.underlying71 (by kernel_rfl) (fun p h => by cases h; exact fun _ => rfl) rfl
def ti72 : TI := ⟨1, 24, false, [.nils], .slc 90⟩
theorem tiok72 : TIOK Try.prog 72 ti72 := tiok_slc (z := .slice none 0 0) Try.underlying72 (by kernel_rfl) (fun p h => by cases h; exact fun _ => rfl) rfl
def ti73 : TI := ⟨1, 8, false, [.nilf], .basic⟩
theorem tiok73 : TIOK Try.prog 73 ti73 := tiok_func (z := .nilFunc) Try.underlying73 (by kernel_rfl) (fun p h => by cases h; exact fun _ => rfl) rfl
def ti74 : TI := ⟨1, 8, false, [.nilf], .basic⟩
theorem tiok74 : TIOK Try.prog 74 ti74 := tiok_func (z := .nilFunc) Try.underlying74 (by kernel_rfl) (fun p h => by cases h; exact fun _ => rfl) rfl
def ti75 : TI := ⟨1, 24, false, [.nils], .slc 24⟩
theorem tiok75 : TIOK Try.prog 75 ti75 := tiok_slc (z := .slice none 0 0) Try.underlying75 (by kernel_rfl) (fun p h => by cases h; exact fun _ => rfl) rfl
def ti76 : TI := ⟨1, 8, false, [.nilf], .basic⟩
theorem tiok76 : TIOK Try.prog 76 ti76 := tiok_func (z := .nilFunc) Try.underlying76 (by kernel_rfl) (fun p h => by cases h; exact fun _ => rfl) rfl
def ti77 : TI := ⟨1, 24, false, [.nils], .slc 30⟩
theorem tiok77 : TIOK Try.prog 77 ti77 := tiok_slc (z := .slice none 0 0) Try.underlying77 (by kernel_rfl) (fun p h => by cases h; exact fun _ => rfl) rfl
def ti78 : TI := ⟨1, 8, false, [.nilf], .basic⟩
theorem tiok78 : TIOK Try.prog 78 ti78 := tiok_func (z := .nilFunc) Try.underlying78 (by kernel_rfl) (fun p h => by cases h; exact fun _ => rfl) rfl
def ti79 : TI := ⟨1, 8, false, [.nilf], .basic⟩
theorem tiok79 : TIOK Try.prog 79 ti79 := tiok_func (z := .nilFunc) Try.underlying79 (by kernel_rfl) (fun p h => by cases h; exact fun _ => rfl) rfl
def ti80 : TI := ⟨1, 8, false, [.nilf], .basic⟩
theorem tiok80 : TIOK Try.prog 80 ti80 := tiok_func (z := .nilFunc) Try.underlying80 (by kernel_rfl) (fun p h => by cases h; exact fun _ => rfl) rfl
def ti81 : TI := ⟨1, 24, false, [.nils], .slc 86⟩
theorem tiok81 : TIOK Try.prog 81 ti81 := tiok_slc (z := .slice none 0 0) Try.underlying81 (by kernel_rfl) (fun p h => by cases h; exact fun _ => rfl) rfl
def ti82 : TI := ⟨1, 8, false, [.nilf], .basic⟩
theorem tiok82 : TIOK Try.prog 82 ti82 := tiok_func (z := .nilFunc) Try.underlying82 (by kernel_rfl) (fun p h => by cases h; exact fun _ => rfl) rfl
def ti83 : TI := ⟨6, 80, true, [.nils, (.int .i64 0), (.int .i64 0), (.int .i64 0), (.int .i64 0), .nils], .strct [(0, 22), (1, 3), (2, 3), (3, 3), (4, 3), (5, 38)] [(0, 1), (1, 1), (2, 1), (3, 1), (4, 1), (5, 1)]⟩
theorem tiok83 : TIOK Try.prog 83 ti83 := tiok_strct (z := .agg #[.slice none 0 0, .int .i64 0, .int .i64 0, .int .i64 0, .int .i64 0, .slice none 0 0]) Try.underlying83 (by kernel_rfl) (by kernel_rfl) (by kernel_rfl) (fun p h => by cases h; exact fun _ => rfl) rfl
def ti84 : TI := ⟨6, 80, true, [.nils, (.int .i64 0), (.int .i64 0), (.int .i64 0), (.int .i64 0), .nils], .strct [(0, 22), (1, 3), (2, 3), (3, 3), (4, 3), (5, 38)] [(0, 1), (1, 1), (2, 1), (3, 1), (4, 1), (5, 1)]⟩
theorem tiok84 : TIOK Try.prog 84 ti84 := tiok_strct (z := .agg #[.slice none 0 0, .int .i64 0, .int .i64 0, .int .i64 0, .int .i64 0, .slice none 0 0]) Try.underlying84 (by kernel_rfl) (by kernel_rfl) (by kernel_rfl) (fun p h => by cases h; exact fun _ => rfl) rfl
def ti85 : TI := ⟨6, 48, true, [(.int .i64 0), (.int .i64 0), (.int .i64 0), (.int .i64 0), (.int .i64 0), (.int .i64 0)], .strct [(0, 70), (4, 3), (5, 3)] [(0, 4), (4, 1), (5, 1)]⟩
theorem tiok85 : TIOK Try.prog 85 ti85 := tiok_strct (z := .agg #[.int .i64 0, .int .i64 0, .int .i64 0, .int .i64 0, .int .i64 0, .int .i64 0]) Try.underlying85 (by kernel_rfl) (by kernel_rfl) (by kernel_rfl) (fun p h => by cases h; exact fun _ => rfl) rfl
def ti86 : TI := ⟨6, 48, true, [(.int .i64 0), (.int .i64 0), (.int .i64 0), (.int .i64 0), (.int .i64 0), (.int .i64 0)], .strct [(0, 70), (4, 3), (5, 3)] [(0, 4), (4, 1), (5, 1)]⟩
theorem tiok86 : TIOK Try.prog 86 ti86 := tiok_strct (z := .agg #[.int .i64 0, .int .i64 0, .int .i64 0, .int .i64 0, .int .i64 0, .int .i64 0]) Try.underlying86 (by kernel_rfl) (by kernel_rfl) (by kernel_rfl) (fun p h => by cases h; exact fun _ => rfl) rfl
def ti87 : TI := ⟨1, 8, false, [.nilf], .basic⟩
theorem tiok87 : TIOK Try.prog 87 ti87 := tiok_func (z := .nilFunc) Try.underlying87 (by kernel_rfl) (fun p h => by cases h; exact fun _ => rfl) rfl
def ti88 : TI := ⟨1, 8, false, [.nilf], .basic⟩
theorem tiok88 : TIOK Try.prog 88 ti88 := tiok_func (z := .nilFunc) Try.underlying88 (by kernel_rfl) (fun p h => by cases h; exact fun _ => rfl) rfl
def ti89 : TI := ⟨5, 40, true, [(.int .i64 0), (.int .i64 0), (.int .i64 0), (.int .i64 0), (.int .i64 0)], .strct [(0, 3), (1, 30)] [(0, 1), (1, 4)]⟩
theorem tiok89 : TIOK Try.prog 89 ti89 := tiok_strct (z := .agg #[.int .i64 0, .int .i64 0, .int .i64 0, .int .i64 0, .int .i64 0]) Try.underlying89 (by kernel_rfl) (by kernel_rfl) (by kernel_rfl) (fun p h => by cases h; exact fun _ => rfl) rfl
def ti90 : TI := ⟨5, 40, true, [(.int .i64 0), (.int .i64 0), (.int .i64 0), (.int .i64 0), (.int .i64 0)], .strct [(0, 3), (1, 30)] [(0, 1), (1, 4)]⟩
theorem tiok90 : TIOK Try.prog 90 ti90 := tiok_strct (z := .agg #[.int .i64 0, .int .i64 0, .int .i64 0, .int .i64 0, .int .i64 0]) Try.underlying90 (by kernel_rfl) (by kernel_rfl) (by kernel_rfl) (fun p h => by cases h; exact fun _ => rfl) rfl
def ti91 : TI := ⟨1, 24, false, [.nils], .slc 99⟩
theorem tiok91 : TIOK Try.prog 91 ti91 := tiok_slc (z := .slice none 0 0) Try.underlying91 (by kernel_rfl) (fun p h => by cases h; exact fun _ => rfl) rfl
def ti92 : TI := ⟨1, 8, false, [.nilf], .basic⟩
theorem tiok92 : TIOK Try.prog 92 ti92 := tiok_func (z := .nilFunc) Try.underlying92 (by kernel_rfl) (fun p h => by cases h; exact fun _ => rfl) rfl
def ti93 : TI := ⟨3, 56, true, [.nils, .nils, (.int .i64 0)], .strct [(0, 77), (1, 41), (2, 3)] [(0, 1), (1, 1), (2, 1)]⟩
theorem tiok93 : TIOK Try.prog 93 ti93 := tiok_strct (z := .agg #[.slice none 0 0, .slice none 0 0, .int .i64 0]) Try.underlying93 (by kernel_rfl) (by kernel_rfl) (by kernel_rfl) (fun p h => by cases h; exact fun _ => rfl) rfl
def ti94 : TI := ⟨3, 56, true, [.nils, .nils, (.int .i64 0)], .strct [(0, 77), (1, 41), (2, 3)] [(0, 1), (1, 1), (2, 1)]⟩
theorem tiok94 : TIOK Try.prog 94 ti94 := tiok_strct (z := .agg #[.slice none 0 0, .slice none 0 0, .int .i64 0]) Try.underlying94 (by kernel_rfl) (by kernel_rfl) (by kernel_rfl) (fun p h => by cases h; exact fun _ => rfl) rfl
def ti95 : TI := ⟨1, 8, false, [.nilf], .basic⟩
theorem tiok95 : TIOK Try.prog 95 ti95 := tiok_func (z := .nilFunc) Try.underlying95 (by kernel_rfl) (fun p h => by cases h; exact fun _ => rfl) rfl
def ti96 : TI := ⟨1, 24, false, [.nils], .slc 147⟩
theorem tiok96 : TIOK Try.prog 96 ti96 := tiok_slc (z := .slice none 0 0) Try.underlying96 (by kernel_rfl) (fun p h => by cases h; exact fun _ => rfl) rfl
def ti97 : TI := ⟨1, 8, false, [.nilf], .basic⟩
theorem tiok97 : TIOK Try.prog 97 ti97 := tiok_func (z := .nilFunc) Try.underlying97 (by kernel_rfl) (fun p h => by cases h; exact fun _ => rfl) rfl
def ti98 : TI := ⟨4, 32, true, [(.int .i64 0), (.int .i64 0), (.int .i64 0), (.int .i64 0)], .strct [(0, 3), (1, 3), (2, 3), (3, 3)] [(0, 1), (1, 1), (2, 1), (3, 1)]⟩
theorem tiok98 : TIOK Try.prog 98 ti98 := tiok_strct (z := .agg #[.int .i64 0, .int .i64 0, .int .i64 0, .int .i64 0]) Try.underlying98 (by kernel_rfl) (by kernel_rfl) (by kernel_rfl) (fun p h => by cases h; exact fun _ => rfl) rfl
def ti99 : TI := ⟨4, 32, true, [(.int .i64 0), (.int .i64 0), (.int .i64 0), (.int .i64 0)], .strct [(0, 3), (1, 3), (2, 3), (3, 3)] [(0, 1), (1, 1), (2, 1), (3, 1)]⟩
theorem tiok99 : TIOK Try.prog 99 ti99 := tiok_strct (z := .agg #[.int .i64 0, .int .i64 0, .int .i64 0, .int .i64 0]) Try.underlying99 (by kernel_rfl) (by kernel_rfl) (by kernel_rfl) (fun p h => by cases h; exact fun _ => rfl) rfl
def ti100 : TI := ⟨1, 8, false, [.nilf], .basic⟩
theorem tiok100 : TIOK Try.prog 100 ti100 := tiok_func (z := .nilFunc) Try.underlying100 (by kernel_rfl) (fun p h => by cases h; exact fun _ => rfl) rfl
def ti101 : TI := ⟨1, 8, false, [.nilf], .basic⟩
theorem tiok101 : TIOK Try.prog 101 ti101 := tiok_func (z := .nilFunc) Try.underlying101 (by kernel_rfl) (fun p h => by cases h; exact fun _ => rfl) rfl
def ti102 : TI := ⟨1, 24, false, [.nils], .slc 70⟩
theorem tiok102 : TIOK Try.prog 102 ti102 := tiok_slc (z := .slice none 0 0) Try.underlying102 (by kernel_rfl) (fun p h => by cases h; exact fun _ => rfl) rfl
def ti103 : TI := ⟨4, 80, true, [.nils, .nils, (.int .i64 0), .nils], .strct [(0, 102), (1, 81), (2, 3), (3, 22)] [(0, 1), (1, 1), (2, 1), (3, 1)]⟩
theorem tiok103 : TIOK Try.prog 103 ti103 := tiok_strct (z := .agg #[.slice none 0 0, .slice none 0 0, .int .i64 0, .slice none 0 0]) Try.underlying103 (by kernel_rfl) (by kernel_rfl) (by kernel_rfl) (fun p h => by cases h; exact fun _ => rfl) rfl
def ti104 : TI := ⟨4, 80, true, [.nils, .nils, (.int .i64 0), .nils], .strct [(0, 102), (1, 81), (2, 3), (3, 22)] [(0, 1), (1, 1), (2, 1), (3, 1)]⟩
theorem tiok104 : TIOK Try.prog 104 ti104 := tiok_strct (z := .agg #[.slice none 0 0, .slice none 0 0, .int .i64 0, .slice none 0 0]) Try.underlying104 (by kernel_rfl) (by kernel_rfl) (by kernel_rfl) (fun p h => by cases h; exact fun _ => rfl) rfl
def ti105 : TI := ⟨1, 8, false, [.nilf], .basic⟩
theorem tiok105 : TIOK Try.prog 105 ti105 := tiok_func (z := .nilFunc) Try.underlying105 (by kernel_rfl) (fun p h => by cases h; exact fun _ => rfl) rfl
def ti106 : TI := ⟨1, 8, false, [.nilf], .basic⟩
theorem tiok106 : TIOK Try.prog 106 ti106 := tiok_func (z := .nilFunc) Try.underlying106 (by kernel_rfl) (fun p h => by cases h; exact fun _ => rfl) rfl
def ti107 : TI := ⟨5, 40, true, [(.int .i64 0), (.int .i64 0), (.int .i64 0), (.int .i64 0), (.int .i64 0)], .strct [(0, 3), (1, 70)] [(0, 1), (1, 4)]⟩
theorem tiok107 : TIOK Try.prog 107 ti107 := tiok_strct (z := .agg #[.int .i64 0, .int .i64 0, .int .i64 0, .int .i64 0, .int .i64 0]) Try.underlying107 (by kernel_rfl) (by kernel_rfl) (by kernel_rfl) (fun p h => by cases h; exact fun _ => rfl) rfl
def ti108 : TI := ⟨5, 40, true, [(.int .i64 0), (.int .i64 0), (.int .i64 0), (.int .i64 0), (.int .i64 0)], .strct [(0, 3), (1, 70)] [(0, 1), (1, 4)]⟩
theorem tiok108 : TIOK Try.prog 108 ti108 := tiok_strct (z := .agg #[.int .i64 0, .int .i64 0, .int .i64 0, .int .i64 0, .int .i64 0]) Try.underlying108 (by kernel_rfl) (by kernel_rfl) (by kernel_rfl) (fun p h => by cases h; exact fun _ => rfl) rfl
def ti109 : TI := ⟨1, 8, false, [.nilf], .basic⟩
theorem tiok109 : TIOK Try.prog 109 ti109 := tiok_func (z := .nilFunc) Try.underlying109 (by kernel_rfl) (fun p h => by cases h; exact fun _ => rfl) rfl
def ti110 : TI := ⟨1, 8, false, [.nilf], .basic⟩
theorem tiok110 : TIOK Try.prog 110 ti110 := tiok_func (z := .nilFunc) Try.underlying110 (by kernel_rfl) (fun p h => by cases h; exact fun _ => rfl) rfl
def ti111 : TI := ⟨1, 24, false, [.nils], .slc 3⟩
theorem tiok111 : TIOK Try.prog 111 ti111 := tiok_slc (z := .slice none 0 0) Try.underlying111 (by kernel_rfl) (fun p h => by cases h; exact fun _ => rfl) rfl
def ti112 : TI := ⟨1, 8, false, [.nilf], .basic⟩
theorem tiok112 : TIOK Try.prog 112 ti112 := tiok_func (z := .nilFunc) Try.underlying112 (by kernel_rfl) (fun p h => by cases h; exact fun _ => rfl) rfl
def ti113 : TI := ⟨1, 8, false, [.nilf], .basic⟩
theorem tiok113 : TIOK Try.prog 113 ti113 := tiok_func (z := .nilFunc) Try.underlying113 (by kernel_rfl) (fun p h => by cases h; exact fun _ => rfl) rfl
def ti114 : TI := ⟨1, 8, false, [.nilf], .basic⟩
theorem tiok114 : TIOK Try.prog 114 ti114 := tiok_func (z := .nilFunc) Try.underlying114 (by kernel_rfl) (fun p h => by cases h; exact fun _ => rfl) rfl
def ti115 : TI := ⟨1, 8, false, [.nilp], .ptr⟩
theorem tiok115 : TIOK Try.prog 115 ti115 := tiok_ptr (z := .pointer none) Try.underlying115 (by kernel_rfl) (fun p h => by cases h; exact fun _ => rfl) rfl
def ti116 : TI := ⟨2, 16, true, [(.int .i64 0), (.bool .F)], .strct [(0, 3), (1, 4)] [(0, 1), (1, 1)]⟩
theorem tiok116 : TIOK Try.prog 116 ti116 := tiok_strct (z := .agg #[.int .i64 0, .bool false]) Try.underlying116 (by kernel_rfl) (by kernel_rfl) (by kernel_rfl) (fun p h => by cases h; exact fun _ => rfl) rfl
def ti117 : TI := ⟨2, 16, true, [(.int .i64 0), (.bool .F)], .strct [(0, 3), (1, 4)] [(0, 1), (1, 1)]⟩
theorem tiok117 : TIOK Try.prog 117 ti117 := tiok_strct (z := .agg #[.int .i64 0, .bool false]) Try.underlying117 (by kernel_rfl) (by kernel_rfl) (by kernel_rfl) (fun p h => by cases h; exact fun _ => rfl) rfl
def ti118 : TI := ⟨8, 64, true, [(.int .i64 0), (.bool .F), (.int .i64 0), (.bool .F), (.int .i64 0), (.bool .F), (.int .i64 0), (.bool .F)], .arr 4 117⟩
theorem tiok118 : TIOK Try.prog 118 ti118 := tiok_arr (z := .agg #[.int .i64 0, .bool false, .int .i64 0, .bool false, .int .i64 0, .bool false, .int .i64 0, .bool false]) Try.underlying118 (by kernel_rfl) (fun p h => by cases h; exact fun _ => rfl) rfl
def ti119 : TI := ⟨12, 112, true, [.nilp, .nils, (.int .i64 0), (.bool .F), (.int .i64 0), (.bool .F), (.int .i64 0), (.bool .F), (.int .i64 0), (.bool .F), (.int .i64 0), (.bool .F)], .strct [(0, 115), (1, 72), (2, 117), (4, 118)] [(0, 1), (1, 1), (2, 2), (4, 8)]⟩
theorem tiok119 : TIOK Try.prog 119 ti119 := tiok_strct (z := .agg #[.pointer none, .slice none 0 0, .int .i64 0, .bool false, .int .i64 0, .bool false, .int .i64 0, .bool false, .int .i64 0, .bool false, .int .i64 0, .bool false]) Try.underlying119 (by kernel_rfl) (by kernel_rfl) (by kernel_rfl) (fun p h => by cases h; exact fun _ => rfl) rfl
def ti120 : TI := ⟨12, 112, true, [.nilp, .nils, (.int .i64 0), (.bool .F), (.int .i64 0), (.bool .F), (.int .i64 0), (.bool .F), (.int .i64 0), (.bool .F), (.int .i64 0), (.bool .F)], .strct [(0, 115), (1, 72), (2, 117), (4, 118)] [(0, 1), (1, 1), (2, 2), (4, 8)]⟩
theorem tiok120 : TIOK Try.prog 120 ti120 := tiok_strct (z := .agg #[.pointer none, .slice none 0 0, .int .i64 0, .bool false, .int .i64 0, .bool false, .int .i64 0, .bool false, .int .i64 0, .bool false, .int .i64 0, .bool false]) Try.underlying120 (by kernel_rfl) (by kernel_rfl) (by kernel_rfl) (fun p h => by cases h; exact fun _ => rfl) rfl
def ti121 : TI := ⟨1, 8, false, [.nilp], .ptr⟩
theorem tiok121 : TIOK Try.prog 121 ti121 := tiok_ptr (z := .pointer none) Try.underlying121 (by kernel_rfl) (fun p h => by cases h; exact fun _ => rfl) rfl
def ti122 : TI := ⟨5, 40, true, [.nilp, (.int .i64 0), (.int .i64 0), (.int .i64 0), .nilp], .strct [(0, 25), (1, 33), (3, 3), (4, 121)] [(0, 1), (1, 2), (3, 1), (4, 1)]⟩
theorem tiok122 : TIOK Try.prog 122 ti122 := tiok_strct (z := .agg #[.pointer none, .int .i64 0, .int .i64 0, .int .i64 0, .pointer none]) Try.underlying122 (by kernel_rfl) (by kernel_rfl) (by kernel_rfl) (fun p h => by cases h; exact fun _ => rfl) rfl
def ti123 : TI := ⟨5, 40, true, [.nilp, (.int .i64 0), (.int .i64 0), (.int .i64 0), .nilp], .strct [(0, 25), (1, 33), (3, 3), (4, 121)] [(0, 1), (1, 2), (3, 1), (4, 1)]⟩
theorem tiok123 : TIOK Try.prog 123 ti123 := tiok_strct (z := .agg #[.pointer none, .int .i64 0, .int .i64 0, .int .i64 0, .pointer none]) Try.underlying123 (by kernel_rfl) (by kernel_rfl) (by kernel_rfl) (fun p h => by cases h; exact fun _ => rfl) rfl
def ti124 : TI := ⟨1, 8, false, [.nilf], .basic⟩
theorem tiok124 : TIOK Try.prog 124 ti124 := tiok_func (z := .nilFunc) Try.underlying124 (by kernel_rfl) (fun p h => by cases h; exact fun _ => rfl) rfl
def ti125 : TI := ⟨1, 8, false, [.nilf], .basic⟩
theorem tiok125 : TIOK Try.prog 125 ti125 := tiok_func (z := .nilFunc) Try.underlying125 (by kernel_rfl) (fun p h => by cases h; exact fun _ => rfl) rfl
def ti126 : TI := ⟨1, 8, false, [.nilf], .basic⟩
theorem tiok126 : TIOK Try.prog 126 ti126 := tiok_func (z := .nilFunc) Try.underlying126 (by kernel_rfl) (fun p h => by cases h; exact fun _ => rfl) rfl
def ti127 : TI := ⟨1, 8, false, [.nilf], .basic⟩
theorem tiok127 : TIOK Try.prog 127 ti127 := tiok_func (z := .nilFunc) Try.underlying127 (by kernel_rfl) (fun p h => by cases h; exact fun _ => rfl) rfl
def ti129 : TI := ⟨1, 8, false, [.nilf], .basic⟩
theorem tiok129 : TIOK Try.prog 129 ti129 := tiok_func (z := .nilFunc) Try.underlying129 (by kernel_rfl) (fun p h => by cases h; exact fun _ => rfl) rfl
def ti130 : TI := ⟨1, 8, false, [.nilf], .basic⟩
theorem tiok130 : TIOK Try.prog 130 ti130 := tiok_func (z := .nilFunc) Try.underlying130 (by kernel_rfl) (fun p h => by cases h; exact fun _ => rfl) rfl
def ti131 : TI := ⟨1, 8, false, [.nilf], .basic⟩
theorem tiok131 : TIOK Try.prog 131 ti131 := tiok_func (z := .nilFunc) Try.underlying131 (by kernel_rfl) (fun p h => by cases h; exact fun _ => rfl) rfl
def ti132 : TI := ⟨1, 8, false, [.nilf], .basic⟩
theorem tiok132 : TIOK Try.prog 132 ti132 := tiok_func (z := .nilFunc) Try.underlying132 (by kernel_rfl) (fun p h => by cases h; exact fun _ => rfl) rfl
def ti133 : TI := ⟨1, 8, false, [.nilf], .basic⟩
theorem tiok133 : TIOK Try.prog 133 ti133 := tiok_func (z := .nilFunc) Try.underlying133 (by kernel_rfl) (fun p h => by cases h; exact fun _ => rfl) rfl
def ti134 : TI := ⟨1, 8, false, [.nilf], .basic⟩
theorem tiok134 : TIOK Try.prog 134 ti134 := tiok_func (z := .nilFunc) Try.underlying134 (by kernel_rfl) (fun p h => by cases h; exact fun _ => rfl) rfl
def ti135 : TI := ⟨1, 8, false, [.nilf], .basic⟩
theorem tiok135 : TIOK Try.prog 135 ti135 := tiok_func (z := .nilFunc) Try.underlying135 (by kernel_rfl) (fun p h => by cases h; exact fun _ => rfl) rfl
def ti136 : TI := ⟨1, 8, false, [.nilf], .basic⟩
theorem tiok136 : TIOK Try.prog 136 ti136 := tiok_func (z := .nilFunc) Try.underlying136 (by kernel_rfl) (fun p h => by cases h; exact fun _ => rfl) rfl
def ti137 : TI := ⟨1, 8, false, [.nilf], .basic⟩
theorem tiok137 : TIOK Try.prog 137 ti137 := tiok_func (z := .nilFunc) Try.underlying137 (by kernel_rfl) (fun p h => by cases h; exact fun _ => rfl) rfl
def ti138 : TI := ⟨1, 8, false, [.nilf], .basic⟩
theorem tiok138 : TIOK Try.prog 138 ti138 := tiok_func (z := .nilFunc) Try.underlying138 (by kernel_rfl) (fun p h => by cases h; exact fun _ => rfl) rfl
def ti139 : TI := ⟨1, 8, false, [.nilf], .basic⟩
theorem tiok139 : TIOK Try.prog 139 ti139 := tiok_func (z := .nilFunc) Try.underlying139 (by kernel_rfl) (fun p h => by cases h; exact fun _ => rfl) rfl
def ti140 : TI := ⟨1, 8, false, [.nilf], .basic⟩
theorem tiok140 : TIOK Try.prog 140 ti140 := tiok_func (z := .nilFunc) Try.underlying140 (by kernel_rfl) (fun p h => by cases h; exact fun _ => rfl) rfl
def ti142 : TI := ⟨1, 8, false, [.nilf], .basic⟩
theorem tiok142 : TIOK Try.prog 142 ti142 := tiok_func (z := .nilFunc) Try.underlying142 (by kernel_rfl) (fun p h => by cases h; exact fun _ => rfl) rfl
def ti143 : TI := ⟨1, 8, false, [.nilf], .basic⟩
theorem tiok143 : TIOK Try.prog 143 ti143 := tiok_func (z := .nilFunc) Try.underlying143 (by kernel_rfl) (fun p h => by cases h; exact fun _ => rfl) rfl
def ti144 : TI := ⟨1, 8, false, [.nilf], .basic⟩
theorem tiok144 : TIOK Try.prog 144 ti144 := tiok_func (z := .nilFunc) Try.underlying144 (by kernel_rfl) (fun p h => by cases h; exact fun _ => rfl) rfl
def ti145 : TI := ⟨1, 8, false, [.nilf], .basic⟩
theorem tiok145 : TIOK Try.prog 145 ti145 := tiok_func (z := .nilFunc) Try.underlying145 (by kernel_rfl) (fun p h => by cases h; exact fun _ => rfl) rfl
def ti146 : TI := ⟨4, 32, true, [(.int .i64 0), (.int .i64 0), (.int .i64 0), (.int .i64 0)], .strct [(0, 3), (1, 3), (2, 57)] [(0, 1), (1, 1), (2, 2)]⟩
theorem tiok146 : TIOK Try.prog 146 ti146 := tiok_strct (z := .agg #[.int .i64 0, .int .i64 0, .int .i64 0, .int .i64 0]) Try.underlying146 (by kernel_rfl) (by kernel_rfl) (by kernel_rfl) (fun p h => by cases h; exact fun _ => rfl) rfl
def ti147 : TI := ⟨4, 32, true, [(.int .i64 0), (.int .i64 0), (.int .i64 0), (.int .i64 0)], .strct [(0, 3), (1, 3), (2, 57)] [(0, 1), (1, 1), (2, 2)]⟩
theorem tiok147 : TIOK Try.prog 147 ti147 := tiok_strct (z := .agg #[.int .i64 0, .int .i64 0, .int .i64 0, .int .i64 0]) Try.underlying147 (by kernel_rfl) (by kernel_rfl) (by kernel_rfl) (fun p h => by cases h; exact fun _ => rfl) rfl
def ti148 : TI := ⟨1, 8, false, [.nilp], .ptr⟩
theorem tiok148 : TIOK Try.prog 148 ti148 := tiok_ptr (z := .pointer none) Try.underlying148 (by kernel_rfl) (fun p h => by cases h; exact fun _ => rfl) rfl
def ti149 : TI := ⟨10, 160, true, [.nilp, .nils, .nils, (.int .i64 0), .nilp, (.int .i64 0), (.int .i64 0), .nils, .nils, .nils], .strct [(0, 54), (1, 94), (4, 25), (5, 33), (7, 96), (8, 111), (9, 111)] [(0, 1), (1, 3), (4, 1), (5, 2), (7, 1), (8, 1), (9, 1)]⟩
theorem tiok149 : TIOK Try.prog 149 ti149 := tiok_strct (z := .agg #[.pointer none, .slice none 0 0, .slice none 0 0, .int .i64 0, .pointer none, .int .i64 0, .int .i64 0, .slice none 0 0, .slice none 0 0, .slice none 0 0]) Try.underlying149 (by kernel_rfl) (by kernel_rfl) (by kernel_rfl) (fun p h => by cases h; exact fun _ => rfl) rfl
def ti150 : TI := ⟨10, 160, true, [.nilp, .nils, .nils, (.int .i64 0), .nilp, (.int .i64 0), (.int .i64 0), .nils, .nils, .nils], .strct [(0, 54), (1, 94), (4, 25), (5, 33), (7, 96), (8, 111), (9, 111)] [(0, 1), (1, 3), (4, 1), (5, 2), (7, 1), (8, 1), (9, 1)]⟩
theorem tiok150 : TIOK Try.prog 150 ti150 := tiok_strct (z := .agg #[.pointer none, .slice none 0 0, .slice none 0 0, .int .i64 0, .pointer none, .int .i64 0, .int .i64 0, .slice none 0 0, .slice none 0 0, .slice none 0 0]) Try.underlying150 (by kernel_rfl) (by kernel_rfl) (by kernel_rfl) (fun p h => by cases h; exact fun _ => rfl) rfl
def ti151 : TI := ⟨1, 8, false, [.nilf], .basic⟩
theorem tiok151 : TIOK Try.prog 151 ti151 := tiok_func (z := .nilFunc) Try.underlying151 (by kernel_rfl) (fun p h => by cases h; exact fun _ => rfl) rfl
def ti152 : TI := ⟨1, 8, false, [.nilf], .basic⟩
theorem tiok152 : TIOK Try.prog 152 ti152 := tiok_func (z := .nilFunc) Try.underlying152 (by kernel_rfl) (fun p h => by cases h; exact fun _ => rfl) rfl
def ti153 : TI := ⟨1, 8, false, [.nilf], .basic⟩
theorem tiok153 : TIOK Try.prog 153 ti153 := tiok_func (z := .nilFunc) Try.underlying153 (by kernel_rfl) (fun p h => by cases h; exact fun _ => rfl) rfl
def ti155 : TI := ⟨1, 8, false, [.nilf], .basic⟩
theorem tiok155 : TIOK Try.prog 155 ti155 := tiok_func (z := .nilFunc) Try.underlying155 (by kernel_rfl) (fun p h => by cases h; exact fun _ => rfl) rfl
def ti156 : TI := ⟨1, 24, false, [.nils], .slc 161⟩
theorem tiok156 : TIOK Try.prog 156 ti156 := tiok_slc (z := .slice none 0 0) Try.underlying156 (by kernel_rfl) (fun p h => by cases h; exact fun _ => rfl) rfl
def ti157 : TI := ⟨1, 24, true, [.nils], .strct [(0, 156)] [(0, 1)]⟩
theorem tiok157 : TIOK Try.prog 157 ti157 := tiok_strct (z := .agg #[.slice none 0 0]) Try.underlying157 (by kernel_rfl) (by kernel_rfl) (by kernel_rfl) (fun p h => by cases h; exact fun _ => rfl) rfl
def ti158 : TI := ⟨1, 24, true, [.nils], .strct [(0, 156)] [(0, 1)]⟩
theorem tiok158 : TIOK Try.prog 158 ti158 := tiok_strct (z := .agg #[.slice none 0 0]) Try.underlying158 (by kernel_rfl) (by kernel_rfl) (by kernel_rfl) (fun p h => by cases h; exact fun _ => rfl) rfl
def ti159 : TI := ⟨1, 8, false, [.nilf], .basic⟩
theorem tiok159 : TIOK Try.prog 159 ti159 := tiok_func (z := .nilFunc) Try.underlying159 (by kernel_rfl) (fun p h => by cases h; exact fun _ => rfl) rfl
def ti160 : TI := ⟨3, 24, true, [(.int .i64 0), (.int .i64 0), (.int .i64 0)], .strct [(0, 3), (1, 3), (2, 3)] [(0, 1), (1, 1), (2, 1)]⟩
theorem tiok160 : TIOK Try.prog 160 ti160 := tiok_strct (z := .agg #[.int .i64 0, .int .i64 0, .int .i64 0]) Try.underlying160 (by kernel_rfl) (by kernel_rfl) (by kernel_rfl) (fun p h => by cases h; exact fun _ => rfl) rfl
def ti161 : TI := ⟨3, 24, true, [(.int .i64 0), (.int .i64 0), (.int .i64 0)], .strct [(0, 3), (1, 3), (2, 3)] [(0, 1), (1, 1), (2, 1)]⟩
theorem tiok161 : TIOK Try.prog 161 ti161 := tiok_strct (z := .agg #[.int .i64 0, .int .i64 0, .int .i64 0]) Try.underlying161 (by kernel_rfl) (by kernel_rfl) (by kernel_rfl) (fun p h => by cases h; exact fun _ => rfl) rfl
def ti162 : TI := ⟨1, 8, false, [.nilf], .basic⟩
theorem tiok162 : TIOK Try.prog 162 ti162 := tiok_func (z := .nilFunc) Try.underlying162 (by kernel_rfl) (fun p h => by cases h; exact fun _ => rfl) rfl
def ti163 : TI := ⟨1, 8, false, [.nilf], .basic⟩
theorem tiok163 : TIOK Try.prog 163 ti163 := tiok_func (z := .nilFunc) Try.underlying163 (by kernel_rfl) (fun p h => by cases h; exact fun _ => rfl) rfl
def ti164 : TI := ⟨1, 8, false, [.nilf], .basic⟩
theorem tiok164 : TIOK Try.prog 164 ti164 := tiok_func (z := .nilFunc) Try.underlying164 (by kernel_rfl) (fun p h => by cases h; exact fun _ => rfl) rfl
def ti165 : TI := ⟨1, 8, false, [.nilf], .basic⟩
theorem tiok165 : TIOK Try.prog 165 ti165 := tiok_func (z := .nilFunc) Try.underlying165 (by kernel_rfl) (fun p h => by cases h; exact fun _ => rfl) rfl
def ti167 : TI := ⟨1, 8, false, [.nilf], .basic⟩
theorem tiok167 : TIOK Try.prog 167 ti167 := tiok_func (z := .nilFunc) Try.underlying167 (by kernel_rfl) (fun p h => by cases h; exact fun _ => rfl) rfl
def ti168 : TI := ⟨1, 8, false, [.nilf], .basic⟩
theorem tiok168 : TIOK Try.prog 168 ti168 := tiok_func (z := .nilFunc) Try.underlying168 (by kernel_rfl) (fun p h => by cases h; exact fun _ => rfl) rfl
def ti169 : TI := ⟨1, 8, false, [.nilf], .basic⟩
theorem tiok169 : TIOK Try.prog 169 ti169 := tiok_func (z := .nilFunc) Try.underlying169 (by kernel_rfl) (fun p h => by cases h; exact fun _ => rfl) rfl
def ti170 : TI := ⟨1, 8, false, [.nilf], .basic⟩
theorem tiok170 : TIOK Try.prog 170 ti170 := tiok_func (z := .nilFunc) Try.underlying170 (by kernel_rfl) (fun p h => by cases h; exact fun _ => rfl) rfl
def ti171 : TI := ⟨1, 8, false, [.nilf], .basic⟩
theorem tiok171 : TIOK Try.prog 171 ti171 := tiok_func (z := .nilFunc) Try.underlying171 (by kernel_rfl) (fun p h => by cases h; exact fun _ => rfl) rfl
def ti172 : TI := ⟨1, 8, false, [.nilf], .basic⟩
theorem tiok172 : TIOK Try.prog 172 ti172 := tiok_func (z := .nilFunc) Try.underlying172 (by kernel_rfl) (fun p h => by cases h; exact fun _ => rfl) rfl
def ti173 : TI := ⟨1, 8, false, [.nilf], .basic⟩
theorem tiok173 : TIOK Try.prog 173 ti173 := tiok_func (z := .nilFunc) Try.underlying173 (by kernel_rfl) (fun p h => by cases h; exact fun _ => rfl) rfl
def ti174 : TI := ⟨1, 8, false, [.nilp], .ptr⟩
theorem tiok174 : TIOK Try.prog 174 ti174 := tiok_ptr (z := .pointer none) Try.underlying174 (by kernel_rfl) (fun p h => by cases h; exact fun _ => rfl) rfl
def ti175 : TI := ⟨1, 8, false, [.nilf], .basic⟩
theorem tiok175 : TIOK Try.prog 175 ti175 := tiok_func (z := .nilFunc) Try.underlying175 (by kernel_rfl) (fun p h => by cases h; exact fun _ => rfl) rfl
def ti176 : TI := ⟨1, 8, false, [.nilf], .basic⟩
theorem tiok176 : TIOK Try.prog 176 ti176 := tiok_func (z := .nilFunc) Try.underlying176 (by kernel_rfl) (fun p h => by cases h; exact fun _ => rfl) rfl
def ti177 : TI := ⟨1, 8, false, [.nilp], .ptr⟩
theorem tiok177 : TIOK Try.prog 177 ti177 := tiok_ptr (z := .pointer none) Try.underlying177 (by kernel_rfl) (fun p h => by cases h; exact fun _ => rfl) rfl
def ti178 : TI := ⟨1, 8, false, [(.int .u64 0)], .num .u64⟩
theorem tiok178 : TIOK Try.prog 178 ti178 := tiok_num (z := .int .u64 0) Try.underlying178 (by kernel_rfl) (fun p h => by cases h; exact fun _ => rfl) rfl
def ti179 : TI := ⟨1, 8, false, [.nilf], .basic⟩
theorem tiok179 : TIOK Try.prog 179 ti179 := tiok_func (z := .nilFunc) Try.underlying179 (by kernel_rfl) (fun p h => by cases h; exact fun _ => rfl) rfl
def ti180 : TI := ⟨1, 8, false, [.nilf], .basic⟩
theorem tiok180 : TIOK Try.prog 180 ti180 := tiok_func (z := .nilFunc) Try.underlying180 (by kernel_rfl) (fun p h => by cases h; exact fun _ => rfl) rfl
def ti181 : TI := ⟨1, 8, false, [.nilf], .basic⟩
theorem tiok181 : TIOK Try.prog 181 ti181 := tiok_func (z := .nilFunc) Try.underlying181 (by kernel_rfl) (fun p h => by cases h; exact fun _ => rfl) rfl
def ti182 : TI := ⟨1, 8, false, [.nilf], .basic⟩
theorem tiok182 : TIOK Try.prog 182 ti182 := tiok_func (z := .nilFunc) Try.underlying182 (by kernel_rfl) (fun p h => by cases h; exact fun _ => rfl) rfl
def tyTree : BT := (.node 99 ti99 (.node 57 ti57 (.node 37 ti37 (.node 27 ti27 (.node 22 ti22 (.node 4 ti4 (.node 3 ti3 (.node 2 ti2 .leaf .leaf) .leaf) (.node 21 ti21 (.node 5 ti5 .leaf .leaf) .leaf)) (.node 25 ti25 (.node 24 ti24 (.node 23 ti23 .leaf .leaf) .leaf) (.node 26 ti26 .leaf .leaf))) (.node 32 ti32 (.node 30 ti30 (.node 29 ti29 (.node 28 ti28 .leaf .leaf) .leaf) (.node 31 ti31 .leaf .leaf)) (.node 35 ti35 (.node 34 ti34 (.node 33 ti33 .leaf .leaf) .leaf) (.node 36 ti36 .leaf .leaf)))) (.node 47 ti47 (.node 42 ti42 (.node 40 ti40 (.node 39 ti39 (.node 38 ti38 .leaf .leaf) .leaf) (.node 41 ti41 .leaf .leaf)) (.node 45 ti45 (.node 44 ti44 (.node 43 ti43 .leaf .leaf) .leaf) (.node 46 ti46 .leaf .leaf))) (.node 52 ti52 (.node 50 ti50 (.node 49 ti49 (.node 48 ti48 .leaf .leaf) .leaf) (.node 51 ti51 .leaf .leaf)) (.node 55 ti55 (.node 54 ti54 (.node 53 ti53 .leaf .leaf) .leaf) (.node 56 ti56 .leaf .leaf))))) (.node 79 ti79 (.node 69 ti69 (.node 64 ti64 (.node 61 ti61 (.node 60 ti60 (.node 59 ti59 .leaf .leaf) .leaf) (.node 62 ti62 .leaf .leaf)) (.node 67 ti67 (.node 66 ti66 (.node 65 ti65 .leaf .leaf) .leaf) (.node 68 ti68 .leaf .leaf))) (.node 74 ti74 (.node 72 ti72 (.node 71 ti71 (.node 70 ti70 .leaf .leaf) .leaf) (.node 73 ti73 .leaf .leaf)) (.node 77 ti77 (.node 76 ti76 (.node 75 ti75 .leaf .leaf) .leaf) (.node 78 ti78 .leaf .leaf)))) (.node 89 ti89 (.node 84 ti84 (.node 82 ti82 (.node 81 ti81 (.node 80 ti80 .leaf .leaf) .leaf) (.node 83 ti83 .leaf .leaf)) (.node 87 ti87 (.node 86 ti86 (.node 85 ti85 .leaf .leaf) .leaf) (.node 88 ti88 .leaf .leaf))) (.node 94 ti94 (.node 92 ti92 (.node 91 ti91 (.node 90 ti90 .leaf .leaf) .leaf) (.node 93 ti93 .leaf .leaf)) (.node 97 ti97 (.node 96 ti96 (.node 95 ti95 .leaf .leaf) .leaf) (.node 98 ti98 .leaf .leaf)))))) (.node 140 ti140 (.node 119 ti119 (.node 109 ti109 (.node 104 ti104 (.node 102 ti102 (.node 101 ti101 (.node 100 ti100 .leaf .leaf) .leaf) (.node 103 ti103 .leaf .leaf)) (.node 107 ti107 (.node 106 ti106 (.node 105 ti105 .leaf .leaf) .leaf) (.node 108 ti108 .leaf .leaf))) (.node 114 ti114 (.node 112 ti112 (.node 111 ti111 (.node 110 ti110 .leaf .leaf) .leaf) (.node 113 ti113 .leaf .leaf)) (.node 117 ti117 (.node 116 ti116 (.node 115 ti115 .leaf .leaf) .leaf) (.node 118 ti118 .leaf .leaf)))) (.node 130 ti130 (.node 124 ti124 (.node 122 ti122 (.node 121 ti121 (.node 120 ti120 .leaf .leaf) .leaf) (.node 123 ti123 .leaf .leaf)) (.node 127 ti127 (.node 126 ti126 (.node 125 ti125 .leaf .leaf) .leaf) (.node 129 ti129 .leaf .leaf))) (.node 135 ti135 (.node 133 ti133 (.node 132 ti132 (.node 131 ti131 .leaf .leaf) .leaf) (.node 134 ti134 .leaf .leaf)) (.node 138 ti138 (.node 137 ti137 (.node 136 ti136 .leaf .leaf) .leaf) (.node 139 ti139 .leaf .leaf))))) (.node 162 ti162 (.node 151 ti151 (.node 146 ti146 (.node 144 ti144 (.node 143 ti143 (.node 142 ti142 .leaf .leaf) .leaf) (.node 145 ti145 .leaf .leaf)) (.node 149 ti149 (.node 148 ti148 (.node 147 ti147 .leaf .leaf) .leaf) (.node 150 ti150 .leaf .leaf))) (.node 157 ti157 (.node 155 ti155 (.node 153 ti153 (.node 152 ti152 .leaf .leaf) .leaf) (.node 156 ti156 .leaf .leaf)) (.node 160 ti160 (.node 159 ti159 (.node 158 ti158 .leaf .leaf) .leaf) (.node 161 ti161 .leaf .leaf)))) (.node 173 ti173 (.node 168 ti168 (.node 165 ti165 (.node 164 ti164 (.node 163 ti163 .leaf .leaf) .leaf) (.node 167 ti167 .leaf .leaf)) (.node 171 ti171 (.node 170 ti170 (.node 169 ti169 .leaf .leaf) .leaf) (.node 172 ti172 .leaf .leaf))) (.node 178 ti178 (.node 176 ti176 (.node 175 ti175 (.node 174 ti174 .leaf .leaf) .leaf) (.node 177 ti177 .leaf .leaf)) (.node 181 ti181 (.node 180 ti180 (.node 179 ti179 .leaf .leaf) .leaf) (.node 182 ti182 .leaf .leaf)))))))
theorem tyTree_ok : tyTree.All (TIOK Try.prog) := ⟨tiok99, ⟨tiok57, ⟨tiok37, ⟨tiok27, ⟨tiok22, ⟨tiok4, ⟨tiok3, ⟨tiok2, trivial, trivial⟩, trivial⟩, ⟨tiok21, ⟨tiok5, trivial, trivial⟩, trivial⟩⟩, ⟨tiok25, ⟨tiok24, ⟨tiok23, trivial, trivial⟩, trivial⟩, ⟨tiok26, trivial, trivial⟩⟩⟩, ⟨tiok32, ⟨tiok30, ⟨tiok29, ⟨tiok28, trivial, trivial⟩, trivial⟩, ⟨tiok31, trivial, trivial⟩⟩, ⟨tiok35, ⟨tiok34, ⟨tiok33, trivial, trivial⟩, trivial⟩, ⟨tiok36, trivial, trivial⟩⟩⟩⟩, ⟨tiok47, ⟨tiok42, ⟨tiok40, ⟨tiok39, ⟨tiok38, trivial, trivial⟩, trivial⟩, ⟨tiok41, trivial, trivial⟩⟩, ⟨tiok45, ⟨tiok44, ⟨tiok43, trivial, trivial⟩, trivial⟩, ⟨tiok46, trivial, trivial⟩⟩⟩, ⟨tiok52, ⟨tiok50, ⟨tiok49, ⟨tiok48, trivial, trivial⟩, trivial⟩, ⟨tiok51, trivial, trivial⟩⟩, ⟨tiok55, ⟨tiok54, ⟨tiok53, trivial, trivial⟩, trivial⟩, ⟨tiok56, trivial, trivial⟩⟩⟩⟩⟩, ⟨tiok79, ⟨tiok69, ⟨tiok64, ⟨tiok61, ⟨tiok60, ⟨tiok59, trivial, trivial⟩, trivial⟩, ⟨tiok62, trivial, trivial⟩⟩, ⟨tiok67, ⟨tiok66, ⟨tiok65, trivial, trivial⟩, trivial⟩, ⟨tiok68, trivial, trivial⟩⟩⟩, ⟨tiok74, ⟨tiok72, ⟨tiok71, ⟨tiok70, trivial, trivial⟩, trivial⟩, ⟨tiok73, trivial, trivial⟩⟩, ⟨tiok77, ⟨tiok76, ⟨tiok75, trivial, trivial⟩, trivial⟩, ⟨tiok78, trivial, trivial⟩⟩⟩⟩, ⟨tiok89, ⟨tiok84, ⟨tiok82, ⟨tiok81, ⟨tiok80, trivial, trivial⟩, trivial⟩, ⟨tiok83, trivial, trivial⟩⟩, ⟨tiok87, ⟨tiok86, ⟨tiok85, trivial, trivial⟩, trivial⟩, ⟨tiok88, trivial, trivial⟩⟩⟩, ⟨tiok94, ⟨tiok92, ⟨tiok91, ⟨tiok90, trivial, trivial⟩, trivial⟩, ⟨tiok93, trivial, trivial⟩⟩, ⟨tiok97, ⟨tiok96, ⟨tiok95, trivial, trivial⟩, trivial⟩, ⟨tiok98, trivial, trivial⟩⟩⟩⟩⟩⟩, ⟨tiok140, ⟨tiok119, ⟨tiok109, ⟨tiok104, ⟨tiok102, ⟨tiok101, ⟨tiok100, trivial, trivial⟩, trivial⟩, ⟨tiok103, trivial, trivial⟩⟩, ⟨tiok107, ⟨tiok106, ⟨tiok105, trivial, trivial⟩, trivial⟩, ⟨tiok108, trivial, trivial⟩⟩⟩, ⟨tiok114, ⟨tiok112, ⟨tiok111, ⟨tiok110, trivial, trivial⟩, trivial⟩, ⟨tiok113, trivial, trivial⟩⟩, ⟨tiok117, ⟨tiok116, ⟨tiok115, trivial, trivial⟩, trivial⟩, ⟨tiok118, trivial, trivial⟩⟩⟩⟩, ⟨tiok130, ⟨tiok124, ⟨tiok122, ⟨tiok121, ⟨tiok120, trivial, trivial⟩, trivial⟩, ⟨tiok123, trivial, trivial⟩⟩, ⟨tiok127, ⟨tiok126, ⟨tiok125, trivial, trivial⟩, trivial⟩, ⟨tiok129, trivial, trivial⟩⟩⟩, ⟨tiok135, ⟨tiok133, ⟨tiok132, ⟨tiok131, trivial, trivial⟩, trivial⟩, ⟨tiok134, trivial, trivial⟩⟩, ⟨tiok138, ⟨tiok137, ⟨tiok136, trivial, trivial⟩, trivial⟩, ⟨tiok139, trivial, trivial⟩⟩⟩⟩⟩, ⟨tiok162, ⟨tiok151, ⟨tiok146, ⟨tiok144, ⟨tiok143, ⟨tiok142, trivial, trivial⟩, trivial⟩, ⟨tiok145, trivial, trivial⟩⟩, ⟨tiok149, ⟨tiok148, ⟨tiok147, trivial, trivial⟩, trivial⟩, ⟨tiok150, trivial, trivial⟩⟩⟩, ⟨tiok157, ⟨tiok155, ⟨tiok153, ⟨tiok152, trivial, trivial⟩, trivial⟩, ⟨tiok156, trivial, trivial⟩⟩, ⟨tiok160, ⟨tiok159, ⟨tiok158, trivial, trivial⟩, trivial⟩, ⟨tiok161, trivial, trivial⟩⟩⟩⟩, ⟨tiok173, ⟨tiok168, ⟨tiok165, ⟨tiok164, ⟨tiok163, trivial, trivial⟩, trivial⟩, ⟨tiok167, trivial, trivial⟩⟩, ⟨tiok171, ⟨tiok170, ⟨tiok169, trivial, trivial⟩, trivial⟩, ⟨tiok172, trivial, trivial⟩⟩⟩, ⟨tiok178, ⟨tiok176, ⟨tiok175, ⟨tiok174, trivial, trivial⟩, trivial⟩, ⟨tiok177, trivial, trivial⟩⟩, ⟨tiok181, ⟨tiok180, ⟨tiok179, trivial, trivial⟩, trivial⟩, ⟨tiok182, trivial, trivial⟩⟩⟩⟩⟩⟩⟩

/-! The elements. -/
structure Shelf where
  top : Int
  left : Int
  right : Int
structure Rc where
  l : Int
  t : Int
  r : Int
  b : Int
structure Flt where
  side : Int
  box : Rc
structure Ln where
  box : Rc
  atoms : Int
  wide : Int
structure Sz where
  w : Int
  h : Int
structure It where
  side : Int
  clear : Int
  w : Int
  h : Int
structure Wn where
  side : Int
  clear : Int
  from_ : Int
  to : Int
  w : Int
  h : Int
  y : Int
abbrev ci (n : Int) : CV := .int .i64 n
def encInt : Enc Int where
  sz := 1
  E x := [ci x]
  D := fun
    | [.int .i64 x] => some x
    | _ => none
  d := 0
  hE _ := rfl
  hD cs x h := by split at h <;> simp at h; subst h; rfl
  pos := by decide
  hP _ := rfl
def encShelf : Enc Shelf where
  sz := 3
  E x := [ci x.top, ci x.left, ci x.right]
  D := fun
    | [.int .i64 a, .int .i64 b, .int .i64 c] => some ⟨a, b, c⟩
    | _ => none
  d := ⟨0, 0, 0⟩
  hE _ := rfl
  hD cs x h := by split at h <;> simp at h; subst h; rfl
  pos := by decide
  hP _ := rfl
def encRc : Enc Rc where
  sz := 4
  E x := [ci x.l, ci x.t, ci x.r, ci x.b]
  D := fun
    | [.int .i64 a, .int .i64 b, .int .i64 c, .int .i64 d] => some ⟨a, b, c, d⟩
    | _ => none
  d := ⟨0, 0, 0, 0⟩
  hE _ := rfl
  hD cs x h := by split at h <;> simp at h; subst h; rfl
  pos := by decide
  hP _ := rfl
def encFlt : Enc Flt where
  sz := 5
  E x := [ci x.side, ci x.box.l, ci x.box.t, ci x.box.r, ci x.box.b]
  D := fun
    | [.int .i64 s, .int .i64 a, .int .i64 b, .int .i64 c, .int .i64 d] => some ⟨s, ⟨a, b, c, d⟩⟩
    | _ => none
  d := ⟨0, ⟨0, 0, 0, 0⟩⟩
  hE _ := rfl
  hD cs x h := by split at h <;> simp at h; subst h; rfl
  pos := by decide
  hP _ := rfl
def encLn : Enc Ln where
  sz := 6
  E x := [ci x.box.l, ci x.box.t, ci x.box.r, ci x.box.b, ci x.atoms, ci x.wide]
  D := fun
    | [.int .i64 a, .int .i64 b, .int .i64 c, .int .i64 d, .int .i64 e, .int .i64 f] => some ⟨⟨a, b, c, d⟩, e, f⟩
    | _ => none
  d := ⟨⟨0, 0, 0, 0⟩, 0, 0⟩
  hE _ := rfl
  hD cs x h := by split at h <;> simp at h; subst h; rfl
  pos := by decide
  hP _ := rfl
def encSz : Enc Sz where
  sz := 2
  E x := [ci x.w, ci x.h]
  D := fun
    | [.int .i64 a, .int .i64 b] => some ⟨a, b⟩
    | _ => none
  d := ⟨0, 0⟩
  hE _ := rfl
  hD cs x h := by split at h <;> simp at h; subst h; rfl
  pos := by decide
  hP _ := rfl
def encIt : Enc It where
  sz := 4
  E x := [ci x.side, ci x.clear, ci x.w, ci x.h]
  D := fun
    | [.int .i64 a, .int .i64 b, .int .i64 c, .int .i64 d] => some ⟨a, b, c, d⟩
    | _ => none
  d := ⟨0, 0, 0, 0⟩
  hE _ := rfl
  hD cs x h := by split at h <;> simp at h; subst h; rfl
  pos := by decide
  hP _ := rfl
def encWn : Enc Wn where
  sz := 7
  E x := [ci x.side, ci x.clear, ci x.from_, ci x.to, ci x.w, ci x.h, ci x.y]
  D := fun
    | [.int .i64 a, .int .i64 b, .int .i64 c, .int .i64 d, .int .i64 e, .int .i64 f, .int .i64 g] => some ⟨a, b, c, d, e, f, g⟩
    | _ => none
  d := ⟨0, 0, 0, 0, 0, 0, 0⟩
  hE _ := rfl
  hD cs x h := by split at h <;> simp at h; subst h; rfl
  pos := by decide
  hP _ := rfl
def encAt : Nat → Option EncS := fun t =>
  match Nat.beq t 161 with
  | true => some ⟨_, encShelf⟩
  | false => match Nat.beq t 90 || Nat.beq t 108 with
    | true => some ⟨_, encFlt⟩
    | false => match Nat.beq t 46 || Nat.beq t 86 with
      | true => some ⟨_, encLn⟩
      | false => match Nat.beq t 30 || Nat.beq t 70 with
        | true => some ⟨_, encRc⟩
        | false => match Nat.beq t 48 || Nat.beq t 57 with
          | true => some ⟨_, encSz⟩
          | false => match Nat.beq t 99 || Nat.beq t 147 with
            | true => some ⟨_, encIt⟩
            | false => match Nat.beq t 3 with
              | true => some ⟨_, encInt⟩
              | false => match Nat.beq t 24 with
                | true => some ⟨_, encWn⟩
                | false => none

def tab : Tab := ⟨fun _ => false, tyTree.get, encAt, eqsF⟩
def tabL (f : Nat → Bool) : Tab := ⟨f, tyTree.get, encAt, eqsF⟩
theorem tabOK : TabOK Try.prog tab := ⟨(fun T ti h => BT.get_ok tyTree_ok h), eqsF_ok, (by kernel_rfl)⟩
theorem tabLOK (f : Nat → Bool) : TabOK Try.prog (tabL f) := ⟨(fun T ti h => BT.get_ok tyTree_ok h), eqsF_ok, (by kernel_rfl)⟩
end Go.Proofs.Ytcmedheeafiogaa
