/-
  From a contract to a given row.
-/
import Derived.Test.YtcmedheeafiogaaRows
import Derived.ProofKit
import Derived.SizedLaws
import Derived.Below
import Derived.Deep.Slices
import Derived.WideKeyArgs
import Derived.OpenShut
import Derived.Test.YtcmedheeafiogaaKg
namespace Go.Proofs.Ytcmedheeafiogaa
open Go.Sy
set_option linter.unusedVariables false
set_option linter.unusedSimpArgs false
open Go.ChangeShapes Go.WideShapes Go.RowKit
/-! From a contract to a given row. -/
theorem Try.own : ownKnob Try.prog.godebug = none := by kernel_rfl
theorem Try.laidOut : laidOutB Try.prog = true := by kernel_rfl

section
variable {H : Type} {enc : TypeId × Value → H} {P : Program}
theorem post_of_below {f : Func} {s : ChangeSpec} {apart fresh handsOn again : Bool} {w0 w1 : World} {args : Array Value} {v : Value} {ds gs : List (DataW H)} {before pa pv : List MemPlace}
    (hW : DataW.Whole enc P f.params.toList s.vars apart w0 args.toList ds gs before)
    (hres : ∀ (b : Nat) (sp : Nat → Bool) (hd : Bool), DataW.TrodAll enc P w1 b sp hd f.resultTypes.toList (v.resultList f.resultTypes.size) (s.fn H (ds ++ gs)).results [])
    (hargs : ∀ sp : Nat → Bool, (∀ p ∈ before, sp p.block = true) → DataW.TrodAll enc P w1 0 sp true f.params.toList args.toList (s.fn H (ds ++ gs)).args pa)
    (hvars : ∀ sp : Nat → Bool, (∀ p ∈ before, sp p.block = true) → DataW.TrodVars enc P w1 sp s.vars (s.fn H (ds ++ gs)).vars pv)
    (hps : before = pa ++ pv) (hb : Below w0.heap.size w0 w1)
    (hok : ∀ (j : Nat) (t : TypeId) (r : Value), f.resultTypes[j]? = some t → (v.resultList f.resultTypes.size)[j]? = some r → Value.okWide P w1 .any 0 t r) :
    s.post enc P f apart fresh handsOn again w0 args v w1 := by
  have hlt : ∀ p ∈ before, p.block < w0.heap.size := fun p hp => hW.lt p hp
  have hold : ∀ p ∈ before, (fun b => decide (b < w0.heap.size)) p.block = true := fun p hp => by simpa using hlt p hp
  refine ⟨ds, gs, before, [], pa, pv, hW, hres _ _ _, hargs _ hold, hvars _ hold, World.keptBut_mono (fun p hp => ⟨hp, ?_⟩) (hb.frame (· ∈ before)), fun _ => ?_⟩
  · rw [hps, List.mem_append] at hp
    exact Or.inr hp
  · obtain ⟨_, _, _, _, _, hz, hn⟩ := hW
    refine ⟨hok, _, _, ([] ++ pa) ++ pv, ⟨[] ++ pa, pv, trodAll_append (hargs _ (fun _ _ => rfl)) (hres _ _ _), hvars _ (fun _ _ => rfl), rfl, ?_, ?_⟩, ?_⟩
    · intro b off hp
      have hin : MemPlace.cell b off ∈ before := by rw [hps]; simpa using hp
      rw [hb.frozen (hlt _ hin)]
      exact hz b off hin
    · intro ha
      have := hn ha
      rw [hps] at this
      simpa using this
    · intro p hp _
      rw [hps]
      simpa using hp

/-- A type that is read as n whole numbers. -/
def IntsT (P : Program) (t : TypeId) (n : Nat) : Prop := ∀ (H : Type) (enc : TypeId × Value → H) (w : World) (base : Nat) (spare : Nat → Bool) (held : Bool) (fuel : Nat) (cs : List Value) (x : DataW H × List MemPlace),
  DataW.trod enc P w base spare held fuel t cs = some x → cs.length = n ∧ ∀ j, j < n → ∃ z : Int, cs[j]? = some (.int .i64 z)
theorem intsT_int {t : TypeId} (ht : P.underlying t = some (.int .i64)) : IntsT P t 1 := by
  intro H enc w base spare held fuel cs x h
  obtain ⟨n, rfl, _, _⟩ := DataW.trod_int ht h
  exact ⟨rfl, fun j hj => ⟨n, by rw [show j = 0 by omega]; rfl⟩⟩
theorem intsT_struct {t : TypeId} {n : Nat} {fs : Array Field} (ht : P.underlying t = some (.struct fs)) (hC : P.cellsOf t = n)
    (cov : ∀ j, j < n → ∃ (i k : Nat) (f : Field), fs[i]? = some f ∧ f.offset ≤ j ∧ j < f.offset + k ∧ P.cellsOf f.type = k ∧ IntsT P f.type k) : IntsT P t n := by
  intro H enc w base spare held fuel cs x h
  obtain ⟨xs, m, _, _, hl, hxl, hf⟩ := DataW.trod_struct ht h
  refine ⟨hl.trans hC, fun j hj => ?_⟩
  obtain ⟨i, k, f, hi, h1, h2, h3, h4⟩ := cov j hj
  have hlt : i < xs.length := by rw [hxl]; exact (Array.getElem?_eq_some_iff.1 hi).1
  have h5 := hf i f hi
  rw [List.getElem?_eq_getElem hlt] at h5
  obtain ⟨h6, h7⟩ := h4 H enc w base spare held m _ _ h5
  obtain ⟨z, hz⟩ := h7 (j - f.offset) (by omega)
  refine ⟨z, ?_⟩
  rw [List.getElem?_take, h3, if_pos (by omega), List.getElem?_drop, show f.offset + (j - f.offset) = j by omega] at hz
  exact hz
theorem intsT_array {t e : TypeId} {n k : Nat} (ht : P.underlying t = some (.array n e)) (hC : P.cellsOf t = n * k) (he : P.cellsOf e = k) (hk : 0 < k) (hI : IntsT P e k) : IntsT P t (n * k) := by
  intro H enc w base spare held fuel cs x h
  obtain ⟨xs, m, _, _, hl, hxl, hf⟩ := DataW.trod_array ht h
  refine ⟨hl.trans hC, fun j hj => ?_⟩
  have hq : j / k < n := Nat.div_lt_of_lt_mul (by rw [Nat.mul_comm]; exact hj)
  have h5 := hf (j / k) hq
  rw [List.getElem?_eq_getElem (by omega)] at h5
  obtain ⟨h6, h7⟩ := hI H enc w base spare held m _ _ h5
  obtain ⟨z, hz⟩ := h7 (j % k) (Nat.mod_lt _ hk)
  refine ⟨z, ?_⟩
  rw [List.getElem?_take, he, if_pos (Nat.mod_lt _ hk), List.getElem?_drop, show j / k * k + j % k = j by rw [Nat.mul_comm]; exact Nat.div_add_mod j k] at hz
  exact hz

/-- Elements of whole numbers alone. -/
def IntEnc {α : Type} (e : Enc α) : Prop := ∀ zs : List Int, zs.length = e.sz → ∃ x, e.E x = zs.map ci
theorem list_of {α : Type} (p : Nat → α → Prop) : ∀ n : Nat, (∀ i, i < n → ∃ x, p i x) → ∃ xs : List α, xs.length = n ∧ ∀ (i : Nat) x, xs[i]? = some x → p i x
  | 0, _ => ⟨[], rfl, fun i x h => by simp at h⟩
  | n + 1, h => by
    obtain ⟨xs, h1, h2⟩ := list_of p n fun i hi => h i (by omega)
    obtain ⟨x, hx⟩ := h n (by omega)
    refine ⟨xs ++ [x], by simp [h1], fun i y hy => ?_⟩
    rcases Nat.lt_or_ge i n with hi | hi
    · rw [List.getElem?_append_left (by omega)] at hy; exact h2 i y hy
    · rw [List.getElem?_append_right (by omega), h1] at hy
      have : i - n = 0 := by
        rcases Nat.eq_zero_or_pos (i - n) with h | h
        · exact h
        · rw [List.getElem?_eq_none (by simp; omega)] at hy; cases hy
      rw [this] at hy
      simp at hy
      subst hy
      rw [show i = n by omega]; exact hx
theorem ints_of {cs : List Value} {n : Nat} (hl : cs.length = n) (h : ∀ j, j < n → ∃ z : Int, cs[j]? = some (.int .i64 z)) : ∃ zs : List Int, zs.length = n ∧ cs = zs.map fun z => .int .i64 z := by
  obtain ⟨zs, h1, h2⟩ := list_of (fun j (z : Int) => cs[j]? = some (.int .i64 z)) n h
  refine ⟨zs, h1, List.ext_getElem? fun j => ?_⟩
  rw [List.getElem?_map]
  cases hz : zs[j]? with
  | none => rw [List.getElem?_eq_none (by have := List.getElem?_eq_none_iff.1 hz; omega)]; rfl
  | some z => rw [h2 j z hz]; rfl
theorem enc_of {α : Type} {e : Enc α} (hE : IntEnc e) {cs : List Value} (hl : cs.length = e.sz) (h : ∀ j, j < e.sz → ∃ z : Int, cs[j]? = some (.int .i64 z)) : ∃ x, ∀ ν, (e.E x).map (CV.den ν) = cs := by
  obtain ⟨zs, h1, rfl⟩ := ints_of hl h
  obtain ⟨x, hx⟩ := hE zs h1
  exact ⟨x, fun ν => by rw [hx, List.map_map]; rfl⟩

/-- What is known of a slice that came in: under a place, a view. -/
def SlIn {α : Type} (e : Enc α) (w0 : World) (v : Value) (xs : List α) (p : Pl) : Prop :=
  (∀ ν : Nat → Pl, ∀ h, ν h = p → v = (CV.slice h 0 e.sz xs.length).den ν) ∧ xs.length ≤ p.cap ∧
    ((p.nil = true ∧ xs = []) ∨ (p.nil = false ∧ p.b < w0.heap.size ∧ ∀ ν : Nat → Pl, ∀ (j : Nat) v, ((xs.flatMap e.E).map (CV.den ν))[j]? = some v → w0.cell? ⟨p.b, p.o + j, none⟩ = some v))
theorem open_sl {α : Type} {e : Enc α} (hE : IntEnc e) {w : World} {base : Nat} {t el : TypeId} {r : Reach} {v : Value} {d : DataW H} {ps : List MemPlace} (hu : P.underlying t = some (.slice el)) (hI : IntsT P el e.sz) (hC : P.cellsOf el = e.sz)
    (hval : Value.okWide P w r base t v) (h : DataW.Trod enc P w 0 (fun _ => true) true t v d ps) : ∃ (xs : List α) (p : Pl), SlIn e w v xs p ∧ (xs = [] ∨ ∃ els sp, d = .slice els sp ∧ els.length = xs.length) := by
  obtain ⟨fuel, h⟩ := h
  obtain ⟨a0, len0, cap0, rfl⟩ := okWide_slice hu hval
  rcases Go.Deep.open_slice hu h with ⟨hcs, hx⟩ | ⟨a, len, cap, m, n, D, Q, hcs, hb, hl, hm, hmm, hx, hi⟩
  · simp [Value.cells] at hcs
    obtain ⟨rfl, rfl, rfl⟩ := hcs
    exact ⟨[], ⟨0, 0, 0, true⟩, ⟨fun ν h hν => by simp [CV.den, hν], Nat.le_refl _, .inl ⟨rfl, rfl⟩⟩, .inl rfl⟩
  · simp [Value.cells] at hcs
    obtain ⟨rfl, rfl, rfl⟩ := hcs
    have hok : Cell.ok P w r base t (.slice (some a) len0 cap0) := by
      simp only [Value.okWide, hu, Cell.okWide] at hval
      exact hval
    simp only [Cell.ok, hu] at hok
    obtain ⟨_, _, _, hspot, row, cells, hshape, _⟩ := hok
    have hlt : a.block < w.heap.size := by
      rcases Nat.lt_or_ge a.block w.heap.size with c | c
      · exact c
      · simp [World.shape?, Array.getElem?_eq_none c] at hshape
    obtain ⟨ab, ao, asp⟩ := a
    simp only at hspot hlt
    subst hspot
    simp only [if_true] at hmm
    have hel : ∀ i, i < len0 → ∃ x : α, ∀ ν : Nat → Pl, ∀ (j : Nat) u, ((e.E x).map (CV.den ν))[j]? = some u → w.cell? ⟨ab, ao + (i * e.sz + j), none⟩ = some u := by
      intro i hil
      obtain ⟨cs', hc, ht⟩ := hi i (by omega)
      obtain ⟨h1, h2⟩ := hI H enc w 0 _ true n cs' _ ht
      obtain ⟨x, hx⟩ := enc_of hE h1 h2
      refine ⟨x, fun ν j u hu => ?_⟩
      rw [hx ν] at hu
      obtain ⟨_, hcl, hat⟩ := World.cells?_some hc
      have hj : j < P.cellsOf el := by rw [← hcl]; exact (List.getElem?_eq_some_iff.1 hu).1
      have := hat j hj
      rw [hu] at this
      rw [← this, hC]
      congr 1
      unfold Addr.add
      (repeat' split) <;> simp_all <;> omega
    obtain ⟨xs, hx1, hx2⟩ := list_of _ len0 hel
    refine ⟨xs, ⟨ab, ao, cap0, false⟩, ⟨fun ν h hν => by simp [CV.den, hν, hx1], by show xs.length ≤ cap0; omega, .inr ⟨rfl, hlt, fun ν j u hu => ?_⟩⟩, .inr ?_⟩
    · -- the cell j lies in element j / sz
      have hjl : j < (xs.flatMap e.E).length := by have := (List.getElem?_eq_some_iff.1 hu).1; simpa using this
      rw [Sy.flat_len] at hjl
      have hq : j / e.sz < xs.length := Nat.div_lt_of_lt_mul (by rw [Nat.mul_comm]; exact hjl)
      have hr : j % e.sz < e.sz := Nat.mod_lt _ e.pos
      have hg := Sy.flat_get e xs (j / e.sz) (j % e.sz) hq hr
      rw [show j / e.sz * e.sz + j % e.sz = j by rw [Nat.mul_comm]; exact Nat.div_add_mod j e.sz] at hg
      rw [List.getElem?_map, hg, ← List.getElem?_map] at hu
      have hxe : xs[j / e.sz]? = some (xs.getD (j / e.sz) e.d) := by simp [hq]
      have := hx2 _ _ hxe ν _ u hu
      rwa [show j / e.sz * e.sz + j % e.sz = j by rw [Nat.mul_comm]; exact Nat.div_add_mod j e.sz] at this
    · simp only [Prod.mk.injEq] at hx
      exact ⟨_, _, hx.1, by simp [hx1]⟩
theorem open_i {w : World} {base : Nat} {t : TypeId} {k : IntKind} {r : Reach} {v : Value} {d : DataW H} {ps : List MemPlace} (hu : P.underlying t = some (.int k)) (hval : Value.okWide P w r base t v)
    (h : DataW.Trod enc P w 0 (fun _ => true) true t v d ps) : ∃ n : Int, v = .int k n ∧ (Lit.int k n).wf = true := by
  obtain ⟨n, rfl, _, _, hw⟩ := open_int hu hval h
  exact ⟨n, rfl, hw⟩
theorem open_ag {α : Type} {e : Enc α} (hE : IntEnc e) {w : World} {base : Nat} {t : TypeId} {fs : Array Field} {r : Reach} {v : Value} {d : DataW H} {ps : List MemPlace} (hu : P.underlying t = some (.struct fs)) (hI : IntsT P t e.sz)
    (hval : Value.okWide P w r base t v) (h : DataW.Trod enc P w 0 (fun _ => true) true t v d ps) : ∃ x : α, ∀ ν, v = (PV.agg (e.E x)).den ν := by
  obtain ⟨cs, rfl, _⟩ := okWide_struct hu hval
  obtain ⟨fuel, hf⟩ := h
  obtain ⟨h1, h2⟩ := hI H enc w 0 _ true fuel _ _ hf
  obtain ⟨x, hx⟩ := enc_of hE h1 h2
  refine ⟨x, fun ν => ?_⟩
  simp only [PV.den, hx ν, Value.cells]
end
end Go.Proofs.Ytcmedheeafiogaa

namespace Go.Proofs.Ytcmedheeafiogaa
open Go.Sy
set_option linter.unusedVariables false
set_option linter.unusedSimpArgs false
open Go.ChangeShapes Go.WideShapes Go.RowKit
abbrev tru (x : SV) (_ : List (Option Chunk)) : Prop := x = .v (bv true)
def plA (l : List (Pl × Option Chunk)) (h : Nat) : Pl := match l[h]? with
  | some (p, _) => p
  | none => ⟨0, 0, 0, true⟩
theorem holds_v {w0 : World} (l : List (Pl × Option Chunk)) (hv : ∀ (i : Nat) p c, l[i]? = some (p, some c) → ∀ ν' : Nat → Pl, ν' i = p → c.sat ν' (fun b => b < w0.heap.size) p w0 (fun _ => False)) :
    Holds (Lt l.length) (plA l) (fun b => b < w0.heap.size) (hpL (l.map (·.2))) w0 (fun _ _ => False) := by
  have key : ∀ h c, hpL (l.map (·.2)) h = some c → ∃ p, l[h]? = some (p, some c) := by
    intro h c hc
    unfold hpL at hc
    rw [List.getElem?_map] at hc
    cases e : l[h]? with
    | none => rw [e] at hc; simp at hc
    | some x => rw [e] at hc; obtain ⟨p, c'⟩ := x; simp at hc; subst hc; exact ⟨p, rfl⟩
  refine ⟨fun ν' hν h c hc => ?_, fun _ _ _ h => h, fun _ _ _ h => h.elim, fun _ _ h => h.elim, fun _ _ h => h.elim, fun _ h => h, fun h c hc => ?_⟩
  · obtain ⟨p, hp⟩ := key h c hc
    have hlt := (List.getElem?_eq_some_iff.1 hp).1
    have e : ν' h = p := by rw [hν h hlt]; unfold plA; rw [hp]
    rw [e]
    exact hv h p c hp ν' e
  · obtain ⟨p, hp⟩ := key h c hc
    exact (List.getElem?_eq_some_iff.1 hp).1
theorem view_sat {α : Type} {e : Enc α} {w0 : World} {v : Value} {xs : List α} {p : Pl} (h : SlIn e w0 v xs p) (ν' : Nat → Pl) : (Chunk.view e xs).sat ν' (fun b => b < w0.heap.size) p w0 (fun _ => False) := by
  obtain ⟨_, h2, h3⟩ := h
  refine ⟨fun _ h => h, h2, ?_⟩
  rcases h3 with h3 | ⟨a, b, c⟩
  · exact .inl h3
  · exact .inr ⟨a, b, fun j v hj => c ν' j v hj⟩
theorem trodAll_stays {H : Type} {enc : TypeId × Value → H} {P : Program} (hl : laidOutB P = true) {w0 w1 : World} {sp : Nat → Bool} : ∀ {ts : List TypeId} {vs : List Value} {ds : List (DataW H)} {ps : List MemPlace},
    ts.all (fun t => P.readableRec t && decide (t < P.types.size)) = true → DataW.TrodAll enc P w0 0 (fun _ => true) true ts vs ds ps → (∀ p ∈ ps, w0.sameAt w1 p) → (∀ p ∈ ps, sp p.block = true) → DataW.TrodAll enc P w1 0 sp true ts vs ds ps
  | [], vs, ds, ps, _, h, _, _ => by
    obtain ⟨rfl, rfl, rfl⟩ := trodAll_nil h
    exact rfl
  | t :: ts, vs, ds, ps, hr, h, hs, hsp => by
    obtain ⟨v, vs', d, ds', p, q, rfl, rfl, rfl, h1, h2⟩ := trodAll_cons h
    simp only [List.all_cons, Bool.and_eq_true, decide_eq_true_eq] at hr
    exact ⟨p, q, WideElems.Trod_stays hl hr.1.1 hr.1.2 h1 (fun x hx => hs x (by simp [hx])) (fun x hx => hsp x (by simp [hx])),
      trodAll_stays hl (by simpa using hr.2) h2 (fun x hx => hs x (by simp [hx])) (fun x hx => hsp x (by simp [hx])), rfl⟩

theorem law_post {H : Type} {enc : TypeId × Value → H} {P : Program} (hlay : laidOutB P = true) {f : FuncId} {fn : Func} {s : ChangeSpec} {w0 : World} {args : Array Value} {ds gs : List (DataW H)} {before : List MemPlace} {pvs : List PV} {l : List (Pl × Option Chunk)}
    (hW : DataW.Whole enc P fn.params.toList s.vars false w0 args.toList ds gs before) (hvars : s.vars = []) {tb : TypeId} (hres : fn.resultTypes = #[tb]) (htb : P.underlying tb = some .bool)
    (hread : fn.params.toList.all (fun t => P.readableRec t && decide (t < P.types.size)) = true)
    (hspec : (s.fn H ds).results = [.lit (.bool true)] ∧ (s.fn H ds).args = ds ∧ (s.fn H ds).vars = [])
    (T : Tri P f pvs (l.map (·.2)) tru) (hargs : ∀ ν : Nat → Pl, (∀ (i : Nat) p c, l[i]? = some (p, c) → ν i = p) → args = (pvs.map (PV.den ν)).toArray)
    (hv : ∀ (i : Nat) p c, l[i]? = some (p, some c) → ∀ ν' : Nat → Pl, ν' i = p → c.sat ν' (fun b => b < w0.heap.size) p w0 (fun _ => False)) :
    Calls P f args w0 fun e w1 => ∃ v, e = .returned v ∧ s.post enc P fn false true false false w0 args v w1 := by
  have hH := holds_v l hv
  have hpl : ∀ (i : Nat) p c, l[i]? = some (p, c) → plA l i = p := fun i p c h => by unfold plA; rw [h]
  have hst : ∀ ν'', Agree (Lt (l.map (·.2)).length) (plA l) ν'' → pvs.map (PV.den ν'') = pvs.map (PV.den (plA l)) := by
    intro ν'' hν
    have h1 := hargs (plA l) hpl
    have h2 := hargs ν'' (fun i p c h => by rw [hν i (by show i < _; rw [List.length_map]; exact (List.getElem?_eq_some_iff.1 h).1)]; exact hpl i p c h)
    rw [h1] at h2
    simpa using (congrArg Array.toList h2).symm
  have hc := T.2 (plA l) (fun b => b < w0.heap.size) (fun _ _ => False) w0 (by rw [List.length_map]; exact hH) hst
  rw [← hargs (plA l) hpl] at hc
  refine hc.mono ?_
  rintro e w1 ⟨res, post, ν1, V', fp', rfl, _, _, _, _, hE, hR⟩
  refine ⟨_, rfl, ?_⟩
  have hres2 : res.den ν1 = .bool true := by rw [show res = .v (bv true) from hR]; rfl
  rw [hres2]
  have hb : Below w0.heap.size w0 w1 := ⟨hE.os, hE.tape, hE.output, hE.size, fun k hk => hE.same k hk (fun ⟨_, h⟩ => h)⟩
  have hW' := hW
  obtain ⟨p, q, hA, hV, hps, hz, hn⟩ := hW
  rw [hvars] at hV
  obtain ⟨rfl, rfl⟩ := trodVars_none hV
  rw [List.append_nil] at hps
  subst hps
  have hlt : ∀ x ∈ before, x.block < w0.heap.size := fun x hx => hW'.lt x hx
  refine post_of_below (pa := before) (pv := []) hW' ?_ ?_ ?_ (by simp) hb ?_
  · intro b sp hd
    rw [List.append_nil, hspec.1, hres]
    exact trodAll_mk1 (shut_bool htb true)
  · intro sp hsp
    rw [List.append_nil, hspec.2.1]
    refine trodAll_stays hlay hread hA (fun x hx => ?_) hsp
    cases x with
    | cell b off => exact hb.cell (p := ⟨b, off, none⟩) (hlt _ hx)
    | map b => exact hb.block b (hlt _ hx)
  · intro sp hsp
    rw [List.append_nil, hspec.2.2, hvars]
    rfl
  · intro j t r ht hr
    rw [hres] at ht hr
    cases j with
    | zero =>
      simp at ht; subst ht
      simp [Value.resultList] at hr; subst hr
      exact okWide_bool_mk htb true
    | succ j => simp at ht
end Go.Proofs.Ytcmedheeafiogaa

namespace Go.Proofs.Ytcmedheeafiogaa
open Go.Sy
set_option linter.unusedVariables false
set_option linter.unusedSimpArgs false
open Go.ChangeShapes Go.WideShapes Go.RowKit
theorem cells3 : Try.prog.cellsOf 3 = 1 := by kernel_rfl
theorem cells24 : Try.prog.cellsOf 24 = 7 := by kernel_rfl
theorem cells48 : Try.prog.cellsOf 48 = 2 := by kernel_rfl
theorem cells70 : Try.prog.cellsOf 70 = 4 * 1 := by kernel_rfl
theorem cells99 : Try.prog.cellsOf 99 = 4 := by kernel_rfl
theorem cells108 : Try.prog.cellsOf 108 = 5 := by kernel_rfl
theorem bytes24 : Try.prog.bytesOf 24 = 56 := by kernel_rfl
theorem bytes48 : Try.prog.bytesOf 48 = 16 := by kernel_rfl
theorem bytes99 : Try.prog.bytesOf 99 = 32 := by kernel_rfl
theorem bytes108 : Try.prog.bytesOf 108 = 40 := by kernel_rfl
theorem ints3 : IntsT Try.prog 3 1 := intsT_int Try.underlying3
theorem ints70 : IntsT Try.prog 70 4 := intsT_array (n := 4) (k := 1) Try.underlying70 cells70 cells3 (by omega) ints3
theorem ints108 : IntsT Try.prog 108 5 := by
  refine intsT_struct Try.underlying108 cells108 fun j hj => ?_
  rcases Nat.eq_zero_or_pos j with h | h
  · exact ⟨0, 1, _, rfl, by show 0 ≤ j; omega, by show j < 0 + 1; omega, cells3, ints3⟩
  · exact ⟨1, 4, _, rfl, h, by show j < 1 + 4; omega, cells70, ints70⟩
theorem ints24 : IntsT Try.prog 24 7 := by
  refine intsT_struct Try.underlying24 cells24 fun j hj => ?_
  match j, hj with
  | 0, _ => exact ⟨0, 1, _, rfl, Nat.le_refl _, Nat.lt_succ_self _, cells3, ints3⟩
  | 1, _ => exact ⟨1, 1, _, rfl, Nat.le_refl _, Nat.lt_succ_self _, cells3, ints3⟩
  | 2, _ => exact ⟨2, 1, _, rfl, Nat.le_refl _, Nat.lt_succ_self _, cells3, ints3⟩
  | 3, _ => exact ⟨3, 1, _, rfl, Nat.le_refl _, Nat.lt_succ_self _, cells3, ints3⟩
  | 4, _ => exact ⟨4, 1, _, rfl, Nat.le_refl _, Nat.lt_succ_self _, cells3, ints3⟩
  | 5, _ => exact ⟨5, 1, _, rfl, Nat.le_refl _, Nat.lt_succ_self _, cells3, ints3⟩
  | 6, _ => exact ⟨6, 1, _, rfl, Nat.le_refl _, Nat.lt_succ_self _, cells3, ints3⟩
  | j + 7, h => omega
theorem ints48 : IntsT Try.prog 48 2 := by
  refine intsT_struct Try.underlying48 cells48 fun j hj => ?_
  match j, hj with
  | 0, _ => exact ⟨0, 1, _, rfl, Nat.le_refl _, Nat.lt_succ_self _, cells3, ints3⟩
  | 1, _ => exact ⟨1, 1, _, rfl, Nat.le_refl _, Nat.lt_succ_self _, cells3, ints3⟩
  | j + 2, h => omega
theorem ints99 : IntsT Try.prog 99 4 := by
  refine intsT_struct Try.underlying99 cells99 fun j hj => ?_
  match j, hj with
  | 0, _ => exact ⟨0, 1, _, rfl, Nat.le_refl _, Nat.lt_succ_self _, cells3, ints3⟩
  | 1, _ => exact ⟨1, 1, _, rfl, Nat.le_refl _, Nat.lt_succ_self _, cells3, ints3⟩
  | 2, _ => exact ⟨2, 1, _, rfl, Nat.le_refl _, Nat.lt_succ_self _, cells3, ints3⟩
  | 3, _ => exact ⟨3, 1, _, rfl, Nat.le_refl _, Nat.lt_succ_self _, cells3, ints3⟩
  | j + 4, h => omega
theorem ieFlt : IntEnc encFlt := fun zs h => by
  match zs, h with
  | [a, b, c, d, e], _ => exact ⟨⟨a, ⟨b, c, d, e⟩⟩, rfl⟩
theorem ieWn : IntEnc encWn := fun zs h => by
  match zs, h with
  | [a, b, c, d, e, f, g], _ => exact ⟨⟨a, b, c, d, e, f, g⟩, rfl⟩
theorem ieSz : IntEnc encSz := fun zs h => by
  match zs, h with
  | [a, b], _ => exact ⟨⟨a, b⟩, rfl⟩
theorem ieIt : IntEnc encIt := fun zs h => by
  match zs, h with
  | [a, b, c, d], _ => exact ⟨⟨a, b, c, d⟩, rfl⟩
theorem wf_u8 {n : Int} (h : (Lit.int .u8 n).wf = true) : 0 ≤ n ∧ n < 256 := by
  have := bounds_u8 h; omega
theorem len_of {H : Type} {P : Program} {ts : List TypeId} {ds : List (DataW H)} (hsz : (DataW.weightsEach P ts ds).all (· ≤ reachBytes) = true) {j : Nat} {t e : TypeId} {els sp : List (DataW H)} {n b : Nat} (ht : ts[j]? = some t) (hd : ds[j]? = some (.slice els sp)) (hu : P.underlying t = some (.slice e))
    (hb : P.bytesOf e = b) (h1 : 1 ≤ b) (hn : els.length = n) : n < 2 ^ 48 := by
  have h := sized_slice hsz ht hd hu
  rw [hb] at h
  have hr : reachBytes < 2 ^ 47 := reachBytes_lt
  have : els.length ≤ (els.length + sp.length) * b := Nat.le_trans (Nat.le_add_right _ _) (Nat.le_mul_of_pos_right _ h1)
  omega
end Go.Proofs.Ytcmedheeafiogaa
