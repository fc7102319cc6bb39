/-
  PlaceTall: a taller float never stands higher, and one that is as tall as one row stands where one without a height does: for every input the call returns true and leaves its arguments as they were. Conditions: none beyond the given row's own.
-/
import Derived.Test.YtcmedheeafiogaaKh
namespace Go.Proofs.Ytcmedheeafiogaa
open Go.Sy
set_option linter.unusedVariables false
set_option linter.unusedSimpArgs false
def tall (w : Wn) (m : Int) : Wn := ⟨w.side, w.clear, w.from_, w.to, w.w, IntKind.i64.wrap (w.h + IntKind.i64.wrap m), w.y⟩
def setH (w : Wn) (h : Int) : Wn := ⟨w.side, w.clear, w.from_, w.to, w.w, h, w.y⟩
theorem t3 (law : ∀ (l : List Flt) (w : Wn) (m : Int), bgB l 30 = true → rightB w = true → w.h ≤ 140737488355328 → 0 ≤ m → m < 256 →
      (findR l (tall w m)).t ≥ (findR l w).t ∧ (findR l (setH w 0)).t = (findR l (setH w 1)).t ∧ (findR l (setH w 0)).l = (findR l (setH w 1)).l ∧ (findR l (setH w 0)).t ≤ (findR l w).t)
    (l : List Flt) (hl : l.length < 2 ^ 48) (w : Wn) (m : Int) (h0 : 0 ≤ m) (h1 : m < 256) :
    Tri Try.prog 3 [.one (.slice 0 0 5 l.length), wnP w, .one (.int .u8 m)] [some (.view encFlt l)] tru := by
  (refine tri_x tabOK Try.func3 rfl rfl Try.ntmps3 (by simp) fun C => ?_; (conv => whnf); repeat ((first | (refine cnd (by first | assumption | omega | decide) ?_) | (refine cnd0 ?_) | (refine Chk.mk (by kernel_rfl) ?_) | (refine xdraw_rule tabOK ?_)); (conv => whnf)))
  (refine xcallR (t17 l hl 30 (by omega)) rfl rfl rfl (by repeat (first | exact trivial | refine ⟨rfl, ?_⟩)) ?_)
  rintro x post (⟨e, rfl, rfl⟩ | ⟨e, rfl, rfl⟩)
  · have ho := bgB_ok e (by omega)
    ((conv => whnf); repeat ((first | (refine cnd (by first | assumption | omega | decide) ?_) | (refine cnd0 ?_) | (refine Chk.mk (by kernel_rfl) ?_) | (refine xdraw_rule tabOK ?_)); (conv => whnf)))
    (refine xcall (t18) rfl rfl rfl (by repeat (first | exact trivial | refine ⟨rfl, ?_⟩)) ?_; (conv => whnf); repeat ((first | (refine cnd (by first | assumption | omega | decide) ?_) | (refine cnd0 ?_) | (refine Chk.mk (by kernel_rfl) ?_) | (refine xdraw_rule tabOK ?_)); (conv => whnf)))
    (refine Br.mk (fun c1 => ?_) (fun c1 => ?_) <;> ((conv => whnf); repeat ((first | (refine cnd (by first | assumption | omega | decide) ?_) | (refine cnd0 ?_) | (refine Chk.mk (by kernel_rfl) ?_) | (refine xdraw_rule tabOK ?_)); (conv => whnf))))
    · exact absurd c1 (by decide)
    · (refine xcall (t19 w) rfl rfl rfl (by repeat (first | exact trivial | refine ⟨rfl, ?_⟩)) ?_; (conv => whnf); repeat ((first | (refine cnd (by first | assumption | omega | decide) ?_) | (refine cnd0 ?_) | (refine Chk.mk (by kernel_rfl) ?_) | (refine xdraw_rule tabOK ?_)); (conv => whnf)))
      (refine Br.mk (fun c2 => ?_) (fun c2 => ?_) <;> ((conv => whnf); repeat ((first | (refine cnd (by first | assumption | omega | decide) ?_) | (refine cnd0 ?_) | (refine Chk.mk (by kernel_rfl) ?_) | (refine xdraw_rule tabOK ?_)); (conv => whnf))))
      · (refine xcall (t18) rfl rfl rfl (by repeat (first | exact trivial | refine ⟨rfl, ?_⟩)) ?_; (conv => whnf); repeat ((first | (refine cnd (by first | assumption | omega | decide) ?_) | (refine cnd0 ?_) | (refine Chk.mk (by kernel_rfl) ?_) | (refine xdraw_rule tabOK ?_)); (conv => whnf)))
        exact xend [0] (.v (bv true)) ([some (.view encFlt l)]) (rfl) rfl rfl rfl (by repeat' (first | exact trivial | exact rfl | (refine And.intro ?_ ?_) | omega)) (by repeat' (first | exact trivial | exact rfl | (refine And.intro ?_ ?_) | omega))
      · have hr : rightB w = true := by simpa using c2
        (refine Br.mk (fun c3 => ?_) (fun c3 => ?_) <;> ((conv => whnf); repeat ((first | (refine cnd (by first | assumption | omega | decide) ?_) | (refine cnd0 ?_) | (refine Chk.mk (by kernel_rfl) ?_) | (refine xdraw_rule tabOK ?_)); (conv => whnf))))
        · (refine xcall (t18) rfl rfl rfl (by repeat (first | exact trivial | refine ⟨rfl, ?_⟩)) ?_; (conv => whnf); repeat ((first | (refine cnd (by first | assumption | omega | decide) ?_) | (refine cnd0 ?_) | (refine Chk.mk (by kernel_rfl) ?_) | (refine xdraw_rule tabOK ?_)); (conv => whnf)))
          exact xend [0] (.v (bv true)) ([some (.view encFlt l)]) (rfl) rfl rfl rfl (by repeat' (first | exact trivial | exact rfl | (refine And.intro ?_ ?_) | omega)) (by repeat' (first | exact trivial | exact rfl | (refine And.intro ?_ ?_) | omega))
        · have hh : w.h ≤ 140737488355328 := by simpa using c3
          obtain ⟨k1, k2, k3, k4⟩ := law l w m e hr hh h0 h1
          (repeat ((first | (refine cnd (by first | assumption | omega | decide) ?_) | (refine cnd0 ?_) | (refine Chk.mk (by kernel_rfl) ?_) | (refine xdraw_rule tabOK ?_)); (conv => whnf)))
          (refine dcallR (t21 w) rfl fun hT_ => ?_; (conv => whnf); refine cnd hT_ (cnd rfl (cnd (by repeat (first | exact trivial | refine ⟨rfl, ?_⟩)) (cnd rfl (cnd0 ?_)))); clear hT_; (conv => whnf); repeat ((first | (refine cnd (by first | assumption | omega | decide) ?_) | (refine cnd0 ?_) | (refine Chk.mk (by kernel_rfl) ?_) | (refine xdraw_rule tabOK ?_)); (conv => whnf)))
          (refine dcallR (t20 l ho w) rfl fun hT_ => ?_; (conv => whnf); refine cnd hT_ (cnd rfl (cnd (by repeat (first | exact trivial | refine ⟨rfl, ?_⟩)) (cnd rfl (cnd0 ?_)))); clear hT_; (conv => whnf); repeat ((first | (refine cnd (by first | assumption | omega | decide) ?_) | (refine cnd0 ?_) | (refine Chk.mk (by kernel_rfl) ?_) | (refine xdraw_rule tabOK ?_)); (conv => whnf)))
          (refine dcallR (t21 (tall w m)) rfl fun hT_ => ?_; (conv => whnf); refine cnd hT_ (cnd rfl (cnd (by repeat (first | exact trivial | refine ⟨rfl, ?_⟩)) (cnd rfl (cnd0 ?_)))); clear hT_; (conv => whnf); repeat ((first | (refine cnd (by first | assumption | omega | decide) ?_) | (refine cnd0 ?_) | (refine Chk.mk (by kernel_rfl) ?_) | (refine xdraw_rule tabOK ?_)); (conv => whnf)))
          (refine dcallR (t20 l ho (tall w m)) rfl fun hT_ => ?_; (conv => whnf); refine cnd hT_ (cnd rfl (cnd (by repeat (first | exact trivial | refine ⟨rfl, ?_⟩)) (cnd rfl (cnd0 ?_)))); clear hT_; (conv => whnf); repeat ((first | (refine cnd (by first | assumption | omega | decide) ?_) | (refine cnd0 ?_) | (refine Chk.mk (by kernel_rfl) ?_) | (refine xdraw_rule tabOK ?_)); (conv => whnf)))
          (refine dcallR (t21 (setH w 0)) rfl fun hT_ => ?_; (conv => whnf); refine cnd hT_ (cnd rfl (cnd (by repeat (first | exact trivial | refine ⟨rfl, ?_⟩)) (cnd rfl (cnd0 ?_)))); clear hT_; (conv => whnf); repeat ((first | (refine cnd (by first | assumption | omega | decide) ?_) | (refine cnd0 ?_) | (refine Chk.mk (by kernel_rfl) ?_) | (refine xdraw_rule tabOK ?_)); (conv => whnf)))
          (refine dcallR (t20 l ho (setH w 0)) rfl fun hT_ => ?_; (conv => whnf); refine cnd hT_ (cnd rfl (cnd (by repeat (first | exact trivial | refine ⟨rfl, ?_⟩)) (cnd rfl (cnd0 ?_)))); clear hT_; (conv => whnf); repeat ((first | (refine cnd (by first | assumption | omega | decide) ?_) | (refine cnd0 ?_) | (refine Chk.mk (by kernel_rfl) ?_) | (refine xdraw_rule tabOK ?_)); (conv => whnf)))
          (refine dcallR (t21 (setH w 1)) rfl fun hT_ => ?_; (conv => whnf); refine cnd hT_ (cnd rfl (cnd (by repeat (first | exact trivial | refine ⟨rfl, ?_⟩)) (cnd rfl (cnd0 ?_)))); clear hT_; (conv => whnf); repeat ((first | (refine cnd (by first | assumption | omega | decide) ?_) | (refine cnd0 ?_) | (refine Chk.mk (by kernel_rfl) ?_) | (refine xdraw_rule tabOK ?_)); (conv => whnf)))
          (refine dcallR (t20 l ho (setH w 1)) rfl fun hT_ => ?_; (conv => whnf); refine cnd hT_ (cnd rfl (cnd (by repeat (first | exact trivial | refine ⟨rfl, ?_⟩)) (cnd rfl (cnd0 ?_)))); clear hT_; (conv => whnf); repeat ((first | (refine cnd (by first | assumption | omega | decide) ?_) | (refine cnd0 ?_) | (refine Chk.mk (by kernel_rfl) ?_) | (refine xdraw_rule tabOK ?_)); (conv => whnf)))
          (refine Br.mk (fun d1 => ?_) (fun d1 => ?_) <;> ((conv => whnf); repeat ((first | (refine cnd (by first | assumption | omega | decide) ?_) | (refine cnd0 ?_) | (refine Chk.mk (by kernel_rfl) ?_) | (refine xdraw_rule tabOK ?_)); (conv => whnf))))
          · (refine Br.mk (fun d2 => ?_) (fun d2 => ?_) <;> ((conv => whnf); repeat ((first | (refine cnd (by first | assumption | omega | decide) ?_) | (refine cnd0 ?_) | (refine Chk.mk (by kernel_rfl) ?_) | (refine xdraw_rule tabOK ?_)); (conv => whnf))))
            · (refine Br.mk (fun d3 => ?_) (fun d3 => ?_) <;> ((conv => whnf); repeat ((first | (refine cnd (by first | assumption | omega | decide) ?_) | (refine cnd0 ?_) | (refine Chk.mk (by kernel_rfl) ?_) | (refine xdraw_rule tabOK ?_)); (conv => whnf))))
              · exact xend [0] (.v (bv true)) ([some (.view encFlt l)]) (rfl) rfl rfl rfl (by repeat' (first | exact trivial | exact rfl | (refine And.intro ?_ ?_) | omega | exact decide_eq_true k4)) (by repeat' (first | exact trivial | exact rfl | (refine And.intro ?_ ?_) | omega | exact decide_eq_true k4))
              · exact absurd k3 (of_decide_eq_false d3)
            · exact absurd k2 (of_decide_eq_false d2)
          · exact absurd k1 (of_decide_eq_false d1)
  · ((conv => whnf); repeat ((first | (refine cnd (by first | assumption | omega | decide) ?_) | (refine cnd0 ?_) | (refine Chk.mk (by kernel_rfl) ?_) | (refine xdraw_rule tabOK ?_)); (conv => whnf)))
    (refine xcall (t18) rfl rfl rfl (by repeat (first | exact trivial | refine ⟨rfl, ?_⟩)) ?_; (conv => whnf); repeat ((first | (refine cnd (by first | assumption | omega | decide) ?_) | (refine cnd0 ?_) | (refine Chk.mk (by kernel_rfl) ?_) | (refine xdraw_rule tabOK ?_)); (conv => whnf)))
    (refine Br.mk (fun c1 => ?_) (fun c1 => ?_) <;> ((conv => whnf); repeat ((first | (refine cnd (by first | assumption | omega | decide) ?_) | (refine cnd0 ?_) | (refine Chk.mk (by kernel_rfl) ?_) | (refine xdraw_rule tabOK ?_)); (conv => whnf))))
    · exact absurd c1 (by decide)
    · (refine xcall (t18) rfl rfl rfl (by repeat (first | exact trivial | refine ⟨rfl, ?_⟩)) ?_; (conv => whnf); repeat ((first | (refine cnd (by first | assumption | omega | decide) ?_) | (refine cnd0 ?_) | (refine Chk.mk (by kernel_rfl) ?_) | (refine xdraw_rule tabOK ?_)); (conv => whnf)))
      exact xend [0] (.v (bv true)) ([some (.view encFlt l)]) (rfl) rfl rfl rfl (by repeat' (first | exact trivial | exact rfl | (refine And.intro ?_ ?_) | omega)) (by repeat' (first | exact trivial | exact rfl | (refine And.intro ?_ ?_) | omega))

/-! The law, plainly. -/
theorem atB_mono {fl : List Flt} (h : FL fl) {w : Wn} (hr : RW w) {a b : Int} (hab : max a 1 ≤ max b 1) (hb : b ≤ 1125899906842624) {y : Int} (hy : -far ≤ y ∧ y ≤ 9007199254740992) (k : atB fl (setH w b) y = true) : atB fl (setH w a) y = true := by
  have ea := rowE_eq (h := a) hy (by omega)
  have eb := rowE_eq (h := b) hy hb
  have hm := bnd_mono h hy.1 (show y < y + max a 1 by omega) (show y + max a 1 ≤ y + max b 1 by omega) (by omega)
  have ra := bnd_rng h hy.1 (show y < y + max a 1 by omega) (by omega)
  have rb := bnd_rng h hy.1 (show y < y + max b 1 by omega) (by omega)
  rw [← ea, ← eb] at hm
  rw [← ea] at ra
  rw [← eb] at rb
  have hf := hr.f
  have ht := hr.t
  unfold far at ra rb
  unfold atB at k ⊢
  rcases Bool.or_eq_true_iff.1 k with k | k
  · refine Bool.or_eq_true_iff.2 (.inl ?_)
    unfold roomB at k ⊢
    have k := of_decide_eq_true k
    show decide _ = true
    refine decide_eq_true ?_
    show w.w ≤ IntKind.i64.wrap (min w.to (bnd fl y (rowE y a)).2 - max w.from_ (bnd fl y (rowE y a)).1)
    have k : w.w ≤ IntKind.i64.wrap (min w.to (bnd fl y (rowE y b)).2 - max w.from_ (bnd fl y (rowE y b)).1) := k
    rw [W_id (by omega) (by omega)] at k ⊢
    omega
  · refine Bool.or_eq_true_iff.2 (.inr ?_)
    unfold sticksB at k ⊢
    simp only [Bool.and_eq_true, decide_eq_true_eq] at k ⊢
    obtain ⟨k1, k2, k3⟩ := k
    have k2 : (atP (setH w a) w.from_ w.to).1 ≥ (bnd fl y (rowE y b)).1 := k2
    have k3 : (atP (setH w a) w.from_ w.to).2 ≤ (bnd fl y (rowE y b)).2 := k3
    exact ⟨k1, by show (atP (setH w a) w.from_ w.to).1 ≥ (bnd fl y (rowE y a)).1; omega, by show (atP (setH w a) w.from_ w.to).2 ≤ (bnd fl y (rowE y a)).2; omega⟩
theorem findY_mono {fl : List Flt} (h : FL fl) {w : Wn} (hr : RW w) {a b : Int} (hab : max a 1 ≤ max b 1) (hb : b ≤ 1125899906842624) : findY fl (setH w a) ≤ findY fl (setH w b) := by
  have hs := start_rng h hr
  have e : startF fl (setH w a) = startF fl w := rfl
  have e2 : startF fl (setH w b) = startF fl w := rfl
  unfold findY firstF
  rw [e, e2]
  exact firstL_mono _ _ (tops_sorted (shOf_wf h.ok).sorted _) fun z hz => atB_mono h hr hab hb (path_rng h ⟨by unfold far; omega, by omega⟩ hz)
theorem tall_law (l : List Flt) (w : Wn) (m : Int) (e : bgB l 30 = true) (hr : rightB w = true) (hh : w.h ≤ 140737488355328) (h0 : 0 ≤ m) (h1 : m < 256) :
    (findR l (tall w m)).t ≥ (findR l w).t ∧ (findR l (setH w 0)).t = (findR l (setH w 1)).t ∧ (findR l (setH w 0)).l = (findR l (setH w 1)).l ∧ (findR l (setH w 0)).t ≤ (findR l w).t := by
  have hF := fl_of e (by omega)
  have hW := rw_of hr
  have hh1 := hW.h
  have e1 : tall w m = setH w (IntKind.i64.wrap (w.h + IntKind.i64.wrap m)) := rfl
  have e2 : IntKind.i64.wrap (w.h + IntKind.i64.wrap m) = w.h + m := by rw [W_id (n := m) (by omega) (by omega), W_id (by omega) (by omega)]
  have e3 : w = setH w w.h := rfl
  have e4 : ∀ y, atB l (setH w 0) y = atB l (setH w 1) y := fun y => rfl
  have e5 : ∀ y, atX l (setH w 0) y = atX l (setH w 1) y := fun y => rfl
  have e6 : findY l (setH w 0) = findY l (setH w 1) := by
    unfold findY
    rw [show atB l (setH w 0) = atB l (setH w 1) from funext e4]; rfl
  refine ⟨?_, e6, ?_, ?_⟩
  · show findY l w ≤ findY l (tall w m)
    rw [e1, e2]
    exact findY_mono (a := w.h) hF hW (by omega) (by omega)
  · show atX l (setH w 0) (findY l (setH w 0)) = atX l (setH w 1) (findY l (setH w 1))
    rw [e6, e5]
  · show findY l (setH w 0) ≤ findY l w
    exact findY_mono (b := w.h) hF hW (by omega) (by omega)
end Go.Proofs.Ytcmedheeafiogaa

namespace Go.Proofs.Ytcmedheeafiogaa
open Go.Sy
set_option linter.unusedVariables false
set_option linter.unusedSimpArgs false
open Go.ChangeShapes Go.WideShapes Go.RowKit
set_option maxRecDepth 100000 in
theorem placeTall_lifted (os : Os) (started : os.Started) (H : Type) (enc : TypeId × Value → H) :
    ReturnsInHanded {} Try.checked os 3 .any (Rows.placeTallSpec.pre6 enc Try.prog Try.f3 Rows.placeTallRow.domain false) (Rows.placeTallSpec.post enc Try.prog Try.f3 false true false false) := by
  refine returnsInHanded_of_change_sized (C := Try.checked) Try.own started (by kernel_rfl) Try.func3
    (ChangeSpec.witness6 (enc := enc) (C := Try.checked) false ⟨#[], #[.slice none 0 0, .agg #[.int .i64 0, .int .i64 0, .int .i64 0, .int .i64 0, .int .i64 0, .int .i64 0, .int .i64 0], .int .u8 0], []⟩ 8 (by kernel_rfl) (by kernel_rfl) (by kernel_rfl) (by kernel_rfl)) ?_
  intro w0 base args ds gs before hval0 hW0 _ hsz0 _
  have hval : ∀ (j : Nat) t v, Try.f3.params[j]? = some t → args[j]? = some v → Value.okWide Try.prog w0 .any base t v := hval0
  have hW : DataW.Whole enc Try.prog Try.f3.params.toList Rows.placeTallSpec.vars false w0 args.toList ds gs before := hW0
  have hsz : (DataW.weightsEach Try.prog (Try.f3.params.toList ++ Rows.placeTallSpec.plain.varTypes Try.prog) (ds ++ gs)).all (· ≤ reachBytes) = true := hsz0
  have hW' := hW
  obtain ⟨p, q, hA0, hV, _, _, _⟩ := hW
  have hA : DataW.TrodAll enc Try.prog w0 0 (fun _ => true) true Try.f3.params.toList args.toList ds p := hA0
  rw [Try.params3] at hA hval hsz
  obtain ⟨v0, v1, v2, d0, d1, d2, p0, p1, p2, rfl, rfl, _, h0, h1, h2⟩ := trodAll_three hA
  obtain ⟨rfl, _⟩ := trodVars_none hV
  obtain ⟨xs, pl, hs, hd⟩ := open_sl ieFlt Try.underlying22 ints108 cells108 (hval 0 22 v0 rfl rfl) h0
  obtain ⟨x, hx⟩ := open_ag ieWn Try.underlying24 ints24 (hval 1 24 v1 rfl rfl) h1
  obtain ⟨m, rfl, hm⟩ := open_i Try.underlying5 (hval 2 5 v2 rfl rfl) h2
  have hlen : xs.length < 2 ^ 48 := by
    rcases hd with rfl | ⟨els, sp, rfl, h⟩
    · simp
    · exact len_of hsz (j := 0) rfl rfl Try.underlying22 bytes108 (by omega) h
  have T := t3 tall_law xs hlen x m (wf_u8 hm).1 (wf_u8 hm).2
  refine law_post (P := Try.prog) (l := [(pl, some (.view encFlt xs))]) Try.laidOut hW' rfl (tb := 4) rfl Try.underlying4 (by kernel_rfl) ⟨rfl, rfl, rfl⟩ T ?_ ?_
  · intro ν hν
    rw [hs.1 ν 0 (hν 0 pl _ rfl), hx ν]
    rfl
  · intro i p c hi ν' hν
    match i, hi with
    | 0, hi =>
      simp at hi
      obtain ⟨rfl, rfl⟩ := hi
      exact view_sat hs ν'
    | i + 1, hi => simp at hi
theorem placeTall_holds : Rows.PlaceTallSaid :=
  OpenClaim.holds_of_wide 3 Try.f3 rfl rfl rfl rfl rfl rfl rfl ⟨rfl, rfl, rfl, rfl, rfl⟩ rfl rfl rfl rfl rfl (by kernel_rfl) Try.func3 (by kernel_rfl)
    (of_decide_eq_true (by kernel_rfl)) (by unfold Func.isWrapper; first | (rw [if_pos (by decide +kernel)]; kernel_rfl) | (rw [if_neg (by decide +kernel)]; exact ⟨rfl, rfl⟩))
    (fun os started H enc _ => placeTall_lifted os started H enc)
#print axioms placeTall_holds
end Go.Proofs.Ytcmedheeafiogaa
