/-
  Floats, Wide, High and Meet; lines plainly.
-/
import Derived.Lib.SliceRun
import Derived.Test.YtcmedheeafiogaaKi
namespace Go.Sy
set_option linter.unusedVariables false
set_option linter.unusedSimpArgs false
/-! Rules for operations that the walk leaves open (OpStop). -/
section
variable {P : Program} {tab : Tab} {nt n0 : Nat} {C : Cx P tab nt n0} (hok : TabOK P tab)
include hok
/-- 's == nil', s a list's slice: whatever it comes to; true of no elements alone. -/
theorem op_nilq {o : Oper} {fr : Nat → SV} {hp : HP} {nx : Nat} {K : St → Prop} {T T' : TypeId} {x y : Operand} {ti : TI} {el : TypeId} {h sz len : Nat} {Te : TypeId} {α : Type} {e : Enc α} {xs : List α}
    (ho : o.op = .binOp .eql T x y T') (hti : tab.ti T = some ti) (hk : ti.k = .slc el) (hx : opv fr x = .v (.one (.slice h 0 sz len))) (hy : opv fr y = .v (.one .nils)) (hh : hp h = some (.rows Te e xs))
    (H : ∀ b : Bool, (b = true → xs = []) → K (St.put ⟨fr, updL hp [], nx + 1⟩ o.dst (sbool (.X b)))) : OpStop C o ⟨fr, hp, nx⟩ K := by
  refine ⟨fun ν V fp a w hs => ⟨⟨sbool (.X (ν h).nil), [], []⟩, ?_, H _ ?_⟩⟩
  · obtain ⟨d, hd, _, hdk⟩ := (hok.ti _ _ hti).desc
    rw [hk] at hdk
    simp only at hdk
    subst hdk
    have hx0 : ∀ ν'', Agree (Lt nx) ν ν'' → a.eval x = (CV.slice h 0 sz len).den ν'' := fun ν'' hν => ev hs.hp hs.fr (Nat.lt_irrefl nx) hx (by simp) ν'' hν
    have hy0 : ∀ ν'', Agree (Lt nx) ν ν'' → a.eval y = .slice none 0 0 := fun ν'' hν => ev hs.hp hs.fr (Nat.lt_irrefl nx) hy (by simp) ν'' hν
    refine does_pure hs.hp (Nat.lt_irrefl nx) rfl fun ν'' hν => ?_
    have hx1 := hx0 ν (Agree.refl _ _)
    have hy1 := hy0 ν (Agree.refl _ _)
    simp only [execOp, ho, hy1]
    cases hn : (ν h).nil with
    | true =>
      obtain ⟨m, c, hx2⟩ : ∃ m c, a.eval x = .slice none m c := by rw [hx1]; simp [CV.den, hn]
      rw [hx2, Sem.run_bind]
      have hq := eq_runs (P := P) (w := w) (T := T) (x := .slice none m c) (y := .slice none 0 0) (t := true) (u := x) (v := y) ⟨by simp [eqGuard], by simp [eqGuard]⟩ ⟨rfl, rfl⟩ (Go.Lib.run_equalIn_slice_nil w 9999 T el none m c 0 0 hd)
      rw [hq.1]
      rfl
    | false =>
      obtain ⟨ad, m, c, hx2⟩ : ∃ ad m c, a.eval x = .slice (some ad) m c := by rw [hx1]; simp [CV.den, hn]
      rw [hx2, Sem.run_bind]
      have hq := eq_runs (P := P) (w := w) (T := T) (x := .slice (some ad) m c) (y := .slice none 0 0) (t := false) (u := x) (v := y) ⟨by simp [eqGuard], by simp [eqGuard]⟩ ⟨rfl, rfl⟩ (Go.Lib.run_equalIn_slice_nil w 9999 T el (some ad) m c 0 0 hd)
      rw [hq.1]
      rfl
  · intro hb
    rcases hs.hp.sat ν (Agree.refl _ _) h _ hh with ⟨_, _, q, _⟩ | ⟨q, _⟩
    · exact q
    · rw [q] at hb; cases hb
omit hok in
theorem append_nil_src {t ty e : TypeId} (ht : P.underlying t = some (.slice e)) {n1 : Nat} {w : World} (hte : (sizeOf e).run P w = .ok n1 w) (b : Option Addr) (c : Nat) (m k : Nat) (ad : Addr) :
    (Builtin.append_ #[t, t] ty #[.slice b 0 c, .slice none 0 m]).run P w = (Builtin.append_ #[t, t] ty #[.slice b 0 c, .slice (some ad) 0 k]).run P w := by
  simp [Builtin.append_, Builtin.lenOf, Builtin.firstCells, run_underlying ht, hte, loadCells, loadCellsFrom]
/-- 'append([]T{}, ys...)', ys a list. -/
theorem op_append {o : Oper} {fr : Nat → SV} {hp : HP} {nx : Nat} {K : St → Prop} {c : Call} {x y : Operand} {T : TypeId} {ti te : TI} {el : TypeId} {z : PV} {h h2 len2 sz sz2 : Nat} {α β : Type} {e1 : Enc β} {e2 : Enc α} {ys : List α} {T2 : TypeId}
    (ho : o.op = .call c) (hcal : c.callee = .builtin .append) (hargs : c.args = #[x, y]) (hat : c.argTypes = #[T, T]) (hti : tab.ti T = some ti) (hk : ti.k = .slc el) (hte : tab.ti el = some te) (hz : zval te = some z)
    (hx : opv fr x = .v (.one (.slice h 0 sz 0))) (hy : opv fr y = .v (.one (.slice h2 0 sz2 len2))) (hh : hp h = some (.rows el e1 [])) (hh2 : hp h2 = some (.rows T2 e2 ys)) (h1 : sz = e2.sz) (h12 : e1.sz = e2.sz) (h2s : sz2 = e2.sz) (hl : len2 = ys.length)
    (hts : te.size = e2.sz) (hb : 0 < te.bytes) (hroom : ys.length * te.bytes ≤ 140737488355328)
    (H : K (St.put ⟨fr, updL hp [(h, none), (nx, some (.rows el e2 ys))], nx + 1⟩ o.dst (.v (.one (.slice nx 0 e2.sz ys.length))))) : OpStop C o ⟨fr, hp, nx⟩ K := by
  obtain ⟨cal, args, ats⟩ := c
  simp only at hcal hargs hat
  subst hcal hargs hat h1 h2s hl
  refine ⟨fun ν V fp a w hs => ⟨⟨.v (.one (.slice nx 0 e2.sz ys.length)), [(h, none), (nx, some (.rows el e2 ys))], []⟩, ?_, H⟩⟩
  have HH := hs.hp
  have hnm : ¬ Lt nx nx := Nat.lt_irrefl nx
  obtain ⟨hown, hfoot⟩ := own_of_rows HH (Agree.refl _ _) hh (len := 0) rfl
  rw [h12] at hown hfoot
  have hn1 := name_lt HH hs.fr hnm hx
  have hn2 := name_lt HH hs.fr hnm hy
  have hx1 := ev HH hs.fr hnm hx (by simp) ν (Agree.refl _ _)
  have hy1 := ev HH hs.fr hnm hy (by simp) ν (Agree.refl _ _)
  have hlen : ∀ ν' : Nat → Pl, ((ys.flatMap e2.E).map (CV.den ν')).length = ys.length * e2.sz := fun ν' => by rw [List.length_map, flat_len]
  have hstab : ∀ ν', Agree (Lt nx) ν ν' → ((([] : List α) ++ ys).flatMap e2.E).map (CV.den ν') = ((([] : List α) ++ ys).flatMap e2.E).map (CV.den ν) := by
    intro ν' hν
    rw [List.nil_append]
    rcases HH.sat ν (Agree.refl _ _) _ _ hh2 with ⟨_, _, q, _⟩ | ⟨_, _, _, ⟨cs, hcs, _, hget⟩, _⟩
    · subst q; rfl
    · rcases HH.sat ν' hν _ _ hh2 with ⟨_, _, q, _⟩ | ⟨_, _, _, ⟨cs', hcs', _, hget'⟩, _⟩
      · subst q; rfl
      · rw [hν h2 hn2, hcs] at hcs'
        injection hcs' with hcs'
        injection hcs' with hcs'
        subst hcs'
        apply List.ext_getElem?
        intro j
        by_cases hj : j < ys.length * e2.sz
        · have q1 := hget' j _ (List.getElem?_eq_getElem (by rw [hlen]; exact hj))
          have q2 := hget j _ (List.getElem?_eq_getElem (by rw [hlen]; exact hj))
          rw [List.getElem?_eq_getElem (by rw [hlen]; exact hj), List.getElem?_eq_getElem (by rw [hlen]; exact hj), ← q1, ← q2]
        · rw [List.getElem?_eq_none (by rw [hlen]; omega), List.getElem?_eq_none (by rw [hlen]; omega)]
  have hT := hok.ti _ _ hti
  have hTe := hok.ti _ _ hte
  obtain ⟨d, hd, _, hdk⟩ := hT.desc
  rw [hk] at hdk
  simp only at hdk
  subst hdk
  have key : ∀ (ad : Addr) (cp : Nat), (∀ (j : Nat) u, ((ys.flatMap e2.E).map (CV.den ν))[j]? = some u → w.cell? (ad.add j) = some u) →
      (Builtin.append_ #[T, T] o.type #[a.eval x, a.eval y]).run P w = (Builtin.append_ #[T, T] o.type #[a.eval x, .slice (some ad) ys.length cp]).run P w →
      Does P (Lt nx) ν V hp w fp nx ((execOp a.eval o).run P w) ⟨.v (.one (.slice nx 0 e2.sz ys.length)), [(h, none), (nx, some (.rows el e2 ys))], []⟩ := by
    intro ad cp hnews heq
    obtain ⟨w', pl, fp', hrun, hH, hE⟩ := append_ok (P := P) (ty := o.type) hT hk hTe hz HH hnm hts hb (some h) (xs := []) (ys := ys) hown
      (fun g hg => ⟨h, rfl, hfoot g hg⟩) (fun k hk => by cases hk; exact hn1) hstab (ad := ad) (c := cp) hnews (by simpa using hroom)
    refine ⟨w', Sy.upd ν nx pl, fp', fun i hi => upd_other _ _ (ne_of_not hnm hi), hH, hE, .inl ⟨CV.den (Sy.upd ν nx pl) (.slice nx 0 e2.sz ys.length), ?_, ?_⟩⟩
    · have hxv : a.eval x = CV.den ν (.slice h 0 e2.sz 0) := hx1
      simp only [execOp, ho, resolve, invoke, builtin, Sem.run_bind, Sem.run_pure, Result.andThen_ok, List.map_toArray, List.map_cons, List.map_nil]
      rw [heq, hxv]
      have hrun' := hrun
      simp only [List.length_nil, Nat.zero_add] at hrun'
      rw [hrun']
      rfl
    · intro ν'' hν''
      simp only [SV.den, PV.den, CV.den, hν'' nx (.inr rfl)]
  rcases HH.sat ν (Agree.refl _ _) _ _ hh2 with ⟨q1, q2, q3, _⟩ | ⟨q1, q2, _, ⟨cs, hcs, _, hget⟩, _⟩
  · subst q3
    obtain ⟨m, hyv⟩ : ∃ m, a.eval y = .slice none 0 m := by rw [hy1]; simp [SV.den, PV.den, CV.den, q1]
    obtain ⟨b, cx, hxv⟩ : ∃ b cx, a.eval x = .slice b 0 cx := by
      rw [hx1]
      cases hn : (ν h).nil <;> simp [SV.den, PV.den, CV.den, hn]
    refine key ⟨0, 0, none⟩ 0 (fun j u hj => by simp at hj) ?_
    rw [hxv, hyv]
    exact append_nil_src hd (run_sizeOf_ok hTe w) b cx m 0 _
  · obtain ⟨cp, hyv⟩ : ∃ cp, a.eval y = .slice (some ⟨(ν h2).b, 0, none⟩) ys.length cp := by
      rw [hy1]; simp [SV.den, PV.den, CV.den, q1, q2]
    refine key ⟨(ν h2).b, 0, none⟩ cp (fun j u hj => ?_) (by rw [hyv])
    have ha : (⟨(ν h2).b, 0, none⟩ : Addr).add j = ⟨(ν h2).b, j, none⟩ := by unfold Addr.add; split <;> simp_all
    rw [ha]
    simp only [World.cell?, hcs, Option.isSome_none, Bool.false_eq_true, if_false]
    simpa using hget j u hj
end
/-- A result that may be nil, told as a slice of no element. -/
theorem tri_res {P : Program} {f : FuncId} {args : List PV} {pre : List (Option Chunk)} {R R' : SV → List (Option Chunk) → Prop} (T : Tri P f args pre R)
    (h : ∀ r post, R r post → R' r post ∨ (r = .v (.one .nils) ∧ ∃ (T' : TypeId) (α : Type) (e : Enc α), R' (.v (.one (.slice post.length 0 e.sz 0))) (post ++ [some (.rows T' e [])]))) : Tri P f args pre R' := by
  refine ⟨T.1, fun ν V fp w H hst => (T.2 ν V fp w H hst).mono ?_⟩
  rintro e w' ⟨res, post, ν', V', fp', rfl, hres, hlen, hag, hH, hE, hR⟩
  rcases h res post hR with h | ⟨rfl, T', α, e, h⟩
  · exact ⟨res, post, ν', V', fp', rfl, hres, hlen, hag, hH, hE, h⟩
  · have hnew := Holds.add hH (Nat.lt_irrefl post.length) ⟨0, 0, 0, true⟩ (.rows T' e []) (fun _ => False) (Nat.le_refl _) (fun _ _ _ => rfl) (fun _ _ => rfl) (fun b hb => hb.elim) (fun ν' _ => .inl ⟨rfl, rfl, rfl, fun _ h => h⟩)
    have hnew := hnew.mono (ins_lt _)
    have hhp : upd (hpL post) post.length (some (Chunk.rows T' e [])) = hpL (post ++ [some (Chunk.rows T' e [])]) := by
      funext g
      rw [hpL_append, upd_eq]
      by_cases e1 : post.length = g
      · rw [if_pos e1, if_pos e1.symm]
      · rw [if_neg e1, if_neg (fun e2 => e1 e2.symm)]
    rw [hhp] at hnew
    have hag2 : Agree (Lt post.length) ν' (upd ν' post.length ⟨0, 0, 0, true⟩) := fun i hi => upd_other _ _ (Nat.ne_of_gt hi)
    have hl : (post ++ [some (Chunk.rows T' e [])]).length = post.length + 1 := by simp
    refine ⟨.v (.one (.slice post.length 0 e.sz 0)), post ++ [some (.rows T' e [])], upd ν' post.length ⟨0, 0, 0, true⟩, V', upd fp' post.length (fun _ => False), ?_, ?_, by rw [hl]; omega, hag.trans hag2 (Lt.le hlen), by rw [hl]; exact hnew, ?_, h⟩
    · simp [SV.den, PV.den, CV.den, upd_same]
    · intro ν'' hν
      have := hν post.length (by rw [hl]; exact Nat.lt_succ_self _)
      simp only [SV.den, PV.den, CV.den, this]
    · have hfoot : ∀ b, Sy.foot (upd fp' post.length (fun _ => False)) b → Sy.foot fp' b := by
        rintro b ⟨g, hb⟩
        by_cases e1 : post.length = g
        · subst e1; rw [upd_same] at hb; exact hb.elim
        · rw [upd_other _ _ e1] at hb; exact ⟨g, hb⟩
      exact ⟨hE.os, hE.tape, hE.output, hE.size, hE.same, fun b hb => hE.foot b (hfoot b hb), hE.vmono, hE.vfrom⟩
end Go.Sy

namespace Go.Proofs.Ytcmedheeafiogaa
open Go.Sy
set_option linter.unusedVariables false
set_option linter.unusedSimpArgs false
-- slices.Clone of floats
theorem t79 (fl : List Flt) (ho : OKl fl) : Tri Try.prog 79 [.one (.slice 0 0 5 fl.length)] [some (.rows 90 encFlt fl)] (fun x post => x = .v (.one (.slice 1 0 5 fl.length)) ∧ post = [some (.rows 90 encFlt fl), some (.rows 90 encFlt fl)]) := by
  have T : Tri Try.prog 79 [.one (.slice 0 0 5 fl.length)] [some (.rows 90 encFlt fl)] (fun x post => (x = .v (.one .nils) ∧ fl = [] ∧ post = [some (.rows 90 encFlt fl)]) ∨ (x = .v (.one (.slice 1 0 5 fl.length)) ∧ post = [some (.rows 90 encFlt fl), some (.rows 90 encFlt fl)])) := by
    (refine tri_x (tabLOK fun n => Nat.beq n 0) Try.func79 rfl rfl Try.ntmps79 (by simp) fun C => ?_; (conv => whnf); repeat ((first | (refine cnd (by first | assumption | omega | decide) ?_) | (refine cnd0 ?_) | (refine Chk.mk (by kernel_rfl) ?_) | (refine xdraw_rule tabOK ?_) | (refine xdraw_rule (tabLOK _) ?_)); (conv => whnf)))
    refine op_nilq (tabLOK _) rfl rfl rfl rfl rfl rfl fun b hb => ?_
    ((conv => whnf); repeat ((first | (refine cnd (by first | assumption | omega | decide) ?_) | (refine cnd0 ?_) | (refine Chk.mk (by kernel_rfl) ?_) | (refine xdraw_rule tabOK ?_) | (refine xdraw_rule (tabLOK _) ?_)); (conv => whnf)))
    (refine Br.mk (fun c => ?_) (fun c => ?_) <;> ((conv => whnf); repeat ((first | (refine cnd (by first | assumption | omega | decide) ?_) | (refine cnd0 ?_) | (refine Chk.mk (by kernel_rfl) ?_) | (refine xdraw_rule tabOK ?_) | (refine xdraw_rule (tabLOK _) ?_)); (conv => whnf))))
    · exact xend [0] (.v (.one .nils)) ([some (.rows 90 encFlt fl)]) (.inl ⟨rfl, hb c, rfl⟩) rfl rfl rfl (by repeat' (first | exact trivial | exact rfl | (refine And.intro ?_ ?_) | omega)) (by repeat' (first | exact trivial | exact rfl | (refine And.intro ?_ ?_) | omega))
    · refine op_append (tabLOK _) rfl rfl rfl rfl rfl rfl rfl rfl rfl rfl rfl rfl rfl rfl rfl rfl rfl (by decide) ?_ ?_
      · have := ho.len; show fl.length * 40 ≤ 140737488355328; omega
      · ((conv => whnf); repeat ((first | (refine cnd (by first | assumption | omega | decide) ?_) | (refine cnd0 ?_) | (refine Chk.mk (by kernel_rfl) ?_) | (refine xdraw_rule tabOK ?_) | (refine xdraw_rule (tabLOK _) ?_)); (conv => whnf)))
        exact xend [0, 6] (.v (.one (.slice 1 0 5 fl.length))) ([some (.rows 90 encFlt fl), some (.rows 90 encFlt fl)]) (.inr ⟨rfl, rfl⟩) rfl rfl rfl (by repeat' (first | exact trivial | exact rfl | (refine And.intro ?_ ?_) | omega)) (by repeat' (first | exact trivial | exact rfl | (refine And.intro ?_ ?_) | omega))
  refine tri_res T ?_
  rintro r post (⟨rfl, rfl, rfl⟩ | ⟨rfl, rfl⟩)
  · exact .inr ⟨rfl, 90, Flt, encFlt, rfl, rfl⟩
  · exact .inl ⟨rfl, rfl⟩
-- Floats
theorem t41 (fl : List Flt) (ho : OKl fl) : Tri Try.prog 41 [pt 0] [some (spC fl)] (fun x post => x = .v (.one (.slice 1 0 5 fl.length)) ∧ post = [some (spC fl), some (.rows 90 encFlt fl)]) := by
  have T : Tri Try.prog 41 [pt 0] (spM fl) (fun x post => x = .v (.one (.slice 4 0 5 fl.length)) ∧ post = spM fl ++ [some (.rows 90 encFlt fl)]) := by
    (refine tri_x tabOK Try.func41 rfl rfl Try.ntmps41 (by simp) fun C => ?_; (conv => whnf); repeat ((first | (refine cnd (by first | assumption | omega | decide) ?_) | (refine cnd0 ?_) | (refine Chk.mk (by kernel_rfl) ?_) | (refine xdraw_rule tabOK ?_) | (refine xdraw_rule (tabLOK _) ?_)); (conv => whnf)))
    (refine xcall (t79 fl ho) rfl rfl rfl (by repeat (first | exact trivial | refine ⟨rfl, ?_⟩)) ?_; (conv => whnf); repeat ((first | (refine cnd (by first | assumption | omega | decide) ?_) | (refine cnd0 ?_) | (refine Chk.mk (by kernel_rfl) ?_) | (refine xdraw_rule tabOK ?_) | (refine xdraw_rule (tabLOK _) ?_)); (conv => whnf)))
    exact xend [0, 1, 2, 3, 9] _ _ ⟨rfl, rfl⟩ rfl rfl rfl (by repeat' (first | exact trivial | exact rfl | (refine And.intro ?_ ?_) | omega)) (by repeat' (first | exact trivial | exact rfl | (refine And.intro ?_ ?_) | omega))
  refine tri_conv T (hent_open1 rfl) ?_
  rintro r post ⟨rfl, rfl⟩
  exact ⟨_, [0, 4], .v (.one (.slice 1 0 5 fl.length)), _, hent_close (m := spM fl) 0 [1, 2, 3] rfl rfl rfl (by repeat' (first | exact trivial | exact rfl | (refine And.intro ?_ ?_) | omega)), rfl, rfl, rfl, by repeat' (first | exact trivial | exact rfl | (refine And.intro ?_ ?_) | omega), fun _ => rfl, rfl, rfl⟩
end Go.Proofs.Ytcmedheeafiogaa

namespace Go.Sy
set_option linter.unusedVariables false
set_option linter.unusedSimpArgs false
/-! A contract whose first argument is a slice that is only read, at nil. -/
theorem tri_nil {P : Program} {f : FuncId} {α : Type} (e : Enc α) {rest : List PV} {R : SV → List (Option Chunk) → Prop} (hr : ∀ ν ν' : Nat → Pl, rest.map (PV.den ν) = rest.map (PV.den ν'))
    (T : Tri P f (.one (.slice 0 0 e.sz 0) :: rest) [some (.view e [])] R) : Tri P f (.one .nils :: rest) [] R := by
  refine ⟨T.1, fun ν V fp w H hst => ?_⟩
  have hnew := Holds.add H (Nat.lt_irrefl 0) ⟨0, 0, 0, true⟩ (.view e []) (fun _ => False) (Nat.le_refl _) (fun _ _ _ => rfl) (fun _ _ => rfl) (fun b hb => hb.elim) (fun ν' _ => ⟨fun _ h => h, Nat.zero_le _, .inl ⟨rfl, rfl⟩⟩)
  have hnew := hnew.mono (ins_lt _)
  have hhp : upd (hpL ([] : List (Option Chunk))) 0 (some (Chunk.view e [])) = hpL [some (Chunk.view e [])] := by
    funext h
    match h with
    | 0 => rfl
    | h + 1 => rw [upd_other _ _ (by omega)]; rfl
  rw [hhp] at hnew
  have hden : ∀ ν', Agree (Lt 1) (upd ν 0 ⟨0, 0, 0, true⟩) ν' → (.one (.slice 0 0 e.sz 0) :: rest).map (PV.den ν') = (.one .nils :: rest).map (PV.den ν) := by
    intro ν' hν
    have hn := hν 0 (Nat.lt_succ_self _)
    rw [upd_same] at hn
    rw [List.map_cons, List.map_cons, hr ν' ν]
    simp [PV.den, CV.den, hn]
  have hc := T.2 _ V _ w hnew (fun ν'' hν => by rw [hden ν'' hν, hden _ (Agree.refl _ _)])
  rw [hden _ (Agree.refl _ _)] at hc
  refine hc.mono ?_
  rintro x w' ⟨res, post, ν', V', fp', h1, h2, h3, h4, h5, h6, h7⟩
  refine ⟨res, post, ν', V', fp', h1, h2, Nat.zero_le _, fun i hi => absurd hi (Nat.not_lt_zero _), h5, ?_, h7⟩
  have hfoot : ∀ b, Sy.foot (upd fp 0 (fun _ => False)) b → Sy.foot fp b := by
    rintro b ⟨h, hb⟩
    by_cases e1 : 0 = h
    · subst e1; rw [upd_same] at hb; exact hb.elim
    · rw [upd_other _ _ e1] at hb; exact ⟨h, hb⟩
  exact ⟨h6.os, h6.tape, h6.output, h6.size, fun b hb hn => h6.same b hb (fun h => hn (hfoot b h)), fun b hb => (h6.foot b hb).elim (fun h => .inl (hfoot b h)) .inr, h6.vmono, fun b hb => (h6.vfrom b hb).elim .inl fun h => h.elim (fun h => .inr (.inl (hfoot b h))) (fun h => .inr (.inr h))⟩
end Go.Sy

namespace Go.Proofs.Ytcmedheeafiogaa
open Go.Sy
set_option linter.unusedVariables false
set_option linter.unusedSimpArgs false
def dnL (L : List Ln) (i : Nat) : Nat := ((L.take i).map fun n => n.atoms.toNat).sum
/-- What LineGreedy asks. -/
structure GrL (l : List Flt) (c d : Int) (zs : List Sz) (L : List Ln) : Prop where
  len : L.length ≤ 40
  at1 : ∀ i, i < L.length → 1 ≤ (L.getD i encLn.d).atoms ∧ (L.getD i encLn.d).atoms ≤ 40
  dn : ∀ i, i ≤ L.length → dnL L i ≤ zs.length
  all : dnL L L.length = zs.length
  gr : ∀ i, i < L.length → dnL L (i + 1) < zs.length → addB l c d (L.getD i encLn.d) (zs.getD (dnL L (i + 1)) encSz.d) = false
theorem dnL_succ {L : List Ln} {i : Nat} (h : i < L.length) : dnL L (i + 1) = dnL L i + (L.getD i encLn.d).atoms.toNat := by
  unfold dnL
  have : L.getD i encLn.d = L[i] := by simp [h]
  rw [List.take_succ_eq_append_getElem h, this, List.map_append, List.sum_append]
  rfl
-- LineGreedy
theorem t4 (law : ∀ (l : List Flt) (c d y : Int) (zs : List Sz), bg13 l c d y = true → szR zs = true → zs.length ≤ 40 → GrL l c d zs (allL l c d y zs))
    (l : List Flt) (hl : l.length < 2 ^ 48) (c d y : Int) (zs : List Sz) (hz : zs.length < 2 ^ 48) : Tri Try.prog 4 [.one (.slice 0 0 5 l.length), iv c, iv d, iv y, .one (.slice 1 0 2 zs.length)] [some (.view encFlt l), some (.view encSz zs)] tru := by
  (refine tri_x tabOK Try.func4 rfl rfl Try.ntmps4 (by simp) fun C => ?_; (conv => whnf); repeat ((first | (refine cnd (by first | assumption | omega | decide) ?_) | (refine cnd0 ?_) | (refine Chk.mk (by kernel_rfl) ?_) | (refine xdraw_rule tabOK ?_) | (refine xdraw_rule (tabLOK _) ?_)); (conv => whnf)))
  (refine xcallR (t22 l hl c d y) rfl rfl rfl (by repeat (first | exact trivial | refine ⟨rfl, ?_⟩)) ?_)
  rintro x post (⟨e, rfl, rfl⟩ | ⟨e, rfl, rfl⟩)
  · have ho := bg13_ok e
    ((conv => whnf); repeat ((first | (refine cnd (by first | assumption | omega | decide) ?_) | (refine cnd0 ?_) | (refine Chk.mk (by kernel_rfl) ?_) | (refine xdraw_rule tabOK ?_) | (refine xdraw_rule (tabLOK _) ?_)); (conv => whnf)))
    (refine xcall (t23) rfl rfl rfl (by repeat (first | exact trivial | refine ⟨rfl, ?_⟩)) ?_; (conv => whnf); repeat ((first | (refine cnd (by first | assumption | omega | decide) ?_) | (refine cnd0 ?_) | (refine Chk.mk (by kernel_rfl) ?_) | (refine xdraw_rule tabOK ?_) | (refine xdraw_rule (tabLOK _) ?_)); (conv => whnf)))
    (refine Br.mk (fun c1 => ?_) (fun c1 => ?_) <;> ((conv => whnf); repeat ((first | (refine cnd (by first | assumption | omega | decide) ?_) | (refine cnd0 ?_) | (refine Chk.mk (by kernel_rfl) ?_) | (refine xdraw_rule tabOK ?_) | (refine xdraw_rule (tabLOK _) ?_)); (conv => whnf))))
    · exact absurd c1 (by decide)
    · (refine Br.mk (fun c2 => ?_) (fun c2 => ?_) <;> ((conv => whnf); repeat ((first | (refine cnd (by first | assumption | omega | decide) ?_) | (refine cnd0 ?_) | (refine Chk.mk (by kernel_rfl) ?_) | (refine xdraw_rule tabOK ?_) | (refine xdraw_rule (tabLOK _) ?_)); (conv => whnf))))
      · (refine xcall (t23) rfl rfl rfl (by repeat (first | exact trivial | refine ⟨rfl, ?_⟩)) ?_; (conv => whnf); repeat ((first | (refine cnd (by first | assumption | omega | decide) ?_) | (refine cnd0 ?_) | (refine Chk.mk (by kernel_rfl) ?_) | (refine xdraw_rule tabOK ?_) | (refine xdraw_rule (tabLOK _) ?_)); (conv => whnf)))
        exact xend [0, 1] (.v (bv true)) ([some (.view encFlt l), some (.view encSz zs)]) (rfl) rfl rfl rfl (by repeat' (first | exact trivial | exact rfl | (refine And.intro ?_ ?_) | omega)) (by repeat' (first | exact trivial | exact rfl | (refine And.intro ?_ ?_) | omega))
      · have hz40 : zs.length ≤ 40 := by simp at c2; omega
        (refine xcall (t24 zs (by omega)) rfl rfl rfl (by repeat (first | exact trivial | refine ⟨rfl, ?_⟩)) ?_; (conv => whnf); repeat ((first | (refine cnd (by first | assumption | omega | decide) ?_) | (refine cnd0 ?_) | (refine Chk.mk (by kernel_rfl) ?_) | (refine xdraw_rule tabOK ?_) | (refine xdraw_rule (tabLOK _) ?_)); (conv => whnf)))
        (refine Br.mk (fun c3 => ?_) (fun c3 => ?_) <;> ((conv => whnf); repeat ((first | (refine cnd (by first | assumption | omega | decide) ?_) | (refine cnd0 ?_) | (refine Chk.mk (by kernel_rfl) ?_) | (refine xdraw_rule tabOK ?_) | (refine xdraw_rule (tabLOK _) ?_)); (conv => whnf))))
        · (refine xcall (t23) rfl rfl rfl (by repeat (first | exact trivial | refine ⟨rfl, ?_⟩)) ?_; (conv => whnf); repeat ((first | (refine cnd (by first | assumption | omega | decide) ?_) | (refine cnd0 ?_) | (refine Chk.mk (by kernel_rfl) ?_) | (refine xdraw_rule tabOK ?_) | (refine xdraw_rule (tabLOK _) ?_)); (conv => whnf)))
          exact xend [0, 1] (.v (bv true)) ([some (.view encFlt l), some (.view encSz zs)]) (rfl) rfl rfl rfl (by repeat' (first | exact trivial | exact rfl | (refine And.intro ?_ ?_) | omega)) (by repeat' (first | exact trivial | exact rfl | (refine And.intro ?_ ?_) | omega))
        · have hr : szR zs = true := by simpa using c3
          have G := law l c d y zs e hr hz40
          have T25 := t25 l ho c d y zs (by omega)
          generalize allL l c d y zs = L at G T25
          (refine xcall (t26 zs (by omega)) rfl rfl rfl (by repeat (first | exact trivial | refine ⟨rfl, ?_⟩)) ?_; (conv => whnf); repeat ((first | (refine cnd (by first | assumption | omega | decide) ?_) | (refine cnd0 ?_) | (refine Chk.mk (by kernel_rfl) ?_) | (refine xdraw_rule tabOK ?_) | (refine xdraw_rule (tabLOK _) ?_)); (conv => whnf)))
          (refine xcall (T25) rfl rfl rfl (by repeat (first | exact trivial | refine ⟨rfl, ?_⟩)) ?_; (conv => whnf); repeat ((first | (refine cnd (by first | assumption | omega | decide) ?_) | (refine cnd0 ?_) | (refine Chk.mk (by kernel_rfl) ?_) | (refine xdraw_rule tabOK ?_) | (refine xdraw_rule (tabLOK _) ?_)); (conv => whnf)))
          refine xloop tabOK (fun i : Nat => i ≤ L.length) (fun i => [(1, .v (iv c)), (2, .v (iv d)), (4, .v (.one (.slice 1 0 2 zs.length))), (11, .v (pt 2)), (12, .v (iv (dnL L i))), (46, .v (.one (.slice 3 0 6 L.length))), (47, .v (iv L.length)), (48, .v (iv i))]) (fun i => [some (.view encFlt l), some (.view encSz zs), some (spC l), some (.rows 46 encLn L)]) (fun i => L.length - i) (0) [0, 1, 7, 31] (Nat.zero_le _) rfl rfl rfl (by repeat' (first | exact trivial | exact rfl | (refine And.intro ?_ ?_) | omega)) (by repeat' (first | exact trivial | exact rfl | (refine And.intro ?_ ?_) | omega)) ?_
          intro i hi
          have hdi := G.dn i hi
          have hL40 := G.len
          ((conv => whnf); repeat ((first | (refine cnd (by first | assumption | omega | decide) ?_) | (refine cnd0 ?_) | (refine Chk.mk (by kernel_rfl) ?_) | (refine xdraw_rule tabOK ?_) | (refine xdraw_rule (tabLOK _) ?_)); (conv => whnf)))
          (refine Br.mk (fun k => ?_) (fun k => ?_) <;> ((conv => whnf); repeat ((first | (refine cnd (by first | assumption | omega | decide) ?_) | (refine cnd0 ?_) | (refine Chk.mk (by kernel_rfl) ?_) | (refine xdraw_rule tabOK ?_) | (refine xdraw_rule (tabLOK _) ?_)); (conv => whnf))))
          · have hil : i < L.length := by have := of_decide_eq_true k; omega
            have hi0 : 0 + (i : Int).toNat = i := by omega
            have hwi : IntKind.i64.wrap ((i : Int) + 1) = (i + 1 : Nat) := by rw [W_id (by omega) (by omega)]; rfl
            obtain ⟨ha1, ha2⟩ := G.at1 i hil
            have hds := dnL_succ hil
            have hdn := G.dn (i + 1) hil
            have hgr := G.gr i hil
            have hwd : IntKind.i64.wrap ((dnL L i : Int) + (L.getD (0 + (i : Int).toNat) encLn.d).atoms) = (dnL L (i + 1) : Nat) := by rw [hi0, W_id (by omega) (by omega)]; omega
            (repeat ((first | (refine cnd (by first | assumption | omega | decide) ?_) | (refine cnd0 ?_) | (refine Chk.mk (by kernel_rfl) ?_) | (refine xdraw_rule tabOK ?_) | (refine xdraw_rule (tabLOK _) ?_)); (conv => whnf)))
            rw [hwd]
            (refine Br.mk (fun b1 => ?_) (fun b1 => ?_) <;> ((conv => whnf); repeat ((first | (refine cnd (by first | assumption | omega | decide) ?_) | (refine cnd0 ?_) | (refine Chk.mk (by kernel_rfl) ?_) | (refine xdraw_rule tabOK ?_) | (refine xdraw_rule (tabLOK _) ?_)); (conv => whnf))))
            · exact xend [0, 1] (.v (bv true)) ([some (.view encFlt l), some (.view encSz zs)]) (rfl) rfl rfl rfl (by repeat' (first | exact trivial | exact rfl | (refine And.intro ?_ ?_) | omega | exact b1)) (by repeat' (first | exact trivial | exact rfl | (refine And.intro ?_ ?_) | omega | exact b1))
            · have hlt : dnL L (i + 1) < zs.length := by have := of_decide_eq_false b1; omega
              (repeat ((first | (refine cnd (by first | assumption | omega | decide) ?_) | (refine cnd0 ?_) | (refine Chk.mk (by kernel_rfl) ?_) | (refine xdraw_rule tabOK ?_) | (refine xdraw_rule (tabLOK _) ?_)); (conv => whnf)))
              (refine Br.mk (fun b2 => ?_) (fun b2 => ?_) <;> ((conv => whnf); repeat ((first | (refine cnd (by first | assumption | omega | decide) ?_) | (refine cnd0 ?_) | (refine Chk.mk (by kernel_rfl) ?_) | (refine xdraw_rule tabOK ?_) | (refine xdraw_rule (tabLOK _) ?_)); (conv => whnf))))
              · exact absurd (of_decide_eq_true b2) (by rw [hi0]; omega)
              · have hgr := hgr hlt
                have hj0 : 0 + (dnL L (i + 1) : Int).toNat = dnL L (i + 1) := by omega
                generalize hen : L.getD i encLn.d = n at *
                generalize hez : zs.getD (dnL L (i + 1)) encSz.d = z at *
                have hen' : L.getD (0 + (i : Int).toNat) encLn.d = n := by rw [hi0, hen]
                have hez' : zs.getD (0 + (dnL L (i + 1) : Int).toNat) encSz.d = z := by rw [hj0, hez]
                have hw27 := t27 l ho c d n.box.t (rowE n.box.t (addH n z.h))
                have hw28 := t28' n.box.t (addH n z.h)
                have hw29 := t29 (lfA l c n.box.t (addH n z.h)) (lfB l d n.box.t (addH n z.h))
                rw [← hen', ← hez'] at hw27 hw28 hw29
                (repeat ((first | (refine cnd (by first | assumption | omega | decide) ?_) | (refine cnd0 ?_) | (refine Chk.mk (by kernel_rfl) ?_) | (refine xdraw_rule tabOK ?_) | (refine xdraw_rule (tabLOK _) ?_)); (conv => whnf)))
                (refine xcall (hw28) rfl rfl rfl (by repeat (first | exact trivial | refine ⟨rfl, ?_⟩)) ?_; (conv => whnf); repeat ((first | (refine cnd (by first | assumption | omega | decide) ?_) | (refine cnd0 ?_) | (refine Chk.mk (by kernel_rfl) ?_) | (refine xdraw_rule tabOK ?_) | (refine xdraw_rule (tabLOK _) ?_)); (conv => whnf)))
                (refine xcall (hw27) rfl rfl rfl (by repeat (first | exact trivial | refine ⟨rfl, ?_⟩)) ?_; (conv => whnf); repeat ((first | (refine cnd (by first | assumption | omega | decide) ?_) | (refine cnd0 ?_) | (refine Chk.mk (by kernel_rfl) ?_) | (refine xdraw_rule tabOK ?_) | (refine xdraw_rule (tabLOK _) ?_)); (conv => whnf)))
                (refine dcallR (hw29) rfl fun hT_ => ?_; (conv => whnf); refine cnd hT_ (cnd rfl (cnd (by repeat (first | exact trivial | refine ⟨rfl, ?_⟩)) (cnd rfl (cnd0 ?_)))); clear hT_; (conv => whnf); repeat ((first | (refine cnd (by first | assumption | omega | decide) ?_) | (refine cnd0 ?_) | (refine Chk.mk (by kernel_rfl) ?_) | (refine xdraw_rule tabOK ?_) | (refine xdraw_rule (tabLOK _) ?_)); (conv => whnf)))
                (refine Br.mk (fun g => ?_) (fun g => ?_) <;> ((conv => whnf); repeat ((first | (refine cnd (by first | assumption | omega | decide) ?_) | (refine cnd0 ?_) | (refine Chk.mk (by kernel_rfl) ?_) | (refine xdraw_rule tabOK ?_) | (refine xdraw_rule (tabLOK _) ?_)); (conv => whnf))))
                · rw [hen', hez'] at g
                  have g := of_decide_eq_true g
                  unfold addB at hgr
                  simp only [Bool.not_eq_false', decide_eq_true_eq] at hgr
                  exact absurd (show IntKind.i64.wrap (n.wide + z.w) ≤ IntKind.i64.wrap (lfB l d n.box.t (addH n z.h) - lfA l c n.box.t (addH n z.h)) from g) (Int.not_le.2 hgr)
                · exact rnd (i + 1) [0, 1, 2, 3] (hil) (by omega) rfl rfl rfl (by repeat' (first | exact trivial | exact rfl | (refine And.intro ?_ ?_) | omega | exact hwi)) (by repeat' (first | exact trivial | exact rfl | (refine And.intro ?_ ?_) | omega | exact hwi))
          · have hil : i = L.length := by have := of_decide_eq_false k; omega
            have ha := G.all
            subst hil
            have b1 : decide ((dnL L L.length : Int) ≥ zs.length) = true := decide_eq_true (by omega)
            exact xend [0, 1] (.v (bv true)) ([some (.view encFlt l), some (.view encSz zs)]) (rfl) rfl rfl rfl (by repeat' (first | exact trivial | exact rfl | (refine And.intro ?_ ?_) | omega | exact b1)) (by repeat' (first | exact trivial | exact rfl | (refine And.intro ?_ ?_) | omega | exact b1))
  · ((conv => whnf); repeat ((first | (refine cnd (by first | assumption | omega | decide) ?_) | (refine cnd0 ?_) | (refine Chk.mk (by kernel_rfl) ?_) | (refine xdraw_rule tabOK ?_) | (refine xdraw_rule (tabLOK _) ?_)); (conv => whnf)))
    (refine xcall (t23) rfl rfl rfl (by repeat (first | exact trivial | refine ⟨rfl, ?_⟩)) ?_; (conv => whnf); repeat ((first | (refine cnd (by first | assumption | omega | decide) ?_) | (refine cnd0 ?_) | (refine Chk.mk (by kernel_rfl) ?_) | (refine xdraw_rule tabOK ?_) | (refine xdraw_rule (tabLOK _) ?_)); (conv => whnf)))
    (refine Br.mk (fun c1 => ?_) (fun c1 => ?_) <;> ((conv => whnf); repeat ((first | (refine cnd (by first | assumption | omega | decide) ?_) | (refine cnd0 ?_) | (refine Chk.mk (by kernel_rfl) ?_) | (refine xdraw_rule tabOK ?_) | (refine xdraw_rule (tabLOK _) ?_)); (conv => whnf))))
    · exact absurd c1 (by decide)
    · (refine xcall (t23) rfl rfl rfl (by repeat (first | exact trivial | refine ⟨rfl, ?_⟩)) ?_; (conv => whnf); repeat ((first | (refine cnd (by first | assumption | omega | decide) ?_) | (refine cnd0 ?_) | (refine Chk.mk (by kernel_rfl) ?_) | (refine xdraw_rule tabOK ?_) | (refine xdraw_rule (tabLOK _) ?_)); (conv => whnf)))
      exact xend [0, 1] (.v (bv true)) ([some (.view encFlt l), some (.view encSz zs)]) (rfl) rfl rfl rfl (by repeat' (first | exact trivial | exact rfl | (refine And.intro ?_ ?_) | omega)) (by repeat' (first | exact trivial | exact rfl | (refine And.intro ?_ ?_) | omega))
end Go.Proofs.Ytcmedheeafiogaa

namespace Go.Proofs.Ytcmedheeafiogaa
open Go.Sy
set_option linter.unusedVariables false
set_option linter.unusedSimpArgs false
/-! The lines of atoms, plainly. -/
theorem dnL_app {L M : List Ln} {j : Nat} (h : j ≤ L.length) : dnL (L ++ M) j = dnL L j := by
  unfold dnL
  rw [List.take_append_of_le_length h]
theorem dnL_full (L : List Ln) (n : Ln) : dnL (L ++ [n]) (L.length + 1) = dnL L L.length + n.atoms.toNat := by
  have := dnL_succ (L := L ++ [n]) (i := L.length) (by simp)
  rw [this, dnL_app (Nat.le_refl _)]
  simp
theorem dnL_mono (L : List Ln) : ∀ {i j : Nat}, i ≤ j → j ≤ L.length → dnL L i ≤ dnL L j := by
  intro i j hij hj
  induction j with
  | zero => have : i = 0 := by omega
            subst this; exact Nat.le_refl _
  | succ j ih =>
    rcases Nat.lt_or_ge i (j + 1) with h | h
    · have h1 := ih (by omega) (by omega)
      have h2 := dnL_succ (L := L) (i := j) hj
      omega
    · have : i = j + 1 := by omega
      subst this; exact Nat.le_refl _
def nowA : Option Ln → Nat
  | none => 0
  | some n => n.atoms.toNat
structure RI (fl : List Flt) (c d : Int) (zs : List Sz) (i : Nat) (s : BS) : Prop where
  tot : dnL s.out s.out.length + nowA s.now = i
  now1 : ∀ n, s.now = some n → 1 ≤ n.atoms ∧ n.atoms ≤ i
  nn : s.now = none → i = 0 ∧ s.out = []
  at1 : ∀ j, j < s.out.length → 1 ≤ (s.out.getD j encLn.d).atoms ∧ (s.out.getD j encLn.d).atoms ≤ i
  gr : ∀ j, j < s.out.length → addB fl c d (s.out.getD j encLn.d) (zs.getD (dnL s.out (j + 1)) encSz.d) = false
theorem ri_step {fl : List Flt} {c d y : Int} {zs : List Sz} (hz : zs.length ≤ 40) : ∀ i, i ≤ zs.length → RI fl c d zs i (runS fl c d y (zs.take i))
  | 0, _ => by
    refine ⟨rfl, fun n h => ?_, fun _ => ⟨rfl, rfl⟩, fun j h => ?_, fun j h => ?_⟩
    · simp [runS] at h
    · simp [runS] at h
    · simp [runS] at h
  | i + 1, hi => by
    have I := ri_step (y := y) (fl := fl) (c := c) (d := d) hz i (by omega)
    rw [runS_snoc fl c d y zs i (by omega)]
    generalize runS fl c d y (zs.take i) = s at I
    generalize hzz : zs.getD i encSz.d = z
    obtain ⟨sy, now, out⟩ := s
    cases now with
    | none =>
      obtain ⟨h0, h1⟩ := I.nn rfl
      have h1 : out = [] := h1
      subst h1 h0
      refine ⟨rfl, fun n h => ?_, fun h => ?_, fun j h => ?_, fun j h => ?_⟩
      · simp [stepZ] at h; subst h; exact ⟨by show (1 : Int) ≤ 1; omega, by show (1 : Int) ≤ (0 + 1 : Nat); omega⟩
      · simp [stepZ] at h
      · simp [stepZ] at h
      · simp [stepZ] at h
    | some n =>
      obtain ⟨a1, a2⟩ := I.now1 n rfl
      have ht : dnL out out.length + n.atoms.toNat = i := I.tot
      have at1 : ∀ j, j < out.length → 1 ≤ (out.getD j encLn.d).atoms ∧ (out.getD j encLn.d).atoms ≤ i := I.at1
      have gr : ∀ j, j < out.length → addB fl c d (out.getD j encLn.d) (zs.getD (dnL out (j + 1)) encSz.d) = false := I.gr
      unfold stepZ
      cases hb : addB fl c d n z with
      | true =>
        simp only [hb, cond_true]
        have hw : (addN fl c d n z).atoms = n.atoms + 1 := W_id (by omega) (by omega)
        refine ⟨?_, fun m h => ?_, fun h => ?_, fun j h => ?_, gr⟩
        · show dnL out out.length + (addN fl c d n z).atoms.toNat = i + 1
          omega
        · simp only [Option.some.injEq] at h; subst h; omega
        · simp at h
        · have := at1 j h
          show 1 ≤ (out.getD j encLn.d).atoms ∧ (out.getD j encLn.d).atoms ≤ (i + 1 : Nat)
          omega
      | false =>
        simp only [hb, cond_false]
        refine ⟨?_, fun m h => ?_, fun h => ?_, fun j h => ?_, fun j h => ?_⟩
        · show dnL (out ++ [n]) (out ++ [n]).length + (1 : Int).toNat = i + 1
          rw [List.length_append, List.length_singleton, dnL_full]
          omega
        · simp only [Option.some.injEq] at h; subst h
          exact ⟨by show (1 : Int) ≤ 1; omega, by show (1 : Int) ≤ (i + 1 : Nat); omega⟩
        · simp at h
        · rw [List.length_append, List.length_singleton] at h
          rcases Nat.lt_or_ge j out.length with k | k
          · have e : (out ++ [n]).getD j encLn.d = out.getD j encLn.d := by simp [List.getElem?_append_left k]
            have := at1 j k
            show 1 ≤ ((out ++ [n]).getD j encLn.d).atoms ∧ ((out ++ [n]).getD j encLn.d).atoms ≤ (i + 1 : Nat)
            rw [e]; omega
          · have e : (out ++ [n]).getD j encLn.d = n := by have : j = out.length := by omega
                                                           subst this; simp
            show 1 ≤ ((out ++ [n]).getD j encLn.d).atoms ∧ ((out ++ [n]).getD j encLn.d).atoms ≤ (i + 1 : Nat)
            rw [e]; omega
        · rw [List.length_append, List.length_singleton] at h
          show addB fl c d ((out ++ [n]).getD j encLn.d) (zs.getD (dnL (out ++ [n]) (j + 1)) encSz.d) = false
          rcases Nat.lt_or_ge j out.length with k | k
          · have e : (out ++ [n]).getD j encLn.d = out.getD j encLn.d := by simp [List.getElem?_append_left k]
            rw [e, dnL_app k]; exact gr j k
          · have hj : j = out.length := by omega
            subst hj
            have e : (out ++ [n]).getD out.length encLn.d = n := by simp
            rw [e, dnL_full, ht, hzz]; exact hb
theorem grL {fl : List Flt} {c d y : Int} {zs : List Sz} (hz : zs.length ≤ 40) : GrL fl c d zs (allL fl c d y zs) := by
  have I := ri_step (y := y) (fl := fl) (c := c) (d := d) hz zs.length (Nat.le_refl _)
  have hO := runS_out fl c d y zs zs.length (Nat.le_refl _)
  rw [List.take_length] at I hO
  unfold allL
  generalize runS fl c d y zs = s at I hO
  obtain ⟨sy, now, out⟩ := s
  have hO : out.length ≤ zs.length := hO
  cases now with
  | none =>
    obtain ⟨h0, h1⟩ := I.nn rfl
    have h1 : out = [] := h1
    subst h1
    exact ⟨Nat.zero_le _, fun i h => absurd h (Nat.not_lt_zero _), fun i h => by rw [show dnL (endS ⟨sy, none, []⟩) i = 0 by unfold dnL endS; simp]; exact Nat.zero_le _, by show 0 = _; omega, fun i h => absurd h (Nat.not_lt_zero _)⟩
  | some n =>
    obtain ⟨a1, a2⟩ := I.now1 n rfl
    have ht : dnL out out.length + n.atoms.toNat = zs.length := I.tot
    have at1 : ∀ j, j < out.length → 1 ≤ (out.getD j encLn.d).atoms ∧ (out.getD j encLn.d).atoms ≤ zs.length := I.at1
    have gr : ∀ j, j < out.length → addB fl c d (out.getD j encLn.d) (zs.getD (dnL out (j + 1)) encSz.d) = false := I.gr
    show GrL fl c d zs (out ++ [n])
    have hall : dnL (out ++ [n]) (out ++ [n]).length = zs.length := by
      rw [List.length_append, List.length_singleton, dnL_full, ht]
    have hge : ∀ j, j ≤ out.length → j ≤ dnL out j := by
      intro j hj
      induction j with
      | zero => exact Nat.zero_le _
      | succ j ih =>
        have := ih (by omega)
        have h2 := dnL_succ (L := out) (i := j) hj
        have := at1 j hj
        omega
    have := hge out.length (Nat.le_refl _)
    refine ⟨by rw [List.length_append, List.length_singleton]; omega, fun j h => ?_, fun i hi => by rw [← hall]; exact dnL_mono _ hi (Nat.le_refl _), hall, fun j h hlt => ?_⟩
    · rw [List.length_append, List.length_singleton] at h
      rcases Nat.lt_or_ge j out.length with k | k
      · have e : (out ++ [n]).getD j encLn.d = out.getD j encLn.d := by simp [List.getElem?_append_left k]
        have := at1 j k
        rw [e]; omega
      · have hj : j = out.length := by omega
        subst hj
        have e : (out ++ [n]).getD out.length encLn.d = n := by simp
        rw [e]; omega
    · rw [List.length_append, List.length_singleton] at h
      rcases Nat.lt_or_ge j out.length with k | k
      · have e : (out ++ [n]).getD j encLn.d = out.getD j encLn.d := by simp [List.getElem?_append_left k]
        rw [e, dnL_app k]; exact gr j k
      · have hj : j = out.length := by omega
        subst hj
        rw [dnL_full, ht] at hlt
        exact absurd hlt (Nat.lt_irrefl _)
end Go.Proofs.Ytcmedheeafiogaa

namespace Go.Proofs.Ytcmedheeafiogaa
open Go.Sy
set_option linter.unusedVariables false
set_option linter.unusedSimpArgs false
/-! Where a line begins, plainly. -/
theorem fl13 {l : List Flt} {c d y : Int} (h : bg13 l c d y = true) : FL l := by
  refine ⟨bg13_ok h, fun f hf => nr_of ?_⟩
  unfold bg13 at h
  obtain ⟨k, a1, a2, a3, a4⟩ := (near13_ok (Bool.and_eq_true_iff.1 h).2).1 f hf
  have := k.side
  unfold nearF in49
  simp only [Bool.and_eq_true, Bool.not_eq_true', Bool.or_eq_false_iff, Bool.or_eq_true, decide_eq_true_eq, decide_eq_false_iff_not]
  exact ⟨by omega, by omega, by omega, by omega, this⟩
theorem firstL_le (p : Int → Bool) : ∀ (ts : List Int) (y t : Int), (y :: ts).Pairwise (· < ·) → t ∈ y :: ts → p t = true → firstL p y ts ≤ t
  | [], y, t, _, ht, _ => by simp at ht; subst ht; exact Int.le_refl _
  | u :: ts, y, t, h, ht, hp => by
    obtain ⟨h1, h2⟩ := List.pairwise_cons.1 h
    rw [firstL]
    cases hy : p y with
    | true =>
      rcases List.mem_cons.1 ht with rfl | ht
      · exact Int.le_refl _
      · exact Int.le_of_lt (h1 t ht)
    | false =>
      rcases List.mem_cons.1 ht with rfl | ht
      · rw [hy] at hp; cases hp
      · exact firstL_le p ts u t h2 ht hp
theorem firstL_end (p : Int → Bool) : ∀ (ts : List Int) (y : Int), (y :: ts).Pairwise (· < ·) → p (firstL p y ts) = true ∨ ∀ t ∈ y :: ts, t ≤ firstL p y ts
  | [], y, _ => .inr fun t ht => by simp at ht; subst ht; exact Int.le_refl _
  | u :: ts, y, h => by
    obtain ⟨h1, h2⟩ := List.pairwise_cons.1 h
    rw [firstL]
    cases hy : p y with
    | true => exact .inl hy
    | false =>
      rcases firstL_end p ts u h2 with k | k
      · exact .inl k
      · refine .inr fun t ht => ?_
        rcases List.mem_cons.1 ht with rfl | ht
        · have := k u (by simp); have := h1 u (by simp); simp only [cond_false]; omega
        · exact k t ht
theorem tops_in {sh : List Shelf} (hs : Sorted sh) {y : Int} {s : Shelf} (h : s ∈ sh) (hy : y < s.top) : s.top ∈ tops sh y := by
  unfold tops
  refine List.mem_map.2 ⟨s, ?_, rfl⟩
  obtain ⟨i, hi, rfl⟩ := List.getElem_of_mem h
  refine mem_drop_iff.2 ⟨i, ?_, hi, gN_lt hi⟩
  rcases Nat.lt_or_ge i (aftAt sh y) with k | k
  · have := (aftAt_spec hs y).1 i hi k; omega
  · exact k
/-- Between two tops nothing changes. -/
theorem same_Bd {sh : List Shelf} (hw : WF sh) {t z k : Int} (ht : -far ≤ t) (h1 : t ≤ z) (h2 : z ≤ k) (hn : ∀ s ∈ sh, t < s.top → k < s.top) : Bd sh z = Bd sh k := by
  obtain ⟨a, b, e⟩ := fN_spec hw (y := k) (by omega)
  have hm : gN sh (fN sh k) ∈ sh := by rw [gN_lt a]; exact List.getElem_mem a
  have : fN sh z = fN sh k := fN_uniq hw a (by
    rcases Int.lt_or_le t (gN sh (fN sh k)).top with q | q
    · have := hn _ hm q; omega
    · omega) (fun h => by have := e (fN sh k + 1) (Nat.lt_succ_self _) h; omega)
  unfold Bd
  rw [this]
theorem same_b {fl : List Flt} (h : FL fl) {t z k : Int} (ht : -far ≤ t) (h1 : t ≤ z) (h2 : z ≤ k) (hn : ∀ s ∈ shOf fl, t < s.top → k < s.top) : bL fl z = bL fl k ∧ bR fl z = bR fl k := by
  obtain ⟨hw, hb⟩ := bd_fl fl h.ok.all
  have := same_Bd hw ht h1 h2 hn
  rw [hb z (by omega), hb k (by omega)] at this
  exact Prod.mk.inj this
/-- The last top at, or above, a height. -/
theorem last_top : ∀ (ts : List Int) (y k : Int), (y :: ts).Pairwise (· < ·) → y ≤ k → ∃ t ∈ y :: ts, t ≤ k ∧ ∀ u ∈ y :: ts, t < u → k < u
  | [], y, k, _, hk => ⟨y, by simp, hk, fun u hu h => by simp at hu; omega⟩
  | u :: ts, y, k, h, hk => by
    obtain ⟨h1, h2⟩ := List.pairwise_cons.1 h
    rcases Int.lt_or_le k u with q | q
    · refine ⟨y, by simp, hk, fun v hv hyv => ?_⟩
      rcases List.mem_cons.1 hv with rfl | hv
      · omega
      · rcases List.mem_cons.1 hv with rfl | hv
        · exact q
        · have := (List.pairwise_cons.1 h2).1 v hv; omega
    · obtain ⟨t, a, b, e⟩ := last_top ts u k h2 q
      refine ⟨t, List.mem_cons_of_mem _ a, b, fun v hv hv2 => ?_⟩
      rcases List.mem_cons.1 hv with rfl | hv
      · have := h1 t a; omega
      · exact e v hv hv2
theorem bL_far {fl : List Flt} : ∀ (y : Int), (∀ f ∈ fl, f.box.b ≤ y) → bL fl y = -far ∧ bR fl y = far := by
  refine fold_snoc (P := fun fl => ∀ (y : Int), (∀ f ∈ fl, f.box.b ≤ y) → bL fl y = -far ∧ bR fl y = far) (fun _ _ => ⟨rfl, rfl⟩) (fun fl f ih y hy => ?_) fl
  have hf := hy f (by simp)
  obtain ⟨a, b⟩ := ih y (fun g hg => hy g (by simp [hg]))
  constructor
  · unfold bL at a ⊢
    rw [List.foldl_append, List.foldl_cons, List.foldl_nil, a, if_neg (by omega)]
  · unfold bR at b ⊢
    rw [List.foldl_append, List.foldl_cons, List.foldl_nil, b, if_neg (by omega)]
def rmB (fl : List Flt) (c d : Int) (z : Sz) (k : Int) : Bool :=
  decide (z.w ≤ IntKind.i64.wrap (min d (bnd fl k (rowE k z.h)).2 - max c (bnd fl k (rowE k z.h)).1)) || (decide (z.w > IntKind.i64.wrap (d - c)) && (decide ((bnd fl k (rowE k z.h)).1 ≤ c) && decide ((bnd fl k (rowE k z.h)).2 ≥ d)))
theorem beg_rm (fl : List Flt) (c d : Int) (z : Sz) (k : Int) : begB fl c d z k = rmB fl c d z k := by
  unfold begB rmB begR begW lfA lfB
  have e1 : decide (max (bnd fl k (rowE k z.h)).1 c = c) = decide ((bnd fl k (rowE k z.h)).1 ≤ c) := by congr 1; exact propext ⟨fun h => by omega, fun h => by omega⟩
  have e2 : decide (min (bnd fl k (rowE k z.h)).2 d = d) = decide ((bnd fl k (rowE k z.h)).2 ≥ d) := by congr 1; exact propext ⟨fun h => by omega, fun h => by omega⟩
  rw [e1, e2, Bool.and_true]
/-- What LineFirst asks. -/
structure FiL (fl : List Flt) (c d y : Int) (z : Sz) : Prop where
  ge : y ≤ begY fl c d y z
  le : begY fl c d y z ≤ 9007199254740992
  no : ∀ k, y ≤ k → k < begY fl c d y z → rmB fl c d z k = false
  yes : rmB fl c d z (begY fl c d y z) = true
theorem fiL' {fl : List Flt} {c d y : Int} {z : Sz} (h : FL fl) (hc : -140737488355328 ≤ c ∧ c ≤ 140737488355328) (hd : -140737488355328 ≤ d ∧ d ≤ 140737488355328) (hcd : c ≤ d) (hyf : -far ≤ y ∧ y ≤ 9007199254740992) (hz : szOk z = true) : FiL fl c d y z := by
  have hzz : 0 ≤ z.w ∧ z.w ≤ 2147483648 ∧ 0 ≤ z.h ∧ z.h ≤ 2147483648 := by
    unfold szOk at hz
    simp only [Bool.not_eq_true', Bool.or_eq_false_iff, decide_eq_false_iff_not] at hz
    omega
  have hw := (shOf_wf h.ok)
  have hp := tops_sorted hw.sorted y
  have hm : begY fl c d y z ∈ y :: tops (shOf fl) y := firstL_mem _ _ _
  have hr := path_rng h hyf hm
  have hge : y ≤ begY fl c d y z := firstL_ge _ _ _ hp
  refine ⟨hge, hr.2, fun k h1 h2 => ?_, ?_⟩
  · rw [← beg_rm]
    cases hk : begB fl c d z k with
    | false => rfl
    | true =>
      exfalso
      obtain ⟨t, ht, htk, hn⟩ := last_top (tops (shOf fl) y) y k hp h1
      have htr := path_rng h hyf ht
      have hyt : y ≤ t := by
        rcases List.mem_cons.1 ht with rfl | ht
        · exact Int.le_refl _
        · exact Int.le_of_lt (tops_mem hw.sorted ht).1
      have hn' : ∀ s ∈ shOf fl, t < s.top → k < s.top := fun s hs hts => hn _ (List.mem_cons_of_mem _ (tops_in hw.sorted hs (by omega))) hts
      have ek := rowE_eq (y := k) (h := z.h) (by unfold far at *; omega) (by omega)
      have et := rowE_eq (y := t) (h := z.h) htr (by omega)
      have b1 : (bnd fl t (rowE t z.h)).1 ≤ (bnd fl k (rowE k z.h)).1 := by
        rw [et, ek]
        have hk1 := (bnd_1 h (y := k) (b := k + max z.h 1) (by omega) (by omega) (by omega) (bnd fl k (k + max z.h 1)).1).1 (Int.le_refl _)
        refine (bnd_1 h (y := t) (b := t + max z.h 1) htr.1 (by omega) (by omega) _).2 ⟨hk1.1, fun u hu1 hu2 => ?_⟩
        rcases Int.lt_or_le u k with q | q
        · rw [(same_b h htr.1 hu1 (Int.le_of_lt q) hn').1]
          exact hk1.2 k (Int.le_refl _) (by omega)
        · exact hk1.2 u q (by omega)
      have b2 : (bnd fl k (rowE k z.h)).2 ≤ (bnd fl t (rowE t z.h)).2 := by
        rw [et, ek]
        have hk1 := (bnd_2 h (y := k) (b := k + max z.h 1) (by omega) (by omega) (by omega) (bnd fl k (k + max z.h 1)).2).1 (Int.le_refl _)
        refine (bnd_2 h (y := t) (b := t + max z.h 1) htr.1 (by omega) (by omega) _).2 ⟨hk1.1, fun u hu1 hu2 => ?_⟩
        rcases Int.lt_or_le u k with q | q
        · rw [(same_b h htr.1 hu1 (Int.le_of_lt q) hn').2]
          exact hk1.2 k (Int.le_refl _) (by omega)
        · exact hk1.2 u q (by omega)
      have rk := bnd_rng h (y := k) (b := rowE k z.h) (by omega) (by rw [ek]; omega) (by rw [ek]; omega)
      have rt := bnd_rng h (y := t) (b := rowE t z.h) htr.1 (by rw [et]; omega) (by rw [et]; omega)
      have hbt : begB fl c d z t = true := by
        rw [beg_rm] at hk ⊢
        unfold rmB at hk ⊢
        simp only [Bool.or_eq_true, Bool.and_eq_true, decide_eq_true_eq] at hk ⊢
        unfold far at rk rt
        rcases hk with hk | hk
        · rw [W_id (by omega) (by omega)] at hk
          rw [W_id (n := min d (bnd fl t (rowE t z.h)).2 - max c (bnd fl t (rowE t z.h)).1) (by omega) (by omega)]
          exact .inl (by omega)
        · exact .inr ⟨hk.1, by omega, by omega⟩
      have hle : begY fl c d y z ≤ t := firstL_le _ _ _ t hp ht hbt
      omega
  · rw [← beg_rm]
    rcases firstL_end (begB fl c d z) (tops (shOf fl) y) y hp with k | k
    · exact k
    · have k : ∀ t ∈ y :: tops (shOf fl) y, t ≤ begY fl c d y z := k
      generalize hg : begY fl c d y z = g at *
      have hn : ∀ s ∈ shOf fl, ¬ g < s.top := fun s hs hlt => by
        have := k s.top (List.mem_cons_of_mem _ (tops_in hw.sorted hs (by omega)))
        omega
      have hall : ∀ u, g ≤ u → u ≤ 90071992547409920 → bL fl u = -far ∧ bR fl u = far := fun u h1 h2 => by
        have hs := same_b h hr.1 h1 h2 (fun s hs hlt => absurd hlt (hn s hs))
        rw [hs.1, hs.2]
        exact bL_far _ (fun f hf => by have := (h.nr f hf).b.2; omega)
      have eg := rowE_eq (y := g) (h := z.h) hr (by omega)
      have b1 : (bnd fl g (rowE g z.h)).1 ≤ -far := by
        rw [eg]
        exact (bnd_1 h (y := g) (b := g + max z.h 1) hr.1 (by omega) (by omega) _).2 ⟨Int.le_refl _, fun u h1 h2 => by rw [(hall u h1 (by omega)).1]; exact Int.le_refl _⟩
      have b2 : far ≤ (bnd fl g (rowE g z.h)).2 := by
        rw [eg]
        exact (bnd_2 h (y := g) (b := g + max z.h 1) hr.1 (by omega) (by omega) _).2 ⟨Int.le_refl _, fun u h1 h2 => by rw [(hall u h1 (by omega)).2]; exact Int.le_refl _⟩
      rw [beg_rm]
      unfold rmB
      unfold far at b1 b2
      simp only [Bool.or_eq_true, Bool.and_eq_true, decide_eq_true_eq]
      have e1 : min d (bnd fl g (rowE g z.h)).2 = d := by omega
      have e2 : max c (bnd fl g (rowE g z.h)).1 = c := by omega
      rw [e1, e2]
      rcases Int.lt_or_le (IntKind.i64.wrap (d - c)) z.w with q | q
      · exact .inr ⟨q, by omega, by omega⟩
      · exact .inl q
theorem fiL {fl : List Flt} {c d y : Int} {z : Sz} (hb : bg13 fl c d y = true) (hz : szOk z = true) : FiL fl c d y z := by
  obtain ⟨_, hc, hd, hy, hcd⟩ := near13_ok (Bool.and_eq_true_iff.1 hb).2
  exact fiL' (fl13 hb) hc hd hcd (by unfold far; omega) hz
end Go.Proofs.Ytcmedheeafiogaa

namespace Go.Proofs.Ytcmedheeafiogaa
open Go.Sy
set_option linter.unusedVariables false
set_option linter.unusedSimpArgs false
def wdS (zs : List Sz) (a j : Nat) : Int := (((zs.drop a).take j).map (·.w)).sum
def hiS (zs : List Sz) (a j : Nat) : Int := ((zs.drop a).take j).foldl (fun h z => max h z.h) 0
def lnY (L : List Ln) (y : Int) : Nat → Int
  | 0 => y
  | i + 1 => (L.getD i encLn.d).box.b
theorem wdS_succ {zs : List Sz} {a j : Nat} (h : a + j < zs.length) : wdS zs a (j + 1) = wdS zs a j + (zs.getD (a + j) encSz.d).w := by
  unfold wdS
  have hd : j < (zs.drop a).length := by rw [List.length_drop]; omega
  rw [List.take_succ_eq_append_getElem hd, List.map_append, List.sum_append]
  have : zs.getD (a + j) encSz.d = (zs.drop a)[j] := by simp [h]
  rw [this]
  simp
theorem hiS_succ {zs : List Sz} {a j : Nat} (h : a + j < zs.length) : hiS zs a (j + 1) = max (hiS zs a j) (zs.getD (a + j) encSz.d).h := by
  unfold hiS
  have hd : j < (zs.drop a).length := by rw [List.length_drop]; omega
  rw [List.take_succ_eq_append_getElem hd, List.foldl_append]
  have : zs.getD (a + j) encSz.d = (zs.drop a)[j] := by simp [h]
  rw [this]
  rfl
structure AlL (c d y : Int) (zs : List Sz) (L : List Ln) : Prop where
  gl : GrL [] c d zs L
  wr : ∀ a j, a + j ≤ zs.length → 0 ≤ wdS zs a j ∧ wdS zs a j ≤ 2147483648 * j
  cd : -140737488355328 ≤ c ∧ c ≤ d ∧ d ≤ 140737488355328
  zr : ∀ j, j < zs.length → 0 ≤ (zs.getD j encSz.d).w ∧ (zs.getD j encSz.d).w ≤ 2147483648
  yr : ∀ i, i ≤ L.length → -140737488355328 ≤ lnY L y i ∧ lnY L y i ≤ 562949953421312
  t : ∀ i, i < L.length → (L.getD i encLn.d).box.t = lnY L y i
  l : ∀ i, i < L.length → (L.getD i encLn.d).box.l = c
  r : ∀ i, i < L.length → (L.getD i encLn.d).box.r = d
  fit : ∀ i, i < L.length → ∀ j, 1 ≤ j → j < (L.getD i encLn.d).atoms.toNat → wdS zs (dnL L i) (j + 1) ≤ d - c
  nx : ∀ i, i < L.length → dnL L (i + 1) < zs.length → d - c < wdS zs (dnL L i) (L.getD i encLn.d).atoms.toNat + (zs.getD (dnL L (i + 1)) encSz.d).w
  b : ∀ i, i < L.length → (L.getD i encLn.d).box.b = lnY L y i + hiS zs (dnL L i) (L.getD i encLn.d).atoms.toNat
  hr : ∀ a j, a + j ≤ zs.length → 0 ≤ hiS zs a j ∧ hiS zs a j ≤ 2147483648
end Go.Proofs.Ytcmedheeafiogaa

namespace Go.Proofs.Ytcmedheeafiogaa
open Go.Sy
set_option linter.unusedVariables false
set_option linter.unusedSimpArgs false
/-! Lines without floats, plainly. -/
theorem fl0 : FL [] := ⟨okl0, fun f hf => by simp at hf⟩
theorem bnd_nil {y b : Int} (hy : -far ≤ y) (hb : y < b) (h2 : b ≤ 9000000000000000000) : (bnd [] y b).1 = -far ∧ (bnd [] y b).2 = far := by
  have r := bnd_rng fl0 hy hb h2
  have a := (bnd_1 fl0 hy hb h2 (-far)).2 ⟨Int.le_refl _, fun z _ _ => by rw [show bL [] z = -far from rfl]; exact Int.le_refl _⟩
  have b' := (bnd_2 fl0 hy hb h2 far).2 ⟨Int.le_refl _, fun z _ _ => by rw [show bR [] z = far from rfl]; exact Int.le_refl _⟩
  omega
theorem box_nil {c d u h : Int} (hc : -140737488355328 ≤ c ∧ c ≤ 140737488355328) (hd : -140737488355328 ≤ d ∧ d ≤ 140737488355328) (hu : -140737488355328 ≤ u ∧ u ≤ 562949953421312) (hh : 0 ≤ h ∧ h ≤ 2147483648) :
    boxR [] c d u h = ⟨c, u, d, u + h⟩ := by
  have e := rowE_eq (y := u) (h := h) (by unfold far; omega) (by omega)
  obtain ⟨a, b⟩ := bnd_nil (y := u) (b := rowE u h) (by unfold far; omega) (by rw [e]; omega) (by rw [e]; omega)
  unfold boxR lfA lfB
  rw [a, b, W_id (by omega) (by omega)]
  have e1 : max c (-far) = c := by unfold far; omega
  have e2 : min d far = d := by unfold far; omega
  rw [e1, e2]
theorem begY_nil {c d u : Int} {z : Sz} (hu : -far ≤ u) : begY [] c d u z = u := by
  unfold begY firstF
  have : tops (shOf []) u = [] := by
    cases e : tops (shOf []) u with
    | nil => rfl
    | cons t ts =>
      obtain ⟨h1, s, h2, h3⟩ := tops_mem (shOf_wf okl0).sorted (y := u) (t := t) (by rw [e]; simp)
      rcases top_fl [] s h2 with k | ⟨f, hf, _⟩
      · omega
      · simp at hf
  rw [this]
  rfl
theorem szR_rng {zs : List Sz} (h : szR zs = true) : ∀ j, j < zs.length → (0 ≤ (zs.getD j encSz.d).w ∧ (zs.getD j encSz.d).w ≤ 2147483648) ∧ 0 ≤ (zs.getD j encSz.d).h ∧ (zs.getD j encSz.d).h ≤ 2147483648 := by
  intro j hj
  have e : zs.getD j encSz.d = zs[j] := by simp [hj]
  have := List.all_eq_true.1 h _ (List.getElem_mem hj)
  rw [e]
  unfold szOk at this
  simp only [Bool.not_eq_true', Bool.or_eq_false_iff, decide_eq_false_iff_not] at this
  omega
theorem wdS_rng {zs : List Sz} (h : szR zs = true) (a : Nat) : ∀ j, a + j ≤ zs.length → 0 ≤ wdS zs a j ∧ wdS zs a j ≤ 2147483648 * j
  | 0, _ => by simp [wdS]
  | j + 1, hj => by
    have ih := wdS_rng h a j (by omega)
    have := szR_rng h (a + j) (by omega)
    rw [wdS_succ (by omega)]
    omega
theorem hiS_rng {zs : List Sz} (h : szR zs = true) (a : Nat) : ∀ j, a + j ≤ zs.length → 0 ≤ hiS zs a j ∧ hiS zs a j ≤ 2147483648
  | 0, _ => by simp [hiS]
  | j + 1, hj => by
    have ih := hiS_rng h a j (by omega)
    have := szR_rng h (a + j) (by omega)
    rw [hiS_succ (by omega)]
    omega
theorem lnY_app {L M : List Ln} {y : Int} {i : Nat} (h : i ≤ L.length) : lnY (L ++ M) y i = lnY L y i := by
  cases i with
  | zero => rfl
  | succ i =>
    show ((L ++ M).getD i encLn.d).box.b = (L.getD i encLn.d).box.b
    have : (L ++ M).getD i encLn.d = L.getD i encLn.d := by simp [List.getElem?_append_left h]
    rw [this]
/-- A line n that begins with atom a, at u. -/
structure LN (c d : Int) (zs : List Sz) (a : Nat) (u : Int) (m : Nat) (n : Ln) : Prop where
  l : n.box.l = c
  t : n.box.t = u
  r : n.box.r = d
  b : n.box.b = u + hiS zs a n.atoms.toNat
  fit : ∀ j, 1 ≤ j → j < n.atoms.toNat → wdS zs a (j + 1) ≤ d - c
  wd : n.wide = wdS zs a n.atoms.toNat
  u1 : -140737488355328 ≤ u
  u2 : u ≤ 140737488355328 + 2147483648 * m
structure AI (c d y : Int) (zs : List Sz) (s : BS) : Prop where
  oy : s.y = lnY s.out y s.out.length
  out : ∀ i, i < s.out.length → LN c d zs (dnL s.out i) (lnY s.out y i) i (s.out.getD i encLn.d) ∧
    d - c < wdS zs (dnL s.out i) (s.out.getD i encLn.d).atoms.toNat + (zs.getD (dnL s.out (i + 1)) encSz.d).w
  now : ∀ n, s.now = some n → LN c d zs (dnL s.out s.out.length) (lnY s.out y s.out.length) s.out.length n
theorem ai_step {c d y : Int} {zs : List Sz} (hz : zs.length ≤ 40) (hc : -140737488355328 ≤ c ∧ c ≤ 140737488355328) (hd : -140737488355328 ≤ d ∧ d ≤ 140737488355328) (hy : -140737488355328 ≤ y ∧ y ≤ 140737488355328) (hcd : c ≤ d) (hR : szR zs = true) :
    ∀ i, i ≤ zs.length → AI c d y zs (runS [] c d y (zs.take i))
  | 0, _ => ⟨rfl, fun i h => by simp [runS] at h, fun n h => by simp [runS] at h⟩
  | i + 1, hi => by
    have A := ai_step hz hc hd hy hcd hR i (by omega)
    have I := ri_step (y := y) (fl := []) (c := c) (d := d) hz i (by omega)
    have hol := runS_out [] c d y zs i (by omega)
    rw [runS_snoc [] c d y zs i (by omega)]
    generalize runS [] c d y (zs.take i) = s at I A hol
    obtain ⟨⟨z1, z2⟩, z3, z4⟩ := szR_rng hR i (by omega)
    have hws : ∀ a k, a + k = i → wdS zs a (k + 1) = wdS zs a k + (zs.getD i encSz.d).w := fun a k e => by rw [wdS_succ (by omega), e]
    have hhs : ∀ a k, a + k = i → hiS zs a (k + 1) = max (hiS zs a k) (zs.getD i encSz.d).h := fun a k e => by rw [hiS_succ (by omega), e]
    generalize hzz : zs.getD i encSz.d = z at *
    obtain ⟨sy, now, out⟩ := s
    have oy : sy = lnY out y out.length := A.oy
    have hout : ∀ i, i < out.length → LN c d zs (dnL out i) (lnY out y i) i (out.getD i encLn.d) ∧ d - c < wdS zs (dnL out i) (out.getD i encLn.d).atoms.toNat + (zs.getD (dnL out (i + 1)) encSz.d).w := A.out
    have hol : out.length ≤ i := hol
    -- a line that begins with z
    have beg : ∀ (a : Nat) (u : Int) (m : Nat), a = i → -140737488355328 ≤ u → u ≤ 140737488355328 + 2147483648 * m → m ≤ 40 → LN c d zs a u m (begL [] c d u z) := by
      intro a u m ea h1 h2 h3
      have eb : begL [] c d u z = ⟨⟨c, u, d, u + z.h⟩, 1, z.w⟩ := by
        unfold begL
        rw [begY_nil (by unfold far; omega), box_nil hc hd ⟨h1, by omega⟩ ⟨z3, z4⟩]
      rw [eb]
      refine ⟨rfl, rfl, rfl, ?_, fun j h1 h2 => ?_, ?_, h1, h2⟩
      · show u + z.h = u + hiS zs a (1 : Int).toNat
        rw [show (1 : Int).toNat = 0 + 1 from rfl, hhs a 0 (by omega)]
        show u + z.h = u + max 0 z.h
        omega
      · have : j < (1 : Int).toNat := h2
        have : j < 1 := this
        omega
      · show z.w = wdS zs a (1 : Int).toNat
        rw [show (1 : Int).toNat = 0 + 1 from rfl, hws a 0 (by omega)]
        show z.w = 0 + z.w
        omega
    cases now with
    | none =>
      obtain ⟨h0, h1⟩ := I.nn rfl
      have h1 : out = [] := h1
      subst h1 h0
      have oy : sy = y := oy
      subst oy
      refine ⟨rfl, fun j h => absurd h (Nat.not_lt_zero _), fun n h => ?_⟩
      simp only [stepZ, Option.some.injEq] at h
      subst h
      exact beg 0 sy 0 rfl hy.1 (by omega) (by omega)
    | some n =>
      obtain ⟨a1, a2⟩ := I.now1 n rfl
      have ht : dnL out out.length + n.atoms.toNat = i := I.tot
      have N : LN c d zs (dnL out out.length) (lnY out y out.length) out.length n := A.now n rfl
      have hwr := wdS_rng hR (dnL out out.length) n.atoms.toNat (by omega)
      have hhr := hiS_rng hR (dnL out out.length) n.atoms.toNat (by omega)
      have hu1 := N.u1
      have hu2 := N.u2
      have eH : addH n z.h = max (hiS zs (dnL out out.length) n.atoms.toNat) z.h := by
        unfold addH
        rw [N.b, N.t, W_id (by omega) (by omega)]
        congr 1
        omega
      have eW : IntKind.i64.wrap (n.wide + z.w) = wdS zs (dnL out out.length) n.atoms.toNat + z.w := by rw [N.wd, W_id (by omega) (by omega)]
      have eB : boxR [] c d n.box.t (addH n z.h) = ⟨c, lnY out y out.length, d, lnY out y out.length + addH n z.h⟩ := by
        rw [N.t]; exact box_nil hc hd ⟨hu1, by omega⟩ (by rw [eH]; omega)
      have eA : addN [] c d n z = ⟨⟨c, lnY out y out.length, d, lnY out y out.length + addH n z.h⟩, n.atoms + 1, wdS zs (dnL out out.length) n.atoms.toNat + z.w⟩ := by
        unfold addN
        rw [eB, eW, W_id (by omega) (by omega)]
      have eK : (n.atoms + 1).toNat = n.atoms.toNat + 1 := by omega
      unfold stepZ
      cases hb : addB [] c d n z with
      | true =>
        simp only [hb, cond_true]
        have hfit : wdS zs (dnL out out.length) n.atoms.toNat + z.w ≤ d - c := by
          unfold addB at hb
          rw [eA] at hb
          simp only [Bool.not_eq_true', decide_eq_false_iff_not] at hb
          rw [W_id (by omega) (by omega)] at hb
          omega
        refine ⟨oy, hout, fun m h => ?_⟩
        simp only [Option.some.injEq] at h
        subst h
        show LN c d zs (dnL out out.length) (lnY out y out.length) out.length (addN [] c d n z)
        rw [eA]
        refine ⟨rfl, rfl, rfl, ?_, fun j h1 h2 => ?_, ?_, hu1, hu2⟩
        · show lnY out y out.length + addH n z.h = lnY out y out.length + hiS zs (dnL out out.length) (n.atoms + 1).toNat
          rw [eK, hhs _ _ ht, eH]
        · have h2 : j < (n.atoms + 1).toNat := h2
          rcases Nat.lt_or_ge j n.atoms.toNat with q | q
          · exact N.fit j h1 q
          · have : j = n.atoms.toNat := by omega
            subst this
            rw [hws _ _ ht]; exact hfit
        · show wdS zs (dnL out out.length) n.atoms.toNat + z.w = wdS zs (dnL out out.length) (n.atoms + 1).toNat
          rw [eK, hws _ _ ht]
      | false =>
        simp only [hb, cond_false]
        have hnf : d - c < wdS zs (dnL out out.length) n.atoms.toNat + z.w := by
          unfold addB at hb
          rw [eA] at hb
          simp only [Bool.not_eq_false', decide_eq_true_eq] at hb
          rw [W_id (by omega) (by omega)] at hb
          omega
        have e1 : (out ++ [n]).getD out.length encLn.d = n := by simp
        have e2 : lnY (out ++ [n]) y (out.length + 1) = n.box.b := by
          show ((out ++ [n]).getD out.length encLn.d).box.b = _
          rw [e1]
        refine ⟨?_, fun j h => ?_, fun m h => ?_⟩
        · show n.box.b = lnY (out ++ [n]) y (out ++ [n]).length
          rw [List.length_append, List.length_singleton, e2]
        · rw [List.length_append, List.length_singleton] at h
          show LN c d zs (dnL (out ++ [n]) j) (lnY (out ++ [n]) y j) j ((out ++ [n]).getD j encLn.d) ∧ d - c < wdS zs (dnL (out ++ [n]) j) ((out ++ [n]).getD j encLn.d).atoms.toNat + (zs.getD (dnL (out ++ [n]) (j + 1)) encSz.d).w
          rcases Nat.lt_or_ge j out.length with q | q
          · have e : (out ++ [n]).getD j encLn.d = out.getD j encLn.d := by simp [List.getElem?_append_left q]
            rw [e, dnL_app (Nat.le_of_lt q), dnL_app q, lnY_app (Nat.le_of_lt q)]
            exact hout j q
          · have hj : j = out.length := by omega
            subst hj
            rw [e1, dnL_full, dnL_app (Nat.le_refl _), lnY_app (Nat.le_refl _), ht]
            exact ⟨N, by rw [hzz]; exact hnf⟩
        · simp only [Option.some.injEq] at h
          subst h
          show LN c d zs (dnL (out ++ [n]) (out ++ [n]).length) (lnY (out ++ [n]) y (out ++ [n]).length) (out ++ [n]).length (begL [] c d n.box.b z)
          rw [List.length_append, List.length_singleton, dnL_full, e2, ht]
          have hb := N.b
          exact beg i n.box.b (out.length + 1) rfl (by omega) (by omega) (by omega)
theorem alL_of {c d y : Int} {zs : List Sz} {L : List Ln} (G : GrL [] c d zs L) (hc : -140737488355328 ≤ c ∧ c ≤ 140737488355328) (hd : -140737488355328 ≤ d ∧ d ≤ 140737488355328) (hy : -140737488355328 ≤ y ∧ y ≤ 140737488355328) (hcd : c ≤ d) (hR : szR zs = true)
    (hN : ∀ i, i < L.length → LN c d zs (dnL L i) (lnY L y i) i (L.getD i encLn.d) ∧ (dnL L (i + 1) < zs.length → d - c < wdS zs (dnL L i) (L.getD i encLn.d).atoms.toNat + (zs.getD (dnL L (i + 1)) encSz.d).w)) : AlL c d y zs L := by
  refine ⟨G, fun a j h => wdS_rng hR a j h, ⟨hc.1, hcd, hd.2⟩, fun j h => (szR_rng hR j h).1, fun i h => ?_, fun i h => (hN i h).1.t, fun i h => (hN i h).1.l, fun i h => (hN i h).1.r, fun i h => (hN i h).1.fit, fun i h => (hN i h).2, fun i h => (hN i h).1.b, fun a j h => hiS_rng hR a j h⟩
  cases i with
  | zero => show _ ≤ y ∧ y ≤ _; omega
  | succ i =>
    have N := (hN i h).1
    have hs := dnL_succ (L := L) (i := i) h
    have := G.dn (i + 1) h
    have hh := hiS_rng hR (dnL L i) (L.getD i encLn.d).atoms.toNat (by omega)
    have h1 := N.u1
    have h2 := N.u2
    have h3 := G.len
    have h4 := N.b
    show _ ≤ (L.getD i encLn.d).box.b ∧ (L.getD i encLn.d).box.b ≤ _
    omega
theorem alL {c d y : Int} {zs : List Sz} (hb : bg13 [] c d y = true) (hR : szR zs = true) (hz : zs.length ≤ 40) : AlL c d y zs (allL [] c d y zs) := by
  obtain ⟨_, hc, hd, hy, hcd⟩ := near13_ok (Bool.and_eq_true_iff.1 hb).2
  have A := ai_step hz hc hd hy hcd hR zs.length (Nat.le_refl _)
  have I := ri_step (y := y) (fl := []) (c := c) (d := d) hz zs.length (Nat.le_refl _)
  have G := grL (fl := []) (c := c) (d := d) (y := y) hz
  rw [List.take_length] at A I
  unfold allL at G ⊢
  generalize runS [] c d y zs = s at A I G
  obtain ⟨sy, now, out⟩ := s
  cases now with
  | none =>
    obtain ⟨h0, h1⟩ := I.nn rfl
    have h1 : out = [] := h1
    subst h1
    exact alL_of G hc hd hy hcd hR (fun i h => absurd h (Nat.not_lt_zero _))
  | some n =>
    have G : GrL [] c d zs (out ++ [n]) := G
    show AlL c d y zs (out ++ [n])
    have ht : dnL out out.length + n.atoms.toNat = zs.length := I.tot
    have N : LN c d zs (dnL out out.length) (lnY out y out.length) out.length n := A.now n rfl
    have hout : ∀ i, i < out.length → LN c d zs (dnL out i) (lnY out y i) i (out.getD i encLn.d) ∧ d - c < wdS zs (dnL out i) (out.getD i encLn.d).atoms.toNat + (zs.getD (dnL out (i + 1)) encSz.d).w := A.out
    refine alL_of G hc hd hy hcd hR (fun j h => ?_)
    rw [List.length_append, List.length_singleton] at h
    rcases Nat.lt_or_ge j out.length with q | q
    · have e : (out ++ [n]).getD j encLn.d = out.getD j encLn.d := by simp [List.getElem?_append_left q]
      rw [e, dnL_app (Nat.le_of_lt q), dnL_app q, lnY_app (Nat.le_of_lt q)]
      exact ⟨(hout j q).1, fun _ => (hout j q).2⟩
    · have hj : j = out.length := by omega
      subst hj
      have e1 : (out ++ [n]).getD out.length encLn.d = n := by simp
      rw [e1, dnL_full, dnL_app (Nat.le_refl _), lnY_app (Nat.le_refl _), ht]
      exact ⟨N, fun h => absurd h (Nat.lt_irrefl _)⟩
end Go.Proofs.Ytcmedheeafiogaa

namespace Go.Proofs.Ytcmedheeafiogaa
open Go.Sy
set_option linter.unusedVariables false
set_option linter.unusedSimpArgs false
-- rect.both of Clip, Common, Meet
def cmn (a b : Rc) : Rc := ⟨max a.l b.l, max a.t b.t, min a.r b.r, min a.b b.b⟩
def meetB (a b : Rc) : Bool := decide (0 < IntKind.i64.wrap ((cmn a b).r - (cmn a b).l)) && decide (0 < IntKind.i64.wrap ((cmn a b).b - (cmn a b).t))
theorem t104 (a b : Rc) : Tri Try.prog 104 [.one (.fn 64 []), rcP a, rcP b] [] (fun x post => x = .v (rcP (cmn a b)) ∧ post = []) := by
  (refine tri_x tabOK Try.func104 rfl rfl Try.ntmps104 (by simp) fun C => ?_; (conv => whnf); repeat ((first | (refine cnd (by first | assumption | omega | decide) ?_) | (refine cnd0 ?_) | (refine Chk.mk (by kernel_rfl) ?_) | (refine xdraw_rule tabOK ?_) | (refine xdraw_rule (tabLOK _) ?_)); (conv => whnf)))
  (refine dcallR (t69 a.l a.t a.r a.b) rfl fun hT_ => ?_; (conv => whnf); refine cnd hT_ (cnd rfl (cnd (by repeat (first | exact trivial | refine ⟨rfl, ?_⟩)) (cnd rfl (cnd0 ?_)))); clear hT_; (conv => whnf); repeat ((first | (refine cnd (by first | assumption | omega | decide) ?_) | (refine cnd0 ?_) | (refine Chk.mk (by kernel_rfl) ?_) | (refine xdraw_rule tabOK ?_) | (refine xdraw_rule (tabLOK _) ?_)); (conv => whnf)))
  (refine dcallR (t69 b.l b.t b.r b.b) rfl fun hT_ => ?_; (conv => whnf); refine cnd hT_ (cnd rfl (cnd (by repeat (first | exact trivial | refine ⟨rfl, ?_⟩)) (cnd rfl (cnd0 ?_)))); clear hT_; (conv => whnf); repeat ((first | (refine cnd (by first | assumption | omega | decide) ?_) | (refine cnd0 ?_) | (refine Chk.mk (by kernel_rfl) ?_) | (refine xdraw_rule tabOK ?_) | (refine xdraw_rule (tabLOK _) ?_)); (conv => whnf)))
  (refine dcallR (t64 a.l a.r b.l b.r) rfl fun hT_ => ?_; (conv => whnf); refine cnd hT_ (cnd rfl (cnd (by repeat (first | exact trivial | refine ⟨rfl, ?_⟩)) (cnd rfl (cnd0 ?_)))); clear hT_; (conv => whnf); repeat ((first | (refine cnd (by first | assumption | omega | decide) ?_) | (refine cnd0 ?_) | (refine Chk.mk (by kernel_rfl) ?_) | (refine xdraw_rule tabOK ?_) | (refine xdraw_rule (tabLOK _) ?_)); (conv => whnf)))
  (refine dcallR (t67 a.l a.t a.r a.b) rfl fun hT_ => ?_; (conv => whnf); refine cnd hT_ (cnd rfl (cnd (by repeat (first | exact trivial | refine ⟨rfl, ?_⟩)) (cnd rfl (cnd0 ?_)))); clear hT_; (conv => whnf); repeat ((first | (refine cnd (by first | assumption | omega | decide) ?_) | (refine cnd0 ?_) | (refine Chk.mk (by kernel_rfl) ?_) | (refine xdraw_rule tabOK ?_) | (refine xdraw_rule (tabLOK _) ?_)); (conv => whnf)))
  (refine dcallR (t67 b.l b.t b.r b.b) rfl fun hT_ => ?_; (conv => whnf); refine cnd hT_ (cnd rfl (cnd (by repeat (first | exact trivial | refine ⟨rfl, ?_⟩)) (cnd rfl (cnd0 ?_)))); clear hT_; (conv => whnf); repeat ((first | (refine cnd (by first | assumption | omega | decide) ?_) | (refine cnd0 ?_) | (refine Chk.mk (by kernel_rfl) ?_) | (refine xdraw_rule tabOK ?_) | (refine xdraw_rule (tabLOK _) ?_)); (conv => whnf)))
  (refine dcallR (t64 a.t a.b b.t b.b) rfl fun hT_ => ?_; (conv => whnf); refine cnd hT_ (cnd rfl (cnd (by repeat (first | exact trivial | refine ⟨rfl, ?_⟩)) (cnd rfl (cnd0 ?_)))); clear hT_; (conv => whnf); repeat ((first | (refine cnd (by first | assumption | omega | decide) ?_) | (refine cnd0 ?_) | (refine Chk.mk (by kernel_rfl) ?_) | (refine xdraw_rule tabOK ?_) | (refine xdraw_rule (tabLOK _) ?_)); (conv => whnf)))
  (refine dcallR (t60 (max a.l b.l) (min a.r b.r) (max a.t b.t) (min a.b b.b)) rfl fun hT_ => ?_; (conv => whnf); refine cnd hT_ (cnd rfl (cnd (by repeat (first | exact trivial | refine ⟨rfl, ?_⟩)) (cnd rfl (cnd0 ?_)))); clear hT_; (conv => whnf); repeat ((first | (refine cnd (by first | assumption | omega | decide) ?_) | (refine cnd0 ?_) | (refine Chk.mk (by kernel_rfl) ?_) | (refine xdraw_rule tabOK ?_) | (refine xdraw_rule (tabLOK _) ?_)); (conv => whnf)))
  exact xend [] _ _ ⟨rfl, rfl⟩ rfl rfl rfl (by repeat' (first | exact trivial | exact rfl | (refine And.intro ?_ ?_) | omega)) (by repeat' (first | exact trivial | exact rfl | (refine And.intro ?_ ?_) | omega))
theorem t84 (a b : Rc) : Tri Try.prog 84 [rcP a, rcP b] [] (fun x post => x = .v (rcP (cmn a b)) ∧ post = []) := by
  (refine tri_x tabOK Try.func84 rfl rfl Try.ntmps84 (by simp) fun C => ?_; (conv => whnf); repeat ((first | (refine cnd (by first | assumption | omega | decide) ?_) | (refine cnd0 ?_) | (refine Chk.mk (by kernel_rfl) ?_) | (refine xdraw_rule tabOK ?_) | (refine xdraw_rule (tabLOK _) ?_)); (conv => whnf)))
  (refine xcall (t104 a b) rfl rfl rfl (by repeat (first | exact trivial | refine ⟨rfl, ?_⟩)) ?_; (conv => whnf); repeat ((first | (refine cnd (by first | assumption | omega | decide) ?_) | (refine cnd0 ?_) | (refine Chk.mk (by kernel_rfl) ?_) | (refine xdraw_rule tabOK ?_) | (refine xdraw_rule (tabLOK _) ?_)); (conv => whnf)))
  exact xend [] _ _ ⟨rfl, rfl⟩ rfl rfl rfl (by repeat' (first | exact trivial | exact rfl | (refine And.intro ?_ ?_) | omega)) (by repeat' (first | exact trivial | exact rfl | (refine And.intro ?_ ?_) | omega))
theorem t45 (a b : Rc) : Tri Try.prog 45 [rcP a, rcP b] [] (fun x post => x = .v (bv (meetB a b)) ∧ post = []) := by
  (refine tri_x tabOK Try.func45 rfl rfl Try.ntmps45 (by simp) fun C => ?_; (conv => whnf); repeat ((first | (refine cnd (by first | assumption | omega | decide) ?_) | (refine cnd0 ?_) | (refine Chk.mk (by kernel_rfl) ?_) | (refine xdraw_rule tabOK ?_) | (refine xdraw_rule (tabLOK _) ?_)); (conv => whnf)))
  (refine xcall (t84 a b) rfl rfl rfl (by repeat (first | exact trivial | refine ⟨rfl, ?_⟩)) ?_; (conv => whnf); repeat ((first | (refine cnd (by first | assumption | omega | decide) ?_) | (refine cnd0 ?_) | (refine Chk.mk (by kernel_rfl) ?_) | (refine xdraw_rule tabOK ?_) | (refine xdraw_rule (tabLOK _) ?_)); (conv => whnf)))
  (refine xcall (t83 (cmn a b).l (cmn a b).t (cmn a b).r (cmn a b).b) rfl rfl rfl (by repeat (first | exact trivial | refine ⟨rfl, ?_⟩)) ?_; (conv => whnf); repeat ((first | (refine cnd (by first | assumption | omega | decide) ?_) | (refine cnd0 ?_) | (refine Chk.mk (by kernel_rfl) ?_) | (refine xdraw_rule tabOK ?_) | (refine xdraw_rule (tabLOK _) ?_)); (conv => whnf)))
  exact xend [] _ _ ⟨rfl, rfl⟩ rfl rfl rfl (by repeat' (first | exact trivial | exact rfl | (refine And.intro ?_ ?_) | omega)) (by repeat' (first | exact trivial | exact rfl | (refine And.intro ?_ ?_) | omega))
-- ref13.Wide
theorem t48 (zs : List Sz) (a K : Nat) (hK : a + K ≤ zs.length) (hz : zs.length ≤ 40) (hr : ∀ j, j ≤ K → 0 ≤ wdS zs a j ∧ wdS zs a j ≤ 2147483648 * j) : Tri Try.prog 48 [.one (.slice 0 a 2 K)] [some (.view encSz zs)] (fun x post => x = .v (iv (wdS zs a K)) ∧ post = [some (.view encSz zs)]) := by
  (refine tri_x tabOK Try.func48 rfl rfl Try.ntmps48 (by simp) fun C => ?_; (conv => whnf); repeat ((first | (refine cnd (by first | assumption | omega | decide) ?_) | (refine cnd0 ?_) | (refine Chk.mk (by kernel_rfl) ?_) | (refine xdraw_rule tabOK ?_) | (refine xdraw_rule (tabLOK _) ?_)); (conv => whnf)))
  refine xloop tabOK (fun j : Nat => j ≤ K) (fun j => [(0, .v (.one (.slice 0 a 2 K))), (3, .v (iv (wdS zs a j))), (4, .v (iv j))]) (fun j => [some (.view encSz zs)]) (fun j => K - j) (0) [0] (Nat.zero_le _) rfl rfl rfl (by repeat' (first | exact trivial | exact rfl | (refine And.intro ?_ ?_) | omega)) (by repeat' (first | exact trivial | exact rfl | (refine And.intro ?_ ?_) | omega)) ?_
  intro j hj
  ((conv => whnf); repeat ((first | (refine cnd (by first | assumption | omega | decide) ?_) | (refine cnd0 ?_) | (refine Chk.mk (by kernel_rfl) ?_) | (refine xdraw_rule tabOK ?_) | (refine xdraw_rule (tabLOK _) ?_)); (conv => whnf)))
  (refine Br.mk (fun q => ?_) (fun q => ?_) <;> ((conv => whnf); repeat ((first | (refine cnd (by first | assumption | omega | decide) ?_) | (refine cnd0 ?_) | (refine Chk.mk (by kernel_rfl) ?_) | (refine xdraw_rule tabOK ?_) | (refine xdraw_rule (tabLOK _) ?_)); (conv => whnf))))
  · have hjl : j < K := by have := of_decide_eq_true q; omega
    have hwj : IntKind.i64.wrap ((j : Int) + 1) = (j + 1 : Nat) := by rw [W_id (by omega) (by omega)]; rfl
    have hj0 : a + (j : Int).toNat = a + j := by omega
    have hw1 := wdS_succ (zs := zs) (a := a) (j := j) (by omega)
    have hr1 := hr (j + 1) hjl
    have hww : IntKind.i64.wrap (wdS zs a j + (zs.getD (a + (j : Int).toNat) encSz.d).w) = wdS zs a (j + 1) := by rw [hj0, ← hw1, W_id (by omega) (by omega)]
    (repeat ((first | (refine cnd (by first | assumption | omega | decide) ?_) | (refine cnd0 ?_) | (refine Chk.mk (by kernel_rfl) ?_) | (refine xdraw_rule tabOK ?_) | (refine xdraw_rule (tabLOK _) ?_)); (conv => whnf)))
    exact rnd (j + 1) [0] (hjl) (by omega) rfl rfl rfl (by repeat' (first | exact trivial | exact rfl | (refine And.intro ?_ ?_) | omega | first | exact hwj | exact hww)) (by repeat' (first | exact trivial | exact rfl | (refine And.intro ?_ ?_) | omega | first | exact hwj | exact hww))
  · have hjl : j = K := by have := of_decide_eq_false q; omega
    subst hjl
    exact xend [0] _ _ ⟨rfl, rfl⟩ rfl rfl rfl (by repeat' (first | exact trivial | exact rfl | (refine And.intro ?_ ?_) | omega)) (by repeat' (first | exact trivial | exact rfl | (refine And.intro ?_ ?_) | omega))
-- ref13.High
theorem t49 (zs : List Sz) (a K : Nat) (hK : a + K ≤ zs.length) (hz : zs.length ≤ 40) : Tri Try.prog 49 [.one (.slice 0 a 2 K)] [some (.view encSz zs)] (fun x post => x = .v (iv (hiS zs a K)) ∧ post = [some (.view encSz zs)]) := by
  (refine tri_x tabOK Try.func49 rfl rfl Try.ntmps49 (by simp) fun C => ?_; (conv => whnf); repeat ((first | (refine cnd (by first | assumption | omega | decide) ?_) | (refine cnd0 ?_) | (refine Chk.mk (by kernel_rfl) ?_) | (refine xdraw_rule tabOK ?_) | (refine xdraw_rule (tabLOK _) ?_)); (conv => whnf)))
  refine xloop tabOK (fun j : Nat => j ≤ K) (fun j => [(0, .v (.one (.slice 0 a 2 K))), (3, .v (iv (hiS zs a j))), (4, .v (iv j))]) (fun j => [some (.view encSz zs)]) (fun j => K - j) (0) [0] (Nat.zero_le _) rfl rfl rfl (by repeat' (first | exact trivial | exact rfl | (refine And.intro ?_ ?_) | omega)) (by repeat' (first | exact trivial | exact rfl | (refine And.intro ?_ ?_) | omega)) ?_
  intro j hj
  ((conv => whnf); repeat ((first | (refine cnd (by first | assumption | omega | decide) ?_) | (refine cnd0 ?_) | (refine Chk.mk (by kernel_rfl) ?_) | (refine xdraw_rule tabOK ?_) | (refine xdraw_rule (tabLOK _) ?_)); (conv => whnf)))
  (refine Br.mk (fun q => ?_) (fun q => ?_) <;> ((conv => whnf); repeat ((first | (refine cnd (by first | assumption | omega | decide) ?_) | (refine cnd0 ?_) | (refine Chk.mk (by kernel_rfl) ?_) | (refine xdraw_rule tabOK ?_) | (refine xdraw_rule (tabLOK _) ?_)); (conv => whnf))))
  · have hjl : j < K := by have := of_decide_eq_true q; omega
    have hwj : IntKind.i64.wrap ((j : Int) + 1) = (j + 1 : Nat) := by rw [W_id (by omega) (by omega)]; rfl
    have hj0 : a + (j : Int).toNat = a + j := by omega
    have hh1 := hiS_succ (zs := zs) (a := a) (j := j) (by omega)
    (repeat ((first | (refine cnd (by first | assumption | omega | decide) ?_) | (refine cnd0 ?_) | (refine Chk.mk (by kernel_rfl) ?_) | (refine xdraw_rule tabOK ?_) | (refine xdraw_rule (tabLOK _) ?_)); (conv => whnf)))
    (refine Br.mk (fun g => ?_) (fun g => ?_) <;> ((conv => whnf); repeat ((first | (refine cnd (by first | assumption | omega | decide) ?_) | (refine cnd0 ?_) | (refine Chk.mk (by kernel_rfl) ?_) | (refine xdraw_rule tabOK ?_) | (refine xdraw_rule (tabLOK _) ?_)); (conv => whnf))))
    · rw [hj0] at g
      have g := of_decide_eq_true g
      have hhh : (zs.getD (a + (j : Int).toNat) encSz.d).h = hiS zs a (j + 1) := by rw [hj0, hh1]; omega
      exact rnd (j + 1) [0] (hjl) (by omega) rfl rfl rfl (by repeat' (first | exact trivial | exact rfl | (refine And.intro ?_ ?_) | omega | first | exact hwj | exact hhh)) (by repeat' (first | exact trivial | exact rfl | (refine And.intro ?_ ?_) | omega | first | exact hwj | exact hhh))
    · rw [hj0] at g
      have g := of_decide_eq_false g
      have hhh : hiS zs a j = hiS zs a (j + 1) := by rw [hh1]; omega
      exact rnd (j + 1) [0] (hjl) (by omega) rfl rfl rfl (by repeat' (first | exact trivial | exact rfl | (refine And.intro ?_ ?_) | omega | first | exact hwj | exact hhh)) (by repeat' (first | exact trivial | exact rfl | (refine And.intro ?_ ?_) | omega | first | exact hwj | exact hhh))
  · have hjl : j = K := by have := of_decide_eq_false q; omega
    subst hjl
    exact xend [0] _ _ ⟨rfl, rfl⟩ rfl rfl rfl (by repeat' (first | exact trivial | exact rfl | (refine And.intro ?_ ?_) | omega)) (by repeat' (first | exact trivial | exact rfl | (refine And.intro ?_ ?_) | omega))
end Go.Proofs.Ytcmedheeafiogaa
