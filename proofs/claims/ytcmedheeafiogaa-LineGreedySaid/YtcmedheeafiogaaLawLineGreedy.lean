/-
  LineGreedy: a line ends only where the next atom does not fit: the law's walk, the plain law, and the row.
-/
import Derived.Test.YtcmedheeafiogaaKi
namespace Go.Proofs.Ytcmedheeafiogaa
open Go.Sy
set_option linter.unusedVariables false
set_option linter.unusedSimpArgs false
def dnL (L : List Ln) (i : Nat) : Nat := ((L.take i).map fun n => n.atoms.toNat).sum
/-- What LineGreedy asks. -/
structure GrL (l : List Flt) (c d : Int) (zs : List Sz) (L : List Ln) : Prop where
  len : L.length ≤ 40
  at1 : ∀ i, i < L.length → 1 ≤ (L.getD i encLn.d).atoms ∧ (L.getD i encLn.d).atoms ≤ 40
  dn : ∀ i, i ≤ L.length → dnL L i ≤ zs.length
  all : dnL L L.length = zs.length
  gr : ∀ i, i < L.length → dnL L (i + 1) < zs.length → addB l c d (L.getD i encLn.d) (zs.getD (dnL L (i + 1)) encSz.d) = false
theorem dnL_succ {L : List Ln} {i : Nat} (h : i < L.length) : dnL L (i + 1) = dnL L i + (L.getD i encLn.d).atoms.toNat := by
  unfold dnL
  have : L.getD i encLn.d = L[i] := by simp [h]
  rw [List.take_succ_eq_append_getElem h, this, List.map_append, List.sum_append]
  rfl
-- LineGreedy
theorem t4 (law : ∀ (l : List Flt) (c d y : Int) (zs : List Sz), bg13 l c d y = true → szR zs = true → zs.length ≤ 40 → GrL l c d zs (allL l c d y zs))
    (l : List Flt) (hl : l.length < 2 ^ 48) (c d y : Int) (zs : List Sz) (hz : zs.length < 2 ^ 48) : Tri Try.prog 4 [.one (.slice 0 0 5 l.length), iv c, iv d, iv y, .one (.slice 1 0 2 zs.length)] [some (.view encFlt l), some (.view encSz zs)] tru := by
  (refine tri_x tabOK Try.func4 rfl rfl Try.ntmps4 (by simp) fun C => ?_; (conv => whnf); repeat ((first | (refine cnd (by first | assumption | omega | decide) ?_) | (refine cnd0 ?_) | (refine Chk.mk (by kernel_rfl) ?_) | (refine xdraw_rule tabOK ?_) | (refine xdraw_rule (tabLOK _) ?_)); (conv => whnf)))
  (refine xcallR (t22 l hl c d y) rfl rfl rfl (by repeat (first | exact trivial | refine ⟨rfl, ?_⟩)) ?_)
  rintro x post (⟨e, rfl, rfl⟩ | ⟨e, rfl, rfl⟩)
  · have ho := bg13_ok e
    ((conv => whnf); repeat ((first | (refine cnd (by first | assumption | omega | decide) ?_) | (refine cnd0 ?_) | (refine Chk.mk (by kernel_rfl) ?_) | (refine xdraw_rule tabOK ?_) | (refine xdraw_rule (tabLOK _) ?_)); (conv => whnf)))
    (refine xcall (t23) rfl rfl rfl (by repeat (first | exact trivial | refine ⟨rfl, ?_⟩)) ?_; (conv => whnf); repeat ((first | (refine cnd (by first | assumption | omega | decide) ?_) | (refine cnd0 ?_) | (refine Chk.mk (by kernel_rfl) ?_) | (refine xdraw_rule tabOK ?_) | (refine xdraw_rule (tabLOK _) ?_)); (conv => whnf)))
    (refine Br.mk (fun c1 => ?_) (fun c1 => ?_) <;> ((conv => whnf); repeat ((first | (refine cnd (by first | assumption | omega | decide) ?_) | (refine cnd0 ?_) | (refine Chk.mk (by kernel_rfl) ?_) | (refine xdraw_rule tabOK ?_) | (refine xdraw_rule (tabLOK _) ?_)); (conv => whnf))))
    · exact absurd c1 (by decide)
    · (refine Br.mk (fun c2 => ?_) (fun c2 => ?_) <;> ((conv => whnf); repeat ((first | (refine cnd (by first | assumption | omega | decide) ?_) | (refine cnd0 ?_) | (refine Chk.mk (by kernel_rfl) ?_) | (refine xdraw_rule tabOK ?_) | (refine xdraw_rule (tabLOK _) ?_)); (conv => whnf))))
      · (refine xcall (t23) rfl rfl rfl (by repeat (first | exact trivial | refine ⟨rfl, ?_⟩)) ?_; (conv => whnf); repeat ((first | (refine cnd (by first | assumption | omega | decide) ?_) | (refine cnd0 ?_) | (refine Chk.mk (by kernel_rfl) ?_) | (refine xdraw_rule tabOK ?_) | (refine xdraw_rule (tabLOK _) ?_)); (conv => whnf)))
        exact xend [0, 1] (.v (bv true)) ([some (.view encFlt l), some (.view encSz zs)]) (rfl) rfl rfl rfl (by repeat' (first | exact trivial | exact rfl | (refine And.intro ?_ ?_) | omega)) (by repeat' (first | exact trivial | exact rfl | (refine And.intro ?_ ?_) | omega))
      · have hz40 : zs.length ≤ 40 := by simp at c2; omega
        (refine xcall (t24 zs (by omega)) rfl rfl rfl (by repeat (first | exact trivial | refine ⟨rfl, ?_⟩)) ?_; (conv => whnf); repeat ((first | (refine cnd (by first | assumption | omega | decide) ?_) | (refine cnd0 ?_) | (refine Chk.mk (by kernel_rfl) ?_) | (refine xdraw_rule tabOK ?_) | (refine xdraw_rule (tabLOK _) ?_)); (conv => whnf)))
        (refine Br.mk (fun c3 => ?_) (fun c3 => ?_) <;> ((conv => whnf); repeat ((first | (refine cnd (by first | assumption | omega | decide) ?_) | (refine cnd0 ?_) | (refine Chk.mk (by kernel_rfl) ?_) | (refine xdraw_rule tabOK ?_) | (refine xdraw_rule (tabLOK _) ?_)); (conv => whnf))))
        · (refine xcall (t23) rfl rfl rfl (by repeat (first | exact trivial | refine ⟨rfl, ?_⟩)) ?_; (conv => whnf); repeat ((first | (refine cnd (by first | assumption | omega | decide) ?_) | (refine cnd0 ?_) | (refine Chk.mk (by kernel_rfl) ?_) | (refine xdraw_rule tabOK ?_) | (refine xdraw_rule (tabLOK _) ?_)); (conv => whnf)))
          exact xend [0, 1] (.v (bv true)) ([some (.view encFlt l), some (.view encSz zs)]) (rfl) rfl rfl rfl (by repeat' (first | exact trivial | exact rfl | (refine And.intro ?_ ?_) | omega)) (by repeat' (first | exact trivial | exact rfl | (refine And.intro ?_ ?_) | omega))
        · have hr : szR zs = true := by simpa using c3
          have G := law l c d y zs e hr hz40
          have T25 := t25 l ho c d y zs (by omega)
          generalize allL l c d y zs = L at G T25
          (refine xcall (t26 zs (by omega)) rfl rfl rfl (by repeat (first | exact trivial | refine ⟨rfl, ?_⟩)) ?_; (conv => whnf); repeat ((first | (refine cnd (by first | assumption | omega | decide) ?_) | (refine cnd0 ?_) | (refine Chk.mk (by kernel_rfl) ?_) | (refine xdraw_rule tabOK ?_) | (refine xdraw_rule (tabLOK _) ?_)); (conv => whnf)))
          (refine xcall (T25) rfl rfl rfl (by repeat (first | exact trivial | refine ⟨rfl, ?_⟩)) ?_; (conv => whnf); repeat ((first | (refine cnd (by first | assumption | omega | decide) ?_) | (refine cnd0 ?_) | (refine Chk.mk (by kernel_rfl) ?_) | (refine xdraw_rule tabOK ?_) | (refine xdraw_rule (tabLOK _) ?_)); (conv => whnf)))
          refine xloop tabOK (fun i : Nat => i ≤ L.length) (fun i => [(1, .v (iv c)), (2, .v (iv d)), (4, .v (.one (.slice 1 0 2 zs.length))), (11, .v (pt 2)), (12, .v (iv (dnL L i))), (46, .v (.one (.slice 3 0 6 L.length))), (47, .v (iv L.length)), (48, .v (iv i))]) (fun i => [some (.view encFlt l), some (.view encSz zs), some (spC l), some (.rows 46 encLn L)]) (fun i => L.length - i) (0) [0, 1, 7, 31] (Nat.zero_le _) rfl rfl rfl (by repeat' (first | exact trivial | exact rfl | (refine And.intro ?_ ?_) | omega)) (by repeat' (first | exact trivial | exact rfl | (refine And.intro ?_ ?_) | omega)) ?_
          intro i hi
          have hdi := G.dn i hi
          have hL40 := G.len
          ((conv => whnf); repeat ((first | (refine cnd (by first | assumption | omega | decide) ?_) | (refine cnd0 ?_) | (refine Chk.mk (by kernel_rfl) ?_) | (refine xdraw_rule tabOK ?_) | (refine xdraw_rule (tabLOK _) ?_)); (conv => whnf)))
          (refine Br.mk (fun k => ?_) (fun k => ?_) <;> ((conv => whnf); repeat ((first | (refine cnd (by first | assumption | omega | decide) ?_) | (refine cnd0 ?_) | (refine Chk.mk (by kernel_rfl) ?_) | (refine xdraw_rule tabOK ?_) | (refine xdraw_rule (tabLOK _) ?_)); (conv => whnf))))
          · have hil : i < L.length := by have := of_decide_eq_true k; omega
            have hi0 : 0 + (i : Int).toNat = i := by omega
            have hwi : IntKind.i64.wrap ((i : Int) + 1) = (i + 1 : Nat) := by rw [W_id (by omega) (by omega)]; rfl
            obtain ⟨ha1, ha2⟩ := G.at1 i hil
            have hds := dnL_succ hil
            have hdn := G.dn (i + 1) hil
            have hgr := G.gr i hil
            have hwd : IntKind.i64.wrap ((dnL L i : Int) + (L.getD (0 + (i : Int).toNat) encLn.d).atoms) = (dnL L (i + 1) : Nat) := by rw [hi0, W_id (by omega) (by omega)]; omega
            (repeat ((first | (refine cnd (by first | assumption | omega | decide) ?_) | (refine cnd0 ?_) | (refine Chk.mk (by kernel_rfl) ?_) | (refine xdraw_rule tabOK ?_) | (refine xdraw_rule (tabLOK _) ?_)); (conv => whnf)))
            rw [hwd]
            (refine Br.mk (fun b1 => ?_) (fun b1 => ?_) <;> ((conv => whnf); repeat ((first | (refine cnd (by first | assumption | omega | decide) ?_) | (refine cnd0 ?_) | (refine Chk.mk (by kernel_rfl) ?_) | (refine xdraw_rule tabOK ?_) | (refine xdraw_rule (tabLOK _) ?_)); (conv => whnf))))
            · exact xend [0, 1] (.v (bv true)) ([some (.view encFlt l), some (.view encSz zs)]) (rfl) rfl rfl rfl (by repeat' (first | exact trivial | exact rfl | (refine And.intro ?_ ?_) | omega | exact b1)) (by repeat' (first | exact trivial | exact rfl | (refine And.intro ?_ ?_) | omega | exact b1))
            · have hlt : dnL L (i + 1) < zs.length := by have := of_decide_eq_false b1; omega
              (repeat ((first | (refine cnd (by first | assumption | omega | decide) ?_) | (refine cnd0 ?_) | (refine Chk.mk (by kernel_rfl) ?_) | (refine xdraw_rule tabOK ?_) | (refine xdraw_rule (tabLOK _) ?_)); (conv => whnf)))
              (refine Br.mk (fun b2 => ?_) (fun b2 => ?_) <;> ((conv => whnf); repeat ((first | (refine cnd (by first | assumption | omega | decide) ?_) | (refine cnd0 ?_) | (refine Chk.mk (by kernel_rfl) ?_) | (refine xdraw_rule tabOK ?_) | (refine xdraw_rule (tabLOK _) ?_)); (conv => whnf))))
              · exact absurd (of_decide_eq_true b2) (by rw [hi0]; omega)
              · have hgr := hgr hlt
                have hj0 : 0 + (dnL L (i + 1) : Int).toNat = dnL L (i + 1) := by omega
                generalize hen : L.getD i encLn.d = n at *
                generalize hez : zs.getD (dnL L (i + 1)) encSz.d = z at *
                have hen' : L.getD (0 + (i : Int).toNat) encLn.d = n := by rw [hi0, hen]
                have hez' : zs.getD (0 + (dnL L (i + 1) : Int).toNat) encSz.d = z := by rw [hj0, hez]
                have hw27 := t27 l ho c d n.box.t (rowE n.box.t (addH n z.h))
                have hw28 := t28' n.box.t (addH n z.h)
                have hw29 := t29 (lfA l c n.box.t (addH n z.h)) (lfB l d n.box.t (addH n z.h))
                rw [← hen', ← hez'] at hw27 hw28 hw29
                (repeat ((first | (refine cnd (by first | assumption | omega | decide) ?_) | (refine cnd0 ?_) | (refine Chk.mk (by kernel_rfl) ?_) | (refine xdraw_rule tabOK ?_) | (refine xdraw_rule (tabLOK _) ?_)); (conv => whnf)))
                (refine xcall (hw28) rfl rfl rfl (by repeat (first | exact trivial | refine ⟨rfl, ?_⟩)) ?_; (conv => whnf); repeat ((first | (refine cnd (by first | assumption | omega | decide) ?_) | (refine cnd0 ?_) | (refine Chk.mk (by kernel_rfl) ?_) | (refine xdraw_rule tabOK ?_) | (refine xdraw_rule (tabLOK _) ?_)); (conv => whnf)))
                (refine xcall (hw27) rfl rfl rfl (by repeat (first | exact trivial | refine ⟨rfl, ?_⟩)) ?_; (conv => whnf); repeat ((first | (refine cnd (by first | assumption | omega | decide) ?_) | (refine cnd0 ?_) | (refine Chk.mk (by kernel_rfl) ?_) | (refine xdraw_rule tabOK ?_) | (refine xdraw_rule (tabLOK _) ?_)); (conv => whnf)))
                (refine dcallR (hw29) rfl fun hT_ => ?_; (conv => whnf); refine cnd hT_ (cnd rfl (cnd (by repeat (first | exact trivial | refine ⟨rfl, ?_⟩)) (cnd rfl (cnd0 ?_)))); clear hT_; (conv => whnf); repeat ((first | (refine cnd (by first | assumption | omega | decide) ?_) | (refine cnd0 ?_) | (refine Chk.mk (by kernel_rfl) ?_) | (refine xdraw_rule tabOK ?_) | (refine xdraw_rule (tabLOK _) ?_)); (conv => whnf)))
                (refine Br.mk (fun g => ?_) (fun g => ?_) <;> ((conv => whnf); repeat ((first | (refine cnd (by first | assumption | omega | decide) ?_) | (refine cnd0 ?_) | (refine Chk.mk (by kernel_rfl) ?_) | (refine xdraw_rule tabOK ?_) | (refine xdraw_rule (tabLOK _) ?_)); (conv => whnf))))
                · rw [hen', hez'] at g
                  have g := of_decide_eq_true g
                  unfold addB at hgr
                  simp only [Bool.not_eq_false', decide_eq_true_eq] at hgr
                  exact absurd (show IntKind.i64.wrap (n.wide + z.w) ≤ IntKind.i64.wrap (lfB l d n.box.t (addH n z.h) - lfA l c n.box.t (addH n z.h)) from g) (Int.not_le.2 hgr)
                · exact rnd (i + 1) [0, 1, 2, 3] (hil) (by omega) rfl rfl rfl (by repeat' (first | exact trivial | exact rfl | (refine And.intro ?_ ?_) | omega | exact hwi)) (by repeat' (first | exact trivial | exact rfl | (refine And.intro ?_ ?_) | omega | exact hwi))
          · have hil : i = L.length := by have := of_decide_eq_false k; omega
            have ha := G.all
            subst hil
            have b1 : decide ((dnL L L.length : Int) ≥ zs.length) = true := decide_eq_true (by omega)
            exact xend [0, 1] (.v (bv true)) ([some (.view encFlt l), some (.view encSz zs)]) (rfl) rfl rfl rfl (by repeat' (first | exact trivial | exact rfl | (refine And.intro ?_ ?_) | omega | exact b1)) (by repeat' (first | exact trivial | exact rfl | (refine And.intro ?_ ?_) | omega | exact b1))
  · ((conv => whnf); repeat ((first | (refine cnd (by first | assumption | omega | decide) ?_) | (refine cnd0 ?_) | (refine Chk.mk (by kernel_rfl) ?_) | (refine xdraw_rule tabOK ?_) | (refine xdraw_rule (tabLOK _) ?_)); (conv => whnf)))
    (refine xcall (t23) rfl rfl rfl (by repeat (first | exact trivial | refine ⟨rfl, ?_⟩)) ?_; (conv => whnf); repeat ((first | (refine cnd (by first | assumption | omega | decide) ?_) | (refine cnd0 ?_) | (refine Chk.mk (by kernel_rfl) ?_) | (refine xdraw_rule tabOK ?_) | (refine xdraw_rule (tabLOK _) ?_)); (conv => whnf)))
    (refine Br.mk (fun c1 => ?_) (fun c1 => ?_) <;> ((conv => whnf); repeat ((first | (refine cnd (by first | assumption | omega | decide) ?_) | (refine cnd0 ?_) | (refine Chk.mk (by kernel_rfl) ?_) | (refine xdraw_rule tabOK ?_) | (refine xdraw_rule (tabLOK _) ?_)); (conv => whnf))))
    · exact absurd c1 (by decide)
    · (refine xcall (t23) rfl rfl rfl (by repeat (first | exact trivial | refine ⟨rfl, ?_⟩)) ?_; (conv => whnf); repeat ((first | (refine cnd (by first | assumption | omega | decide) ?_) | (refine cnd0 ?_) | (refine Chk.mk (by kernel_rfl) ?_) | (refine xdraw_rule tabOK ?_) | (refine xdraw_rule (tabLOK _) ?_)); (conv => whnf)))
      exact xend [0, 1] (.v (bv true)) ([some (.view encFlt l), some (.view encSz zs)]) (rfl) rfl rfl rfl (by repeat' (first | exact trivial | exact rfl | (refine And.intro ?_ ?_) | omega)) (by repeat' (first | exact trivial | exact rfl | (refine And.intro ?_ ?_) | omega))
end Go.Proofs.Ytcmedheeafiogaa

namespace Go.Proofs.Ytcmedheeafiogaa
open Go.Sy
set_option linter.unusedVariables false
set_option linter.unusedSimpArgs false
/-! The lines of atoms, plainly. -/
theorem dnL_app {L M : List Ln} {j : Nat} (h : j ≤ L.length) : dnL (L ++ M) j = dnL L j := by
  unfold dnL
  rw [List.take_append_of_le_length h]
theorem dnL_full (L : List Ln) (n : Ln) : dnL (L ++ [n]) (L.length + 1) = dnL L L.length + n.atoms.toNat := by
  have := dnL_succ (L := L ++ [n]) (i := L.length) (by simp)
  rw [this, dnL_app (Nat.le_refl _)]
  simp
theorem dnL_mono (L : List Ln) : ∀ {i j : Nat}, i ≤ j → j ≤ L.length → dnL L i ≤ dnL L j := by
  intro i j hij hj
  induction j with
  | zero => have : i = 0 := by omega
            subst this; exact Nat.le_refl _
  | succ j ih =>
    rcases Nat.lt_or_ge i (j + 1) with h | h
    · have h1 := ih (by omega) (by omega)
      have h2 := dnL_succ (L := L) (i := j) hj
      omega
    · have : i = j + 1 := by omega
      subst this; exact Nat.le_refl _
def nowA : Option Ln → Nat
  | none => 0
  | some n => n.atoms.toNat
structure RI (fl : List Flt) (c d : Int) (zs : List Sz) (i : Nat) (s : BS) : Prop where
  tot : dnL s.out s.out.length + nowA s.now = i
  now1 : ∀ n, s.now = some n → 1 ≤ n.atoms ∧ n.atoms ≤ i
  nn : s.now = none → i = 0 ∧ s.out = []
  at1 : ∀ j, j < s.out.length → 1 ≤ (s.out.getD j encLn.d).atoms ∧ (s.out.getD j encLn.d).atoms ≤ i
  gr : ∀ j, j < s.out.length → addB fl c d (s.out.getD j encLn.d) (zs.getD (dnL s.out (j + 1)) encSz.d) = false
theorem ri_step {fl : List Flt} {c d y : Int} {zs : List Sz} (hz : zs.length ≤ 40) : ∀ i, i ≤ zs.length → RI fl c d zs i (runS fl c d y (zs.take i))
  | 0, _ => by
    refine ⟨rfl, fun n h => ?_, fun _ => ⟨rfl, rfl⟩, fun j h => ?_, fun j h => ?_⟩
    · simp [runS] at h
    · simp [runS] at h
    · simp [runS] at h
  | i + 1, hi => by
    have I := ri_step (y := y) (fl := fl) (c := c) (d := d) hz i (by omega)
    rw [runS_snoc fl c d y zs i (by omega)]
    generalize runS fl c d y (zs.take i) = s at I
    generalize hzz : zs.getD i encSz.d = z
    obtain ⟨sy, now, out⟩ := s
    cases now with
    | none =>
      obtain ⟨h0, h1⟩ := I.nn rfl
      have h1 : out = [] := h1
      subst h1 h0
      refine ⟨rfl, fun n h => ?_, fun h => ?_, fun j h => ?_, fun j h => ?_⟩
      · simp [stepZ] at h; subst h; exact ⟨by show (1 : Int) ≤ 1; omega, by show (1 : Int) ≤ (0 + 1 : Nat); omega⟩
      · simp [stepZ] at h
      · simp [stepZ] at h
      · simp [stepZ] at h
    | some n =>
      obtain ⟨a1, a2⟩ := I.now1 n rfl
      have ht : dnL out out.length + n.atoms.toNat = i := I.tot
      have at1 : ∀ j, j < out.length → 1 ≤ (out.getD j encLn.d).atoms ∧ (out.getD j encLn.d).atoms ≤ i := I.at1
      have gr : ∀ j, j < out.length → addB fl c d (out.getD j encLn.d) (zs.getD (dnL out (j + 1)) encSz.d) = false := I.gr
      unfold stepZ
      cases hb : addB fl c d n z with
      | true =>
        simp only [hb, cond_true]
        have hw : (addN fl c d n z).atoms = n.atoms + 1 := W_id (by omega) (by omega)
        refine ⟨?_, fun m h => ?_, fun h => ?_, fun j h => ?_, gr⟩
        · show dnL out out.length + (addN fl c d n z).atoms.toNat = i + 1
          omega
        · simp only [Option.some.injEq] at h; subst h; omega
        · simp at h
        · have := at1 j h
          show 1 ≤ (out.getD j encLn.d).atoms ∧ (out.getD j encLn.d).atoms ≤ (i + 1 : Nat)
          omega
      | false =>
        simp only [hb, cond_false]
        refine ⟨?_, fun m h => ?_, fun h => ?_, fun j h => ?_, fun j h => ?_⟩
        · show dnL (out ++ [n]) (out ++ [n]).length + (1 : Int).toNat = i + 1
          rw [List.length_append, List.length_singleton, dnL_full]
          omega
        · simp only [Option.some.injEq] at h; subst h
          exact ⟨by show (1 : Int) ≤ 1; omega, by show (1 : Int) ≤ (i + 1 : Nat); omega⟩
        · simp at h
        · rw [List.length_append, List.length_singleton] at h
          rcases Nat.lt_or_ge j out.length with k | k
          · have e : (out ++ [n]).getD j encLn.d = out.getD j encLn.d := by simp [List.getElem?_append_left k]
            have := at1 j k
            show 1 ≤ ((out ++ [n]).getD j encLn.d).atoms ∧ ((out ++ [n]).getD j encLn.d).atoms ≤ (i + 1 : Nat)
            rw [e]; omega
          · have e : (out ++ [n]).getD j encLn.d = n := by have : j = out.length := by omega
                                                           subst this; simp
            show 1 ≤ ((out ++ [n]).getD j encLn.d).atoms ∧ ((out ++ [n]).getD j encLn.d).atoms ≤ (i + 1 : Nat)
            rw [e]; omega
        · rw [List.length_append, List.length_singleton] at h
          show addB fl c d ((out ++ [n]).getD j encLn.d) (zs.getD (dnL (out ++ [n]) (j + 1)) encSz.d) = false
          rcases Nat.lt_or_ge j out.length with k | k
          · have e : (out ++ [n]).getD j encLn.d = out.getD j encLn.d := by simp [List.getElem?_append_left k]
            rw [e, dnL_app k]; exact gr j k
          · have hj : j = out.length := by omega
            subst hj
            have e : (out ++ [n]).getD out.length encLn.d = n := by simp
            rw [e, dnL_full, ht, hzz]; exact hb
theorem grL {fl : List Flt} {c d y : Int} {zs : List Sz} (hz : zs.length ≤ 40) : GrL fl c d zs (allL fl c d y zs) := by
  have I := ri_step (y := y) (fl := fl) (c := c) (d := d) hz zs.length (Nat.le_refl _)
  have hO := runS_out fl c d y zs zs.length (Nat.le_refl _)
  rw [List.take_length] at I hO
  unfold allL
  generalize runS fl c d y zs = s at I hO
  obtain ⟨sy, now, out⟩ := s
  have hO : out.length ≤ zs.length := hO
  cases now with
  | none =>
    obtain ⟨h0, h1⟩ := I.nn rfl
    have h1 : out = [] := h1
    subst h1
    exact ⟨Nat.zero_le _, fun i h => absurd h (Nat.not_lt_zero _), fun i h => by rw [show dnL (endS ⟨sy, none, []⟩) i = 0 by unfold dnL endS; simp]; exact Nat.zero_le _, by show 0 = _; omega, fun i h => absurd h (Nat.not_lt_zero _)⟩
  | some n =>
    obtain ⟨a1, a2⟩ := I.now1 n rfl
    have ht : dnL out out.length + n.atoms.toNat = zs.length := I.tot
    have at1 : ∀ j, j < out.length → 1 ≤ (out.getD j encLn.d).atoms ∧ (out.getD j encLn.d).atoms ≤ zs.length := I.at1
    have gr : ∀ j, j < out.length → addB fl c d (out.getD j encLn.d) (zs.getD (dnL out (j + 1)) encSz.d) = false := I.gr
    show GrL fl c d zs (out ++ [n])
    have hall : dnL (out ++ [n]) (out ++ [n]).length = zs.length := by
      rw [List.length_append, List.length_singleton, dnL_full, ht]
    have hge : ∀ j, j ≤ out.length → j ≤ dnL out j := by
      intro j hj
      induction j with
      | zero => exact Nat.zero_le _
      | succ j ih =>
        have := ih (by omega)
        have h2 := dnL_succ (L := out) (i := j) hj
        have := at1 j hj
        omega
    have := hge out.length (Nat.le_refl _)
    refine ⟨by rw [List.length_append, List.length_singleton]; omega, fun j h => ?_, fun i hi => by rw [← hall]; exact dnL_mono _ hi (Nat.le_refl _), hall, fun j h hlt => ?_⟩
    · rw [List.length_append, List.length_singleton] at h
      rcases Nat.lt_or_ge j out.length with k | k
      · have e : (out ++ [n]).getD j encLn.d = out.getD j encLn.d := by simp [List.getElem?_append_left k]
        have := at1 j k
        rw [e]; omega
      · have hj : j = out.length := by omega
        subst hj
        have e : (out ++ [n]).getD out.length encLn.d = n := by simp
        rw [e]; omega
    · rw [List.length_append, List.length_singleton] at h
      rcases Nat.lt_or_ge j out.length with k | k
      · have e : (out ++ [n]).getD j encLn.d = out.getD j encLn.d := by simp [List.getElem?_append_left k]
        rw [e, dnL_app k]; exact gr j k
      · have hj : j = out.length := by omega
        subst hj
        rw [dnL_full, ht] at hlt
        exact absurd hlt (Nat.lt_irrefl _)
end Go.Proofs.Ytcmedheeafiogaa

namespace Go.Proofs.Ytcmedheeafiogaa
open Go.Sy
set_option linter.unusedVariables false
set_option linter.unusedSimpArgs false
open Go.ChangeShapes Go.WideShapes Go.RowKit
section
variable {H : Type} {enc : TypeId × Value → H} {P : Program}
theorem trodAll_five {w : World} {base : Nat} {spare : Nat → Bool} {held : Bool} {t t' t'' t3 t4 : TypeId} {args : Array Value} {ds : List (DataW H)} {ps : List MemPlace} (h : DataW.TrodAll enc P w base spare held [t, t', t'', t3, t4] args.toList ds ps) :
    ∃ v v' v'' v3 v4 d d' d'' d3 d4 p p' p'' p3 p4, args = #[v, v', v'', v3, v4] ∧ ds = [d, d', d'', d3, d4] ∧ DataW.Trod enc P w base spare held t v d p ∧ DataW.Trod enc P w base spare held t' v' d' p' ∧
      DataW.Trod enc P w base spare held t'' v'' d'' p'' ∧ DataW.Trod enc P w base spare held t3 v3 d3 p3 ∧ DataW.Trod enc P w base spare held t4 v4 d4 p4 := by
  obtain ⟨v, r1, d, s1, p, q1, e1, rfl, rfl, h1, k1⟩ := trodAll_cons h
  obtain ⟨v', r2, d', s2, p', q2, rfl, rfl, rfl, h2, k2⟩ := trodAll_cons k1
  obtain ⟨v'', r3, d'', s3, p'', q3, rfl, rfl, rfl, h3, k3⟩ := trodAll_cons k2
  obtain ⟨v3, r4, d3, s4, p3, q4, rfl, rfl, rfl, h4, k4⟩ := trodAll_cons k3
  obtain ⟨v4, r5, d4, s5, p4, q5, rfl, rfl, rfl, h5, k5⟩ := trodAll_cons k4
  obtain ⟨rfl, rfl, rfl⟩ := trodAll_nil k5
  exact ⟨v, v', v'', v3, v4, d, d', d'', d3, d4, p, p', p'', p3, p4, by rw [← Array.toList_inj]; exact e1, rfl, h1, h2, h3, h4, h5⟩
end
set_option maxRecDepth 100000 in
theorem lineGreedy_lifted (os : Os) (started : os.Started) (H : Type) (enc : TypeId × Value → H) :
    ReturnsInHanded {} Try.checked os 4 .any (Rows.lineGreedySpec.pre6 enc Try.prog Try.f4 Rows.lineGreedyRow.domain false) (Rows.lineGreedySpec.post enc Try.prog Try.f4 false true false false) := by
  refine returnsInHanded_of_change_sized (C := Try.checked) Try.own started (by kernel_rfl) Try.func4
    (ChangeSpec.witness6 (enc := enc) (C := Try.checked) false ⟨#[], #[.slice none 0 0, .int .i64 0, .int .i64 0, .int .i64 0, .slice none 0 0], []⟩ 8 (by kernel_rfl) (by kernel_rfl) (by kernel_rfl) (by kernel_rfl)) ?_
  intro w0 base args ds gs before hval0 hW0 _ hsz0 _
  have hval : ∀ (j : Nat) t v, Try.f4.params[j]? = some t → args[j]? = some v → Value.okWide Try.prog w0 .any base t v := hval0
  have hW : DataW.Whole enc Try.prog Try.f4.params.toList Rows.lineGreedySpec.vars false w0 args.toList ds gs before := hW0
  have hsz : (DataW.weightsEach Try.prog (Try.f4.params.toList ++ Rows.lineGreedySpec.plain.varTypes Try.prog) (ds ++ gs)).all (· ≤ reachBytes) = true := hsz0
  have hW' := hW
  obtain ⟨p, q, hA0, hV, _, _, _⟩ := hW
  have hA : DataW.TrodAll enc Try.prog w0 0 (fun _ => true) true Try.f4.params.toList args.toList ds p := hA0
  rw [Try.params4] at hA hval hsz
  obtain ⟨v0, v1, v2, v3, v4, d0, d1, d2, d3, d4, p0, p1, p2, p3, p4, rfl, rfl, h0, h1, h2, h3, h4⟩ := trodAll_five hA
  obtain ⟨rfl, _⟩ := trodVars_none hV
  obtain ⟨xs, pl, hs, hd⟩ := open_sl ieFlt Try.underlying22 ints108 cells108 (hval 0 22 v0 rfl rfl) h0
  obtain ⟨c, rfl, _⟩ := open_i Try.underlying3 (hval 1 3 v1 rfl rfl) h1
  obtain ⟨d, rfl, _⟩ := open_i Try.underlying3 (hval 2 3 v2 rfl rfl) h2
  obtain ⟨y, rfl, _⟩ := open_i Try.underlying3 (hval 3 3 v3 rfl rfl) h3
  obtain ⟨zs, pl2, hs2, hd2⟩ := open_sl ieSz Try.underlying38 ints48 cells48 (hval 4 38 v4 rfl rfl) h4
  have hlen : xs.length < 2 ^ 48 := by
    rcases hd with rfl | ⟨els, sp, rfl, h⟩
    · simp
    · exact len_of hsz (j := 0) rfl rfl Try.underlying22 bytes108 (by omega) h
  have hlen2 : zs.length < 2 ^ 48 := by
    rcases hd2 with rfl | ⟨els, sp, rfl, h⟩
    · simp
    · exact len_of hsz (j := 4) rfl rfl Try.underlying38 bytes48 (by omega) h
  have T := t4 (fun l c d y zs _ _ h => grL h) xs hlen c d y zs hlen2
  refine law_post (P := Try.prog) (l := [(pl, some (.view encFlt xs)), (pl2, some (.view encSz zs))]) Try.laidOut hW' rfl (tb := 4) rfl Try.underlying4 (by kernel_rfl) ⟨rfl, rfl, rfl⟩ T ?_ ?_
  · intro ν hν
    rw [hs.1 ν 0 (hν 0 pl _ rfl), hs2.1 ν 1 (hν 1 pl2 _ rfl)]
    rfl
  · intro i p c hi ν' hν
    match i, hi with
    | 0, hi =>
      simp at hi
      obtain ⟨rfl, rfl⟩ := hi
      exact view_sat hs ν'
    | 1, hi =>
      simp at hi
      obtain ⟨rfl, rfl⟩ := hi
      exact view_sat hs2 ν'
    | i + 2, hi => simp at hi
theorem lineGreedy_holds : Rows.LineGreedySaid :=
  OpenClaim.holds_of_wide 4 Try.f4 rfl rfl rfl rfl rfl rfl rfl ⟨rfl, rfl, rfl, rfl, rfl⟩ rfl rfl rfl rfl rfl (by kernel_rfl) Try.func4 (by kernel_rfl)
    (of_decide_eq_true (by kernel_rfl)) (by unfold Func.isWrapper; first | (rw [if_pos (by decide +kernel)]; kernel_rfl) | (rw [if_neg (by decide +kernel)]; exact ⟨rfl, rfl⟩))
    (fun os started H enc _ => lineGreedy_lifted os started H enc)
#print axioms lineGreedy_holds
end Go.Proofs.Ytcmedheeafiogaa
