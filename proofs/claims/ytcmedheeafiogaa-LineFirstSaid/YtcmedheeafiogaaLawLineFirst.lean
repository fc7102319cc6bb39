/-
  LineFirst: a line begins at the highest row where its first atom has room: the law's walk, the plain law, and the row.
-/
import Derived.Test.YtcmedheeafiogaaKi
namespace Go.Proofs.Ytcmedheeafiogaa
open Go.Sy
set_option linter.unusedVariables false
set_option linter.unusedSimpArgs false
/-! Where a line begins, plainly. -/
theorem fl13 {l : List Flt} {c d y : Int} (h : bg13 l c d y = true) : FL l := by
  refine ⟨bg13_ok h, fun f hf => nr_of ?_⟩
  unfold bg13 at h
  obtain ⟨k, a1, a2, a3, a4⟩ := (near13_ok (Bool.and_eq_true_iff.1 h).2).1 f hf
  have := k.side
  unfold nearF in49
  simp only [Bool.and_eq_true, Bool.not_eq_true', Bool.or_eq_false_iff, Bool.or_eq_true, decide_eq_true_eq, decide_eq_false_iff_not]
  exact ⟨by omega, by omega, by omega, by omega, this⟩
theorem firstL_le (p : Int → Bool) : ∀ (ts : List Int) (y t : Int), (y :: ts).Pairwise (· < ·) → t ∈ y :: ts → p t = true → firstL p y ts ≤ t
  | [], y, t, _, ht, _ => by simp at ht; subst ht; exact Int.le_refl _
  | u :: ts, y, t, h, ht, hp => by
    obtain ⟨h1, h2⟩ := List.pairwise_cons.1 h
    rw [firstL]
    cases hy : p y with
    | true =>
      rcases List.mem_cons.1 ht with rfl | ht
      · exact Int.le_refl _
      · exact Int.le_of_lt (h1 t ht)
    | false =>
      rcases List.mem_cons.1 ht with rfl | ht
      · rw [hy] at hp; cases hp
      · exact firstL_le p ts u t h2 ht hp
theorem firstL_end (p : Int → Bool) : ∀ (ts : List Int) (y : Int), (y :: ts).Pairwise (· < ·) → p (firstL p y ts) = true ∨ ∀ t ∈ y :: ts, t ≤ firstL p y ts
  | [], y, _ => .inr fun t ht => by simp at ht; subst ht; exact Int.le_refl _
  | u :: ts, y, h => by
    obtain ⟨h1, h2⟩ := List.pairwise_cons.1 h
    rw [firstL]
    cases hy : p y with
    | true => exact .inl hy
    | false =>
      rcases firstL_end p ts u h2 with k | k
      · exact .inl k
      · refine .inr fun t ht => ?_
        rcases List.mem_cons.1 ht with rfl | ht
        · have := k u (by simp); have := h1 u (by simp); simp only [cond_false]; omega
        · exact k t ht
theorem tops_in {sh : List Shelf} (hs : Sorted sh) {y : Int} {s : Shelf} (h : s ∈ sh) (hy : y < s.top) : s.top ∈ tops sh y := by
  unfold tops
  refine List.mem_map.2 ⟨s, ?_, rfl⟩
  obtain ⟨i, hi, rfl⟩ := List.getElem_of_mem h
  refine mem_drop_iff.2 ⟨i, ?_, hi, gN_lt hi⟩
  rcases Nat.lt_or_ge i (aftAt sh y) with k | k
  · have := (aftAt_spec hs y).1 i hi k; omega
  · exact k
/-- Between two tops nothing changes. -/
theorem same_Bd {sh : List Shelf} (hw : WF sh) {t z k : Int} (ht : -far ≤ t) (h1 : t ≤ z) (h2 : z ≤ k) (hn : ∀ s ∈ sh, t < s.top → k < s.top) : Bd sh z = Bd sh k := by
  obtain ⟨a, b, e⟩ := fN_spec hw (y := k) (by omega)
  have hm : gN sh (fN sh k) ∈ sh := by rw [gN_lt a]; exact List.getElem_mem a
  have : fN sh z = fN sh k := fN_uniq hw a (by
    rcases Int.lt_or_le t (gN sh (fN sh k)).top with q | q
    · have := hn _ hm q; omega
    · omega) (fun h => by have := e (fN sh k + 1) (Nat.lt_succ_self _) h; omega)
  unfold Bd
  rw [this]
theorem same_b {fl : List Flt} (h : FL fl) {t z k : Int} (ht : -far ≤ t) (h1 : t ≤ z) (h2 : z ≤ k) (hn : ∀ s ∈ shOf fl, t < s.top → k < s.top) : bL fl z = bL fl k ∧ bR fl z = bR fl k := by
  obtain ⟨hw, hb⟩ := bd_fl fl h.ok.all
  have := same_Bd hw ht h1 h2 hn
  rw [hb z (by omega), hb k (by omega)] at this
  exact Prod.mk.inj this
/-- The last top at, or above, a height. -/
theorem last_top : ∀ (ts : List Int) (y k : Int), (y :: ts).Pairwise (· < ·) → y ≤ k → ∃ t ∈ y :: ts, t ≤ k ∧ ∀ u ∈ y :: ts, t < u → k < u
  | [], y, k, _, hk => ⟨y, by simp, hk, fun u hu h => by simp at hu; omega⟩
  | u :: ts, y, k, h, hk => by
    obtain ⟨h1, h2⟩ := List.pairwise_cons.1 h
    rcases Int.lt_or_le k u with q | q
    · refine ⟨y, by simp, hk, fun v hv hyv => ?_⟩
      rcases List.mem_cons.1 hv with rfl | hv
      · omega
      · rcases List.mem_cons.1 hv with rfl | hv
        · exact q
        · have := (List.pairwise_cons.1 h2).1 v hv; omega
    · obtain ⟨t, a, b, e⟩ := last_top ts u k h2 q
      refine ⟨t, List.mem_cons_of_mem _ a, b, fun v hv hv2 => ?_⟩
      rcases List.mem_cons.1 hv with rfl | hv
      · have := h1 t a; omega
      · exact e v hv hv2
theorem bL_far {fl : List Flt} : ∀ (y : Int), (∀ f ∈ fl, f.box.b ≤ y) → bL fl y = -far ∧ bR fl y = far := by
  refine fold_snoc (P := fun fl => ∀ (y : Int), (∀ f ∈ fl, f.box.b ≤ y) → bL fl y = -far ∧ bR fl y = far) (fun _ _ => ⟨rfl, rfl⟩) (fun fl f ih y hy => ?_) fl
  have hf := hy f (by simp)
  obtain ⟨a, b⟩ := ih y (fun g hg => hy g (by simp [hg]))
  constructor
  · unfold bL at a ⊢
    rw [List.foldl_append, List.foldl_cons, List.foldl_nil, a, if_neg (by omega)]
  · unfold bR at b ⊢
    rw [List.foldl_append, List.foldl_cons, List.foldl_nil, b, if_neg (by omega)]
def rmB (fl : List Flt) (c d : Int) (z : Sz) (k : Int) : Bool :=
  decide (z.w ≤ IntKind.i64.wrap (min d (bnd fl k (rowE k z.h)).2 - max c (bnd fl k (rowE k z.h)).1)) || (decide (z.w > IntKind.i64.wrap (d - c)) && (decide ((bnd fl k (rowE k z.h)).1 ≤ c) && decide ((bnd fl k (rowE k z.h)).2 ≥ d)))
theorem beg_rm (fl : List Flt) (c d : Int) (z : Sz) (k : Int) : begB fl c d z k = rmB fl c d z k := by
  unfold begB rmB begR begW lfA lfB
  have e1 : decide (max (bnd fl k (rowE k z.h)).1 c = c) = decide ((bnd fl k (rowE k z.h)).1 ≤ c) := by congr 1; exact propext ⟨fun h => by omega, fun h => by omega⟩
  have e2 : decide (min (bnd fl k (rowE k z.h)).2 d = d) = decide ((bnd fl k (rowE k z.h)).2 ≥ d) := by congr 1; exact propext ⟨fun h => by omega, fun h => by omega⟩
  rw [e1, e2, Bool.and_true]
/-- What LineFirst asks. -/
structure FiL (fl : List Flt) (c d y : Int) (z : Sz) : Prop where
  ge : y ≤ begY fl c d y z
  le : begY fl c d y z ≤ 9007199254740992
  no : ∀ k, y ≤ k → k < begY fl c d y z → rmB fl c d z k = false
  yes : rmB fl c d z (begY fl c d y z) = true
theorem fiL {fl : List Flt} {c d y : Int} {z : Sz} (hb : bg13 fl c d y = true) (hz : szOk z = true) : FiL fl c d y z := by
  have h := fl13 hb
  obtain ⟨_, hc, hd, hy, hcd⟩ := near13_ok (Bool.and_eq_true_iff.1 hb).2
  have hzz : 0 ≤ z.w ∧ z.w ≤ 2147483648 ∧ 0 ≤ z.h ∧ z.h ≤ 2147483648 := by
    unfold szOk at hz
    simp only [Bool.not_eq_true', Bool.or_eq_false_iff, decide_eq_false_iff_not] at hz
    omega
  have hw := (shOf_wf h.ok)
  have hyf : -far ≤ y ∧ y ≤ 9007199254740992 := by unfold far; omega
  have hp := tops_sorted hw.sorted y
  have hm : begY fl c d y z ∈ y :: tops (shOf fl) y := firstL_mem _ _ _
  have hr := path_rng h hyf hm
  have hge : y ≤ begY fl c d y z := firstL_ge _ _ _ hp
  refine ⟨hge, hr.2, fun k h1 h2 => ?_, ?_⟩
  · rw [← beg_rm]
    cases hk : begB fl c d z k with
    | false => rfl
    | true =>
      exfalso
      obtain ⟨t, ht, htk, hn⟩ := last_top (tops (shOf fl) y) y k hp h1
      have htr := path_rng h hyf ht
      have hyt : y ≤ t := by
        rcases List.mem_cons.1 ht with rfl | ht
        · exact Int.le_refl _
        · exact Int.le_of_lt (tops_mem hw.sorted ht).1
      have hn' : ∀ s ∈ shOf fl, t < s.top → k < s.top := fun s hs hts => hn _ (List.mem_cons_of_mem _ (tops_in hw.sorted hs (by omega))) hts
      have ek := rowE_eq (y := k) (h := z.h) (by unfold far at *; omega) (by omega)
      have et := rowE_eq (y := t) (h := z.h) htr (by omega)
      have b1 : (bnd fl t (rowE t z.h)).1 ≤ (bnd fl k (rowE k z.h)).1 := by
        rw [et, ek]
        have hk1 := (bnd_1 h (y := k) (b := k + max z.h 1) (by omega) (by omega) (by omega) (bnd fl k (k + max z.h 1)).1).1 (Int.le_refl _)
        refine (bnd_1 h (y := t) (b := t + max z.h 1) htr.1 (by omega) (by omega) _).2 ⟨hk1.1, fun u hu1 hu2 => ?_⟩
        rcases Int.lt_or_le u k with q | q
        · rw [(same_b h htr.1 hu1 (Int.le_of_lt q) hn').1]
          exact hk1.2 k (Int.le_refl _) (by omega)
        · exact hk1.2 u q (by omega)
      have b2 : (bnd fl k (rowE k z.h)).2 ≤ (bnd fl t (rowE t z.h)).2 := by
        rw [et, ek]
        have hk1 := (bnd_2 h (y := k) (b := k + max z.h 1) (by omega) (by omega) (by omega) (bnd fl k (k + max z.h 1)).2).1 (Int.le_refl _)
        refine (bnd_2 h (y := t) (b := t + max z.h 1) htr.1 (by omega) (by omega) _).2 ⟨hk1.1, fun u hu1 hu2 => ?_⟩
        rcases Int.lt_or_le u k with q | q
        · rw [(same_b h htr.1 hu1 (Int.le_of_lt q) hn').2]
          exact hk1.2 k (Int.le_refl _) (by omega)
        · exact hk1.2 u q (by omega)
      have rk := bnd_rng h (y := k) (b := rowE k z.h) (by omega) (by rw [ek]; omega) (by rw [ek]; omega)
      have rt := bnd_rng h (y := t) (b := rowE t z.h) htr.1 (by rw [et]; omega) (by rw [et]; omega)
      have hbt : begB fl c d z t = true := by
        rw [beg_rm] at hk ⊢
        unfold rmB at hk ⊢
        simp only [Bool.or_eq_true, Bool.and_eq_true, decide_eq_true_eq] at hk ⊢
        unfold far at rk rt
        rcases hk with hk | hk
        · rw [W_id (by omega) (by omega)] at hk
          rw [W_id (n := min d (bnd fl t (rowE t z.h)).2 - max c (bnd fl t (rowE t z.h)).1) (by omega) (by omega)]
          exact .inl (by omega)
        · exact .inr ⟨hk.1, by omega, by omega⟩
      have hle : begY fl c d y z ≤ t := firstL_le _ _ _ t hp ht hbt
      omega
  · rw [← beg_rm]
    rcases firstL_end (begB fl c d z) (tops (shOf fl) y) y hp with k | k
    · exact k
    · have k : ∀ t ∈ y :: tops (shOf fl) y, t ≤ begY fl c d y z := k
      generalize hg : begY fl c d y z = g at *
      have hn : ∀ s ∈ shOf fl, ¬ g < s.top := fun s hs hlt => by
        have := k s.top (List.mem_cons_of_mem _ (tops_in hw.sorted hs (by omega)))
        omega
      have hall : ∀ u, g ≤ u → u ≤ 90071992547409920 → bL fl u = -far ∧ bR fl u = far := fun u h1 h2 => by
        have hs := same_b h hr.1 h1 h2 (fun s hs hlt => absurd hlt (hn s hs))
        rw [hs.1, hs.2]
        exact bL_far _ (fun f hf => by have := (h.nr f hf).b.2; omega)
      have eg := rowE_eq (y := g) (h := z.h) hr (by omega)
      have b1 : (bnd fl g (rowE g z.h)).1 ≤ -far := by
        rw [eg]
        exact (bnd_1 h (y := g) (b := g + max z.h 1) hr.1 (by omega) (by omega) _).2 ⟨Int.le_refl _, fun u h1 h2 => by rw [(hall u h1 (by omega)).1]; exact Int.le_refl _⟩
      have b2 : far ≤ (bnd fl g (rowE g z.h)).2 := by
        rw [eg]
        exact (bnd_2 h (y := g) (b := g + max z.h 1) hr.1 (by omega) (by omega) _).2 ⟨Int.le_refl _, fun u h1 h2 => by rw [(hall u h1 (by omega)).2]; exact Int.le_refl _⟩
      rw [beg_rm]
      unfold rmB
      unfold far at b1 b2
      simp only [Bool.or_eq_true, Bool.and_eq_true, decide_eq_true_eq]
      have e1 : min d (bnd fl g (rowE g z.h)).2 = d := by omega
      have e2 : max c (bnd fl g (rowE g z.h)).1 = c := by omega
      rw [e1, e2]
      rcases Int.lt_or_le (IntKind.i64.wrap (d - c)) z.w with q | q
      · exact .inr ⟨q, by omega, by omega⟩
      · exact .inl q
end Go.Proofs.Ytcmedheeafiogaa

namespace Go.Proofs.Ytcmedheeafiogaa
open Go.Sy
set_option linter.unusedVariables false
set_option linter.unusedSimpArgs false
-- ref13.Right of one
theorem t24R (z : Sz) : Tri Try.prog 24 [.one (.slice 0 0 2 1)] [some (.rows 48 encSz [z])] (fun x post => x = .v (bv (szOk z)) ∧ post = [some (.rows 48 encSz [z])]) := by
  (refine tri_x tabOK Try.func24 rfl rfl Try.ntmps24 (by simp) fun C => ?_; (conv => whnf); repeat ((first | (refine cnd (by first | assumption | omega | decide) ?_) | (refine cnd0 ?_) | (refine Chk.mk (by kernel_rfl) ?_) | (refine xdraw_rule tabOK ?_) | (refine xdraw_rule (tabLOK _) ?_)); (conv => whnf)))
  refine xloop tabOK (fun x : Nat => x ≤ 1 ∧ (x = 1 → szOk z = true)) (fun x => [(0, .v (.one (.slice 0 0 2 1))), (3, .v (iv x))]) (fun x => [some (.rows 48 encSz [z])]) (fun x => 1 - x) (0) [0] (⟨by omega, fun h => absurd h (by omega)⟩) rfl rfl rfl (by repeat' (first | exact trivial | exact rfl | (refine And.intro ?_ ?_) | omega)) (by repeat' (first | exact trivial | exact rfl | (refine And.intro ?_ ?_) | omega)) ?_
  rintro x ⟨hx, hall⟩
  match x, hx with
  | 0, _ =>
    ((conv => whnf); repeat ((first | (refine cnd (by first | assumption | omega | decide) ?_) | (refine cnd0 ?_) | (refine Chk.mk (by kernel_rfl) ?_) | (refine xdraw_rule tabOK ?_) | (refine xdraw_rule (tabLOK _) ?_)); (conv => whnf)))
    (refine Br.mk (fun c => ?_) (fun c => ?_) <;> ((conv => whnf); repeat ((first | (refine cnd (by first | assumption | omega | decide) ?_) | (refine cnd0 ?_) | (refine Chk.mk (by kernel_rfl) ?_) | (refine xdraw_rule tabOK ?_) | (refine xdraw_rule (tabLOK _) ?_)); (conv => whnf))))
    · (repeat ((first | (refine cnd (by first | assumption | omega | decide | exact Nat.le_refl 1) ?_) | (refine cnd0 ?_) | (refine Chk.mk (by kernel_rfl) ?_) | (refine xdraw_rule tabOK ?_) | (refine xdraw_rule (tabLOK _) ?_)); (conv => whnf)))
      (refine Br.mk (fun g1 => ?_) (fun g1 => ?_) <;> ((conv => whnf); repeat ((first | (refine cnd (by first | assumption | omega | decide) ?_) | (refine cnd0 ?_) | (refine Chk.mk (by kernel_rfl) ?_) | (refine xdraw_rule tabOK ?_) | (refine xdraw_rule (tabLOK _) ?_)); (conv => whnf))))
      · have g1 : decide (z.w < 0) = true := g1
        exact xend [0] (.v (bv false)) (_) (⟨by unfold szOk; rw [g1]; rfl, rfl⟩) rfl rfl rfl (by repeat' (first | exact trivial | exact rfl | (refine And.intro ?_ ?_) | omega)) (by repeat' (first | exact trivial | exact rfl | (refine And.intro ?_ ?_) | omega))
      · have g1 : decide (z.w < 0) = false := g1
        (repeat ((first | (refine cnd (by first | assumption | omega | decide | exact Nat.le_refl 1) ?_) | (refine cnd0 ?_) | (refine Chk.mk (by kernel_rfl) ?_) | (refine xdraw_rule tabOK ?_) | (refine xdraw_rule (tabLOK _) ?_)); (conv => whnf)))
        (refine Br.mk (fun g2 => ?_) (fun g2 => ?_) <;> ((conv => whnf); repeat ((first | (refine cnd (by first | assumption | omega | decide) ?_) | (refine cnd0 ?_) | (refine Chk.mk (by kernel_rfl) ?_) | (refine xdraw_rule tabOK ?_) | (refine xdraw_rule (tabLOK _) ?_)); (conv => whnf))))
        · have g2 : decide (z.w > 2147483648) = true := g2
          exact xend [0] (.v (bv false)) (_) (⟨by unfold szOk; rw [g1, g2]; rfl, rfl⟩) rfl rfl rfl (by repeat' (first | exact trivial | exact rfl | (refine And.intro ?_ ?_) | omega)) (by repeat' (first | exact trivial | exact rfl | (refine And.intro ?_ ?_) | omega))
        · have g2 : decide (z.w > 2147483648) = false := g2
          (repeat ((first | (refine cnd (by first | assumption | omega | decide | exact Nat.le_refl 1) ?_) | (refine cnd0 ?_) | (refine Chk.mk (by kernel_rfl) ?_) | (refine xdraw_rule tabOK ?_) | (refine xdraw_rule (tabLOK _) ?_)); (conv => whnf)))
          (refine Br.mk (fun g3 => ?_) (fun g3 => ?_) <;> ((conv => whnf); repeat ((first | (refine cnd (by first | assumption | omega | decide) ?_) | (refine cnd0 ?_) | (refine Chk.mk (by kernel_rfl) ?_) | (refine xdraw_rule tabOK ?_) | (refine xdraw_rule (tabLOK _) ?_)); (conv => whnf))))
          · have g3 : decide (z.h < 0) = true := g3
            exact xend [0] (.v (bv false)) (_) (⟨by unfold szOk; rw [g1, g2, g3]; rfl, rfl⟩) rfl rfl rfl (by repeat' (first | exact trivial | exact rfl | (refine And.intro ?_ ?_) | omega)) (by repeat' (first | exact trivial | exact rfl | (refine And.intro ?_ ?_) | omega))
          · have g3 : decide (z.h < 0) = false := g3
            (repeat ((first | (refine cnd (by first | assumption | omega | decide | exact Nat.le_refl 1) ?_) | (refine cnd0 ?_) | (refine Chk.mk (by kernel_rfl) ?_) | (refine xdraw_rule tabOK ?_) | (refine xdraw_rule (tabLOK _) ?_)); (conv => whnf)))
            (refine Br.mk (fun g4 => ?_) (fun g4 => ?_) <;> ((conv => whnf); repeat ((first | (refine cnd (by first | assumption | omega | decide) ?_) | (refine cnd0 ?_) | (refine Chk.mk (by kernel_rfl) ?_) | (refine xdraw_rule tabOK ?_) | (refine xdraw_rule (tabLOK _) ?_)); (conv => whnf))))
            · have g4 : decide (z.h > 2147483648) = true := g4
              exact xend [0] (.v (bv false)) (_) (⟨by unfold szOk; rw [g1, g2, g3, g4]; rfl, rfl⟩) rfl rfl rfl (by repeat' (first | exact trivial | exact rfl | (refine And.intro ?_ ?_) | omega)) (by repeat' (first | exact trivial | exact rfl | (refine And.intro ?_ ?_) | omega))
            · have g4 : decide (z.h > 2147483648) = false := g4
              (repeat ((first | (refine cnd (by first | assumption | omega | decide | exact Nat.le_refl 1) ?_) | (refine cnd0 ?_) | (refine Chk.mk (by kernel_rfl) ?_) | (refine xdraw_rule tabOK ?_) | (refine xdraw_rule (tabLOK _) ?_)); (conv => whnf)))
              exact rnd (1) [0] (⟨by omega, fun _ => by unfold szOk; rw [g1, g2, g3, g4]; rfl⟩) (by show 1 - 1 < 1 - 0; omega) rfl rfl rfl (by repeat' (first | exact trivial | exact rfl | (refine And.intro ?_ ?_) | omega)) (by repeat' (first | exact trivial | exact rfl | (refine And.intro ?_ ?_) | omega))
    · exact absurd c (by decide)
  | 1, _ =>
    have e := hall rfl
    ((conv => whnf); repeat ((first | (refine cnd (by first | assumption | omega | decide) ?_) | (refine cnd0 ?_) | (refine Chk.mk (by kernel_rfl) ?_) | (refine xdraw_rule tabOK ?_) | (refine xdraw_rule (tabLOK _) ?_)); (conv => whnf)))
    (refine Br.mk (fun c => ?_) (fun c => ?_) <;> ((conv => whnf); repeat ((first | (refine cnd (by first | assumption | omega | decide) ?_) | (refine cnd0 ?_) | (refine Chk.mk (by kernel_rfl) ?_) | (refine xdraw_rule tabOK ?_) | (refine xdraw_rule (tabLOK _) ?_)); (conv => whnf))))
    · exact absurd c (by decide)
    · exact xend [0] (.v (bv true)) (_) (⟨by rw [e], rfl⟩) rfl rfl rfl (by repeat' (first | exact trivial | exact rfl | (refine And.intro ?_ ?_) | omega)) (by repeat' (first | exact trivial | exact rfl | (refine And.intro ?_ ?_) | omega))
  | x + 2, h => omega
abbrev rmM (fl : List Flt) (c d : Int) (z : Sz) : List (Option Chunk) := [some (.cells 48 [ci z.w, ci z.h]), ptC 25 5, some (.cells 33 [ci c, ci d]), some (.cells 3 [ci c]), some (.cells 3 [ci d]), some (spC fl)]
-- LineFirst$1
theorem t33 (fl : List Flt) (ho : OKl fl) (c d : Int) (z : Sz) (k : Int) : Tri Try.prog 33 [iv k, pt 0, pt 1, pt 2, pt 3, pt 4] (rmM fl c d z) (fun x post => x = .v (bv (rmB fl c d z k)) ∧ post = rmM fl c d z) := by
  (refine tri_x tabOK Try.func33 rfl rfl Try.ntmps33 (by simp) fun C => ?_; (conv => whnf); repeat ((first | (refine cnd (by first | assumption | omega | decide) ?_) | (refine cnd0 ?_) | (refine Chk.mk (by kernel_rfl) ?_) | (refine xdraw_rule tabOK ?_) | (refine xdraw_rule (tabLOK _) ?_)); (conv => whnf)))
  (refine xcall (t28' k z.h) rfl rfl rfl (by repeat (first | exact trivial | refine ⟨rfl, ?_⟩)) ?_; (conv => whnf); repeat ((first | (refine cnd (by first | assumption | omega | decide) ?_) | (refine cnd0 ?_) | (refine Chk.mk (by kernel_rfl) ?_) | (refine xdraw_rule tabOK ?_) | (refine xdraw_rule (tabLOK _) ?_)); (conv => whnf)))
  (refine dcallR (t27 fl ho c d k (rowE k z.h)) rfl fun hT_ => ?_; (conv => whnf); refine cnd hT_ (cnd rfl (cnd (by repeat (first | exact trivial | refine ⟨rfl, ?_⟩)) (cnd rfl (cnd0 ?_)))); clear hT_; (conv => whnf); repeat ((first | (refine cnd (by first | assumption | omega | decide) ?_) | (refine cnd0 ?_) | (refine Chk.mk (by kernel_rfl) ?_) | (refine xdraw_rule tabOK ?_) | (refine xdraw_rule (tabLOK _) ?_)); (conv => whnf)))
  (refine dcallR (t34 fl ho k (rowE k z.h)) rfl fun hT_ => ?_; (conv => whnf); refine cnd hT_ (cnd rfl (cnd (by repeat (first | exact trivial | refine ⟨rfl, ?_⟩)) (cnd rfl (cnd0 ?_)))); clear hT_; (conv => whnf); repeat ((first | (refine cnd (by first | assumption | omega | decide) ?_) | (refine cnd0 ?_) | (refine Chk.mk (by kernel_rfl) ?_) | (refine xdraw_rule tabOK ?_) | (refine xdraw_rule (tabLOK _) ?_)); (conv => whnf)))
  (refine dcallR (t29 (max c (bnd fl k (rowE k z.h)).1) (min d (bnd fl k (rowE k z.h)).2)) rfl fun hT_ => ?_; (conv => whnf); refine cnd hT_ (cnd rfl (cnd (by repeat (first | exact trivial | refine ⟨rfl, ?_⟩)) (cnd rfl (cnd0 ?_)))); clear hT_; (conv => whnf); repeat ((first | (refine cnd (by first | assumption | omega | decide) ?_) | (refine cnd0 ?_) | (refine Chk.mk (by kernel_rfl) ?_) | (refine xdraw_rule tabOK ?_) | (refine xdraw_rule (tabLOK _) ?_)); (conv => whnf)))
  (refine Br.mk (fun h1 => ?_) (fun h1 => ?_) <;> ((conv => whnf); repeat ((first | (refine cnd (by first | assumption | omega | decide) ?_) | (refine cnd0 ?_) | (refine Chk.mk (by kernel_rfl) ?_) | (refine xdraw_rule tabOK ?_) | (refine xdraw_rule (tabLOK _) ?_)); (conv => whnf))))
  · exact xend [0, 1, 2, 3, 4, 5] (.v (bv true)) (_) (⟨by unfold rmB; rw [h1]; rfl, rfl⟩) rfl rfl rfl (by repeat' (first | exact trivial | exact rfl | (refine And.intro ?_ ?_) | omega)) (by repeat' (first | exact trivial | exact rfl | (refine And.intro ?_ ?_) | omega))
  · (repeat ((first | (refine cnd (by first | assumption | omega | decide) ?_) | (refine cnd0 ?_) | (refine Chk.mk (by kernel_rfl) ?_) | (refine xdraw_rule tabOK ?_) | (refine xdraw_rule (tabLOK _) ?_)); (conv => whnf)))
    (refine dcallR (t29 c d) rfl fun hT_ => ?_; (conv => whnf); refine cnd hT_ (cnd rfl (cnd (by repeat (first | exact trivial | refine ⟨rfl, ?_⟩)) (cnd rfl (cnd0 ?_)))); clear hT_; (conv => whnf); repeat ((first | (refine cnd (by first | assumption | omega | decide) ?_) | (refine cnd0 ?_) | (refine Chk.mk (by kernel_rfl) ?_) | (refine xdraw_rule tabOK ?_) | (refine xdraw_rule (tabLOK _) ?_)); (conv => whnf)))
    (refine Br.mk (fun h2 => ?_) (fun h2 => ?_) <;> ((conv => whnf); repeat ((first | (refine cnd (by first | assumption | omega | decide) ?_) | (refine cnd0 ?_) | (refine Chk.mk (by kernel_rfl) ?_) | (refine xdraw_rule tabOK ?_) | (refine xdraw_rule (tabLOK _) ?_)); (conv => whnf))))
    · (repeat ((first | (refine cnd (by first | assumption | omega | decide) ?_) | (refine cnd0 ?_) | (refine Chk.mk (by kernel_rfl) ?_) | (refine xdraw_rule tabOK ?_) | (refine xdraw_rule (tabLOK _) ?_)); (conv => whnf)))
      (refine Br.mk (fun h3 => ?_) (fun h3 => ?_) <;> ((conv => whnf); repeat ((first | (refine cnd (by first | assumption | omega | decide) ?_) | (refine cnd0 ?_) | (refine Chk.mk (by kernel_rfl) ?_) | (refine xdraw_rule tabOK ?_) | (refine xdraw_rule (tabLOK _) ?_)); (conv => whnf))))
      · exact xend [0, 1, 2, 3, 4, 5] (.v (bv (decide ((bnd fl k (rowE k z.h)).2 ≥ d)))) (_) (⟨by unfold rmB; rw [h1, h2, h3]; rfl, rfl⟩) rfl rfl rfl (by repeat' (first | exact trivial | exact rfl | (refine And.intro ?_ ?_) | omega)) (by repeat' (first | exact trivial | exact rfl | (refine And.intro ?_ ?_) | omega))
      · exact xend [0, 1, 2, 3, 4, 5] (.v (bv false)) (_) (⟨by unfold rmB; rw [h1, h2, h3]; rfl, rfl⟩) rfl rfl rfl (by repeat' (first | exact trivial | exact rfl | (refine And.intro ?_ ?_) | omega)) (by repeat' (first | exact trivial | exact rfl | (refine And.intro ?_ ?_) | omega))
    · exact xend [0, 1, 2, 3, 4, 5] (.v (bv false)) (_) (⟨by unfold rmB; rw [h1, h2]; rfl, rfl⟩) rfl rfl rfl (by repeat' (first | exact trivial | exact rfl | (refine And.intro ?_ ?_) | omega)) (by repeat' (first | exact trivial | exact rfl | (refine And.intro ?_ ?_) | omega))
-- LineFirst
theorem t6 (l : List Flt) (hl : l.length < 2 ^ 48) (c d y : Int) (z : Sz) : Tri Try.prog 6 [.one (.slice 0 0 5 l.length), iv c, iv d, iv y, szP z] [some (.view encFlt l)] tru := by
  (refine tri_x (tabLOK fun n => Nat.beq n 1) Try.func6 rfl rfl Try.ntmps6 (by simp) fun C => ?_; (conv => whnf); repeat ((first | (refine cnd (by first | assumption | omega | decide) ?_) | (refine cnd0 ?_) | (refine Chk.mk (by kernel_rfl) ?_) | (refine xdraw_rule tabOK ?_) | (refine xdraw_rule (tabLOK _) ?_)); (conv => whnf)))
  (refine xcallR (t22 l hl c d y) rfl rfl rfl (by repeat (first | exact trivial | refine ⟨rfl, ?_⟩)) ?_)
  rintro x post (⟨e, rfl, rfl⟩ | ⟨e, rfl, rfl⟩)
  · have ho := bg13_ok e
    ((conv => whnf); repeat ((first | (refine cnd (by first | assumption | omega | decide) ?_) | (refine cnd0 ?_) | (refine Chk.mk (by kernel_rfl) ?_) | (refine xdraw_rule tabOK ?_) | (refine xdraw_rule (tabLOK _) ?_)); (conv => whnf)))
    (refine xcall (t23) rfl rfl rfl (by repeat (first | exact trivial | refine ⟨rfl, ?_⟩)) ?_; (conv => whnf); repeat ((first | (refine cnd (by first | assumption | omega | decide) ?_) | (refine cnd0 ?_) | (refine Chk.mk (by kernel_rfl) ?_) | (refine xdraw_rule tabOK ?_) | (refine xdraw_rule (tabLOK _) ?_)); (conv => whnf)))
    (refine Br.mk (fun c1 => ?_) (fun c1 => ?_) <;> ((conv => whnf); repeat ((first | (refine cnd (by first | assumption | omega | decide) ?_) | (refine cnd0 ?_) | (refine Chk.mk (by kernel_rfl) ?_) | (refine xdraw_rule tabOK ?_) | (refine xdraw_rule (tabLOK _) ?_)); (conv => whnf))))
    · exact absurd c1 (by decide)
    · (repeat ((first | (refine cnd (by first | assumption | omega | decide) ?_) | (refine cnd0 ?_) | (refine Chk.mk (by kernel_rfl) ?_) | (refine xdraw_rule tabOK ?_) | (refine xdraw_rule (tabLOK _) ?_)); (conv => whnf)))
      (refine xcall (t24R z) rfl rfl rfl (by repeat (first | exact trivial | refine ⟨rfl, ?_⟩)) ?_; (conv => whnf); repeat ((first | (refine cnd (by first | assumption | omega | decide) ?_) | (refine cnd0 ?_) | (refine Chk.mk (by kernel_rfl) ?_) | (refine xdraw_rule tabOK ?_) | (refine xdraw_rule (tabLOK _) ?_)); (conv => whnf)))
      (refine Br.mk (fun c3 => ?_) (fun c3 => ?_) <;> ((conv => whnf); repeat ((first | (refine cnd (by first | assumption | omega | decide) ?_) | (refine cnd0 ?_) | (refine Chk.mk (by kernel_rfl) ?_) | (refine xdraw_rule tabOK ?_) | (refine xdraw_rule (tabLOK _) ?_)); (conv => whnf))))
      · (refine xcall (t23) rfl rfl rfl (by repeat (first | exact trivial | refine ⟨rfl, ?_⟩)) ?_; (conv => whnf); repeat ((first | (refine cnd (by first | assumption | omega | decide) ?_) | (refine cnd0 ?_) | (refine Chk.mk (by kernel_rfl) ?_) | (refine xdraw_rule tabOK ?_) | (refine xdraw_rule (tabLOK _) ?_)); (conv => whnf)))
        exact xend [0] (.v (bv true)) ([some (.view encFlt l)]) (rfl) rfl rfl rfl (by repeat' (first | exact trivial | exact rfl | (refine And.intro ?_ ?_) | omega)) (by repeat' (first | exact trivial | exact rfl | (refine And.intro ?_ ?_) | omega))
      · have hr : szOk z = true := by simpa using c3
        (repeat ((first | (refine cnd (by first | assumption | omega | decide) ?_) | (refine cnd0 ?_) | (refine Chk.mk (by kernel_rfl) ?_) | (refine xdraw_rule tabOK ?_) | (refine xdraw_rule (tabLOK _) ?_)); (conv => whnf)))
        (refine xcall (t30 l c d y) rfl rfl rfl (by repeat (first | exact trivial | refine ⟨rfl, ?_⟩)) ?_; (conv => whnf); repeat ((first | (refine cnd (by first | assumption | omega | decide) ?_) | (refine cnd0 ?_) | (refine Chk.mk (by kernel_rfl) ?_) | (refine xdraw_rule tabOK ?_) | (refine xdraw_rule (tabLOK _) ?_)); (conv => whnf)))
        (repeat ((first | (refine cnd (by first | assumption | omega | decide) ?_) | (refine cnd0 ?_) | (refine Chk.mk (by kernel_rfl) ?_) | (refine xdraw_rule tabOK ?_) | (refine xdraw_rule (tabLOK _) ?_)); (conv => whnf)))
        (refine xcall (t31a l ho c d y z) rfl rfl rfl (by repeat (first | exact trivial | refine ⟨rfl, ?_⟩)) ?_; (conv => whnf); repeat ((first | (refine cnd (by first | assumption | omega | decide) ?_) | (refine cnd0 ?_) | (refine Chk.mk (by kernel_rfl) ?_) | (refine xdraw_rule tabOK ?_) | (refine xdraw_rule (tabLOK _) ?_)); (conv => whnf)))
        (repeat ((first | (refine cnd (by first | assumption | omega | decide) ?_) | (refine cnd0 ?_) | (refine Chk.mk (by kernel_rfl) ?_) | (refine xdraw_rule tabOK ?_) | (refine xdraw_rule (tabLOK _) ?_)); (conv => whnf)))
        (refine Br.mk (fun c4 => ?_) (fun c4 => ?_) <;> ((conv => whnf); repeat ((first | (refine cnd (by first | assumption | omega | decide) ?_) | (refine cnd0 ?_) | (refine Chk.mk (by kernel_rfl) ?_) | (refine xdraw_rule tabOK ?_) | (refine xdraw_rule (tabLOK _) ?_)); (conv => whnf))))
        · exact absurd c4 (by decide)
        · (refine xcall (t32b l c d y (begL l c d y z)) rfl rfl rfl (by repeat (first | exact trivial | refine ⟨rfl, ?_⟩)) ?_; (conv => whnf); repeat ((first | (refine cnd (by first | assumption | omega | decide) ?_) | (refine cnd0 ?_) | (refine Chk.mk (by kernel_rfl) ?_) | (refine xdraw_rule tabOK ?_) | (refine xdraw_rule (tabLOK _) ?_)); (conv => whnf)))
          have F := fiL e hr
          have hge := F.ge
          have hy := (near13_ok (Bool.and_eq_true_iff.1 e).2).2.2.2.1
          have hle := F.le
          (refine Br.mk (fun d1 => ?_) (fun d1 => ?_) <;> ((conv => whnf); repeat ((first | (refine cnd (by first | assumption | omega | decide) ?_) | (refine cnd0 ?_) | (refine Chk.mk (by kernel_rfl) ?_) | (refine xdraw_rule tabOK ?_) | (refine xdraw_rule (tabLOK _) ?_)); (conv => whnf))))
          · exact absurd d1 (by decide)
          · (repeat ((first | (refine cnd (by first | assumption | omega | decide) ?_) | (refine cnd0 ?_) | (refine Chk.mk (by kernel_rfl) ?_) | (refine xdraw_rule tabOK ?_) | (refine xdraw_rule (tabLOK _) ?_)); (conv => whnf)))
            (refine Br.mk (fun d2 => ?_) (fun d2 => ?_) <;> ((conv => whnf); repeat ((first | (refine cnd (by first | assumption | omega | decide) ?_) | (refine cnd0 ?_) | (refine Chk.mk (by kernel_rfl) ?_) | (refine xdraw_rule tabOK ?_) | (refine xdraw_rule (tabLOK _) ?_)); (conv => whnf))))
            · exact absurd (of_decide_eq_true d2) (Int.not_lt.2 hge)
            · (repeat ((first | (refine cnd (by first | assumption | omega | decide) ?_) | (refine cnd0 ?_) | (refine Chk.mk (by kernel_rfl) ?_) | (refine xdraw_rule tabOK ?_) | (refine xdraw_rule (tabLOK _) ?_)); (conv => whnf)))
              (refine Br.mk (fun d3 => ?_) (fun d3 => ?_) <;> ((conv => whnf); repeat ((first | (refine cnd (by first | assumption | omega | decide) ?_) | (refine cnd0 ?_) | (refine Chk.mk (by kernel_rfl) ?_) | (refine xdraw_rule tabOK ?_) | (refine xdraw_rule (tabLOK _) ?_)); (conv => whnf))))
              · rw [show decide ((begL l c d y z).atoms = 1) = true from decide_eq_true rfl] at d3; exact absurd d3 (by decide)
              · (refine Br.mk (fun d4 => ?_) (fun d4 => ?_) <;> ((conv => whnf); repeat ((first | (refine cnd (by first | assumption | omega | decide) ?_) | (refine cnd0 ?_) | (refine Chk.mk (by kernel_rfl) ?_) | (refine xdraw_rule tabOK ?_) | (refine xdraw_rule (tabLOK _) ?_)); (conv => whnf))))
                · rw [show decide ((begL l c d y z).wide = z.w) = true from decide_eq_true rfl] at d4; exact absurd d4 (by decide)
                · refine xloop (tabLOK _) (fun k : Int => y ≤ k ∧ k ≤ begY l c d y z) (fun k => [(3, .v (iv y)), (14, .v (pt 7)), (16, .v (.one (.fn 33 [⟨3, 0, 0, 0⟩, ⟨5, 0, 0, 0⟩, ⟨6, 0, 0, 0⟩, ⟨1, 0, 0, 0⟩, ⟨2, 0, 0, 0⟩]))), (17, .v (iv k))])
                    (fun k => [some (.view encFlt l), some (.cells 3 [ci c]), some (.cells 3 [ci d]), some (.cells 48 [ci z.w, ci z.h]), some (spC l), ptC 25 4, some (.cells 33 [ci c, ci d]), lnC (begL l c d y z)]) (fun k => (begY l c d y z - k).toNat) y [0, 1, 2, 3, 9, 10, 25, 44] ⟨Int.le_refl _, hge⟩ rfl rfl rfl (by repeat' (first | exact trivial | exact rfl | (refine And.intro ?_ ?_) | omega)) (by repeat' (first | exact trivial | exact rfl | (refine And.intro ?_ ?_) | omega)) ?_
                  rintro k ⟨hk1, hk2⟩
                  ((conv => whnf); repeat ((first | (refine cnd (by first | assumption | omega | decide) ?_) | (refine cnd0 ?_) | (refine Chk.mk (by kernel_rfl) ?_) | (refine xdraw_rule tabOK ?_) | (refine xdraw_rule (tabLOK _) ?_)); (conv => whnf)))
                  have hT : (begL l c d y z).box.t = begY l c d y z := rfl
                  (refine Br.mk (fun g => ?_) (fun g => ?_) <;> ((conv => whnf); repeat ((first | (refine cnd (by first | assumption | omega | decide) ?_) | (refine cnd0 ?_) | (refine Chk.mk (by kernel_rfl) ?_) | (refine xdraw_rule tabOK ?_) | (refine xdraw_rule (tabLOK _) ?_)); (conv => whnf))))
                  · have hlt : k < begY l c d y z := by have := of_decide_eq_true g; rw [hT] at this; omega
                    have hwk : IntKind.i64.wrap (k + 1) = k + 1 := W_id (by omega) (by omega)
                    have R := t33 l ho c d z k
                    rw [F.no k hk1 hlt] at R
                    (repeat ((first | (refine cnd (by first | assumption | omega | decide) ?_) | (refine cnd0 ?_) | (refine Chk.mk (by kernel_rfl) ?_) | (refine xdraw_rule tabOK ?_) | (refine xdraw_rule (tabLOK _) ?_)); (conv => whnf)))
                    (refine xcall (R) rfl rfl rfl (by repeat (first | exact trivial | refine ⟨rfl, ?_⟩)) ?_; (conv => whnf); repeat ((first | (refine cnd (by first | assumption | omega | decide) ?_) | (refine cnd0 ?_) | (refine Chk.mk (by kernel_rfl) ?_) | (refine xdraw_rule tabOK ?_) | (refine xdraw_rule (tabLOK _) ?_)); (conv => whnf)))
                    (refine Br.mk (fun g2 => ?_) (fun g2 => ?_) <;> ((conv => whnf); repeat ((first | (refine cnd (by first | assumption | omega | decide) ?_) | (refine cnd0 ?_) | (refine Chk.mk (by kernel_rfl) ?_) | (refine xdraw_rule tabOK ?_) | (refine xdraw_rule (tabLOK _) ?_)); (conv => whnf))))
                    · exact absurd g2 (by decide)
                    · exact rnd (k + 1) [0, 1, 2, 3, 4, 5, 6, 7] (⟨by omega, hlt⟩) (by omega) rfl rfl rfl (by repeat' (first | exact trivial | exact rfl | (refine And.intro ?_ ?_) | omega | exact hwk)) (by repeat' (first | exact trivial | exact rfl | (refine And.intro ?_ ?_) | omega | exact hwk))
                  · have R := t33 l ho c d z (begY l c d y z)
                    rw [F.yes] at R
                    (repeat ((first | (refine cnd (by first | assumption | omega | decide) ?_) | (refine cnd0 ?_) | (refine Chk.mk (by kernel_rfl) ?_) | (refine xdraw_rule tabOK ?_) | (refine xdraw_rule (tabLOK _) ?_)); (conv => whnf)))
                    (refine xcall (R) rfl rfl rfl (by repeat (first | exact trivial | refine ⟨rfl, ?_⟩)) ?_; (conv => whnf); repeat ((first | (refine cnd (by first | assumption | omega | decide) ?_) | (refine cnd0 ?_) | (refine Chk.mk (by kernel_rfl) ?_) | (refine xdraw_rule tabOK ?_) | (refine xdraw_rule (tabLOK _) ?_)); (conv => whnf)))
                    exact xend [0] (.v (bv true)) ([some (.view encFlt l)]) (rfl) rfl rfl rfl (by repeat' (first | exact trivial | exact rfl | (refine And.intro ?_ ?_) | omega)) (by repeat' (first | exact trivial | exact rfl | (refine And.intro ?_ ?_) | omega))
  · ((conv => whnf); repeat ((first | (refine cnd (by first | assumption | omega | decide) ?_) | (refine cnd0 ?_) | (refine Chk.mk (by kernel_rfl) ?_) | (refine xdraw_rule tabOK ?_) | (refine xdraw_rule (tabLOK _) ?_)); (conv => whnf)))
    (refine xcall (t23) rfl rfl rfl (by repeat (first | exact trivial | refine ⟨rfl, ?_⟩)) ?_; (conv => whnf); repeat ((first | (refine cnd (by first | assumption | omega | decide) ?_) | (refine cnd0 ?_) | (refine Chk.mk (by kernel_rfl) ?_) | (refine xdraw_rule tabOK ?_) | (refine xdraw_rule (tabLOK _) ?_)); (conv => whnf)))
    (refine Br.mk (fun c1 => ?_) (fun c1 => ?_) <;> ((conv => whnf); repeat ((first | (refine cnd (by first | assumption | omega | decide) ?_) | (refine cnd0 ?_) | (refine Chk.mk (by kernel_rfl) ?_) | (refine xdraw_rule tabOK ?_) | (refine xdraw_rule (tabLOK _) ?_)); (conv => whnf))))
    · exact absurd c1 (by decide)
    · (refine xcall (t23) rfl rfl rfl (by repeat (first | exact trivial | refine ⟨rfl, ?_⟩)) ?_; (conv => whnf); repeat ((first | (refine cnd (by first | assumption | omega | decide) ?_) | (refine cnd0 ?_) | (refine Chk.mk (by kernel_rfl) ?_) | (refine xdraw_rule tabOK ?_) | (refine xdraw_rule (tabLOK _) ?_)); (conv => whnf)))
      exact xend [0] (.v (bv true)) ([some (.view encFlt l)]) (rfl) rfl rfl rfl (by repeat' (first | exact trivial | exact rfl | (refine And.intro ?_ ?_) | omega)) (by repeat' (first | exact trivial | exact rfl | (refine And.intro ?_ ?_) | omega))
end Go.Proofs.Ytcmedheeafiogaa

namespace Go.Proofs.Ytcmedheeafiogaa
open Go.Sy
set_option linter.unusedVariables false
set_option linter.unusedSimpArgs false
open Go.ChangeShapes Go.WideShapes Go.RowKit
section
variable {H : Type} {enc : TypeId × Value → H} {P : Program}
theorem trodAll_five {w : World} {base : Nat} {spare : Nat → Bool} {held : Bool} {t t' t'' t3 t4 : TypeId} {args : Array Value} {ds : List (DataW H)} {ps : List MemPlace} (h : DataW.TrodAll enc P w base spare held [t, t', t'', t3, t4] args.toList ds ps) :
    ∃ v v' v'' v3 v4 d d' d'' d3 d4 p p' p'' p3 p4, args = #[v, v', v'', v3, v4] ∧ ds = [d, d', d'', d3, d4] ∧ DataW.Trod enc P w base spare held t v d p ∧ DataW.Trod enc P w base spare held t' v' d' p' ∧
      DataW.Trod enc P w base spare held t'' v'' d'' p'' ∧ DataW.Trod enc P w base spare held t3 v3 d3 p3 ∧ DataW.Trod enc P w base spare held t4 v4 d4 p4 := by
  obtain ⟨v, r1, d, s1, p, q1, e1, rfl, rfl, h1, k1⟩ := trodAll_cons h
  obtain ⟨v', r2, d', s2, p', q2, rfl, rfl, rfl, h2, k2⟩ := trodAll_cons k1
  obtain ⟨v'', r3, d'', s3, p'', q3, rfl, rfl, rfl, h3, k3⟩ := trodAll_cons k2
  obtain ⟨v3, r4, d3, s4, p3, q4, rfl, rfl, rfl, h4, k4⟩ := trodAll_cons k3
  obtain ⟨v4, r5, d4, s5, p4, q5, rfl, rfl, rfl, h5, k5⟩ := trodAll_cons k4
  obtain ⟨rfl, rfl, rfl⟩ := trodAll_nil k5
  exact ⟨v, v', v'', v3, v4, d, d', d'', d3, d4, p, p', p'', p3, p4, by rw [← Array.toList_inj]; exact e1, rfl, h1, h2, h3, h4, h5⟩
end
end Go.Proofs.Ytcmedheeafiogaa

namespace Go.Proofs.Ytcmedheeafiogaa
open Go.Sy
set_option linter.unusedVariables false
set_option linter.unusedSimpArgs false
open Go.ChangeShapes Go.WideShapes Go.RowKit
set_option maxRecDepth 100000 in
theorem lineFirst_lifted (os : Os) (started : os.Started) (H : Type) (enc : TypeId × Value → H) :
    ReturnsInHanded {} Try.checked os 6 .any (Rows.lineFirstSpec.pre6 enc Try.prog Try.f6 Rows.lineFirstRow.domain false) (Rows.lineFirstSpec.post enc Try.prog Try.f6 false true false false) := by
  refine returnsInHanded_of_change_sized (C := Try.checked) Try.own started (by kernel_rfl) Try.func6
    (ChangeSpec.witness6 (enc := enc) (C := Try.checked) false ⟨#[], #[.slice none 0 0, .int .i64 0, .int .i64 0, .int .i64 0, .agg #[.int .i64 0, .int .i64 0]], []⟩ 8 (by kernel_rfl) (by kernel_rfl) (by kernel_rfl) (by kernel_rfl)) ?_
  intro w0 base args ds gs before hval0 hW0 _ hsz0 _
  have hval : ∀ (j : Nat) t v, Try.f6.params[j]? = some t → args[j]? = some v → Value.okWide Try.prog w0 .any base t v := hval0
  have hW : DataW.Whole enc Try.prog Try.f6.params.toList Rows.lineFirstSpec.vars false w0 args.toList ds gs before := hW0
  have hsz : (DataW.weightsEach Try.prog (Try.f6.params.toList ++ Rows.lineFirstSpec.plain.varTypes Try.prog) (ds ++ gs)).all (· ≤ reachBytes) = true := hsz0
  have hW' := hW
  obtain ⟨p, q, hA0, hV, _, _, _⟩ := hW
  have hA : DataW.TrodAll enc Try.prog w0 0 (fun _ => true) true Try.f6.params.toList args.toList ds p := hA0
  rw [Try.params6] at hA hval hsz
  obtain ⟨v0, v1, v2, v3, v4, d0, d1, d2, d3, d4, p0, p1, p2, p3, p4, rfl, rfl, h0, h1, h2, h3, h4⟩ := trodAll_five hA
  obtain ⟨rfl, _⟩ := trodVars_none hV
  obtain ⟨xs, pl, hs, hd⟩ := open_sl ieFlt Try.underlying22 ints108 cells108 (hval 0 22 v0 rfl rfl) h0
  obtain ⟨c, rfl, _⟩ := open_i Try.underlying3 (hval 1 3 v1 rfl rfl) h1
  obtain ⟨d, rfl, _⟩ := open_i Try.underlying3 (hval 2 3 v2 rfl rfl) h2
  obtain ⟨y, rfl, _⟩ := open_i Try.underlying3 (hval 3 3 v3 rfl rfl) h3
  obtain ⟨z, hz⟩ := open_ag ieSz Try.underlying48 ints48 (hval 4 48 v4 rfl rfl) h4
  have hlen : xs.length < 2 ^ 48 := by
    rcases hd with rfl | ⟨els, sp, rfl, h⟩
    · simp
    · exact len_of hsz (j := 0) rfl rfl Try.underlying22 bytes108 (by omega) h
  have T := t6 xs hlen c d y z
  refine law_post (P := Try.prog) (l := [(pl, some (.view encFlt xs))]) Try.laidOut hW' rfl (tb := 4) rfl Try.underlying4 (by kernel_rfl) ⟨rfl, rfl, rfl⟩ T ?_ ?_
  · intro ν hν
    rw [hs.1 ν 0 (hν 0 pl _ rfl), hz ν]
    rfl
  · intro i p c hi ν' hν
    match i, hi with
    | 0, hi =>
      simp at hi
      obtain ⟨rfl, rfl⟩ := hi
      exact view_sat hs ν'
    | i + 1, hi => simp at hi
theorem lineFirst_holds : Rows.LineFirstSaid :=
  OpenClaim.holds_of_wide 6 Try.f6 rfl rfl rfl rfl rfl rfl rfl ⟨rfl, rfl, rfl, rfl, rfl⟩ rfl rfl rfl rfl rfl (by kernel_rfl) Try.func6 (by kernel_rfl)
    (of_decide_eq_true (by kernel_rfl)) (by unfold Func.isWrapper; first | (rw [if_pos (by decide +kernel)]; kernel_rfl) | (rw [if_neg (by decide +kernel)]; exact ⟨rfl, rfl⟩))
    (fun os started H enc _ => lineFirst_lifted os started H enc)
#print axioms lineFirst_holds
end Go.Proofs.Ytcmedheeafiogaa
