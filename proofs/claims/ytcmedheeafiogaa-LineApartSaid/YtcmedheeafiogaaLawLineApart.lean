/-
  LineApart: no full float meets a line's box; lines stand one below the other, with all atoms: the law's walk, the plain law, and the row.
-/
import Derived.Test.YtcmedheeafiogaaKj
namespace Go.Proofs.Ytcmedheeafiogaa
open Go.Sy
set_option linter.unusedVariables false
set_option linter.unusedSimpArgs false
/-- What LineApart asks. -/
structure ApL (l : List Flt) (c d y : Int) (zs : List Sz) (L : List Ln) : Prop where
  gl : GrL l c d zs L
  wr : ∀ a j, a + j ≤ zs.length → 0 ≤ wdS zs a j ∧ wdS zs a j ≤ 2147483648 * j
  tp : ∀ i, i < L.length → lnY L y i ≤ (L.getD i encLn.d).box.t
  wd : ∀ i, i < L.length → (L.getD i encLn.d).wide = wdS zs (dnL L i) (L.getD i encLn.d).atoms.toNat
  hi : ∀ i, i < L.length → IntKind.i64.wrap ((L.getD i encLn.d).box.b - (L.getD i encLn.d).box.t) = hiS zs (dnL L i) (L.getD i encLn.d).atoms.toNat
  bg : ∀ i, i < L.length → IntKind.i64.wrap ((L.getD i encLn.d).box.r - (L.getD i encLn.d).box.l) < (L.getD i encLn.d).wide → (L.getD i encLn.d).box.l = c ∧ (L.getD i encLn.d).box.r = d ∧ IntKind.i64.wrap (d - c) < (zs.getD (dnL L i) encSz.d).w ∧ (L.getD i encLn.d).wide = (zs.getD (dnL L i) encSz.d).w
  mt : ∀ i, i < L.length → ∀ k, k < l.length → meetB (l.getD k encFlt.d).box (L.getD i encLn.d).box = false
-- LineApart
set_option maxRecDepth 100000 in
theorem t10 (law : ∀ (l : List Flt) (c d y : Int) (zs : List Sz), bg13 l c d y = true → szR zs = true → zs.length ≤ 40 → ApL l c d y zs (allL l c d y zs))
    (l : List Flt) (hl : l.length < 2 ^ 48) (c d y : Int) (zs : List Sz) (hz : zs.length < 2 ^ 48) : Tri Try.prog 10 [.one (.slice 0 0 5 l.length), iv c, iv d, iv y, .one (.slice 1 0 2 zs.length)] [some (.view encFlt l), some (.view encSz zs)] tru := by
  (refine tri_x tabOK Try.func10 rfl rfl Try.ntmps10 (by simp) fun C => ?_; (conv => whnf); repeat ((first | (refine cnd (by first | assumption | omega | decide) ?_) | (refine cnd0 ?_) | (refine Chk.mk (by kernel_rfl) ?_) | (refine xdraw_rule tabOK ?_) | (refine xdraw_rule (tabLOK _) ?_)); (conv => whnf)))
  (refine xcallR (t22 l hl c d y) rfl rfl rfl (by repeat (first | exact trivial | refine ⟨rfl, ?_⟩)) ?_)
  rintro x post (⟨e, rfl, rfl⟩ | ⟨e, rfl, rfl⟩)
  · have ho := bg13_ok e
    ((conv => whnf); repeat ((first | (refine cnd (by first | assumption | omega | decide) ?_) | (refine cnd0 ?_) | (refine Chk.mk (by kernel_rfl) ?_) | (refine xdraw_rule tabOK ?_) | (refine xdraw_rule (tabLOK _) ?_)); (conv => whnf)))
    (refine xcall (t23) rfl rfl rfl (by repeat (first | exact trivial | refine ⟨rfl, ?_⟩)) ?_; (conv => whnf); repeat ((first | (refine cnd (by first | assumption | omega | decide) ?_) | (refine cnd0 ?_) | (refine Chk.mk (by kernel_rfl) ?_) | (refine xdraw_rule tabOK ?_) | (refine xdraw_rule (tabLOK _) ?_)); (conv => whnf)))
    (refine Br.mk (fun c1 => ?_) (fun c1 => ?_) <;> ((conv => whnf); repeat ((first | (refine cnd (by first | assumption | omega | decide) ?_) | (refine cnd0 ?_) | (refine Chk.mk (by kernel_rfl) ?_) | (refine xdraw_rule tabOK ?_) | (refine xdraw_rule (tabLOK _) ?_)); (conv => whnf))))
    · exact absurd c1 (by decide)
    · (refine Br.mk (fun c2 => ?_) (fun c2 => ?_) <;> ((conv => whnf); repeat ((first | (refine cnd (by first | assumption | omega | decide) ?_) | (refine cnd0 ?_) | (refine Chk.mk (by kernel_rfl) ?_) | (refine xdraw_rule tabOK ?_) | (refine xdraw_rule (tabLOK _) ?_)); (conv => whnf))))
      · (refine xcall (t23) rfl rfl rfl (by repeat (first | exact trivial | refine ⟨rfl, ?_⟩)) ?_; (conv => whnf); repeat ((first | (refine cnd (by first | assumption | omega | decide) ?_) | (refine cnd0 ?_) | (refine Chk.mk (by kernel_rfl) ?_) | (refine xdraw_rule tabOK ?_) | (refine xdraw_rule (tabLOK _) ?_)); (conv => whnf)))
        exact xend [0, 1] (.v (bv true)) ([some (.view encFlt l), some (.view encSz zs)]) (rfl) rfl rfl rfl (by repeat' (first | exact trivial | exact rfl | (refine And.intro ?_ ?_) | omega)) (by repeat' (first | exact trivial | exact rfl | (refine And.intro ?_ ?_) | omega))
      · have hz40 : zs.length ≤ 40 := by simp at c2; omega
        (refine xcall (t24 zs (by omega)) rfl rfl rfl (by repeat (first | exact trivial | refine ⟨rfl, ?_⟩)) ?_; (conv => whnf); repeat ((first | (refine cnd (by first | assumption | omega | decide) ?_) | (refine cnd0 ?_) | (refine Chk.mk (by kernel_rfl) ?_) | (refine xdraw_rule tabOK ?_) | (refine xdraw_rule (tabLOK _) ?_)); (conv => whnf)))
        (refine Br.mk (fun c3 => ?_) (fun c3 => ?_) <;> ((conv => whnf); repeat ((first | (refine cnd (by first | assumption | omega | decide) ?_) | (refine cnd0 ?_) | (refine Chk.mk (by kernel_rfl) ?_) | (refine xdraw_rule tabOK ?_) | (refine xdraw_rule (tabLOK _) ?_)); (conv => whnf))))
        · (refine xcall (t23) rfl rfl rfl (by repeat (first | exact trivial | refine ⟨rfl, ?_⟩)) ?_; (conv => whnf); repeat ((first | (refine cnd (by first | assumption | omega | decide) ?_) | (refine cnd0 ?_) | (refine Chk.mk (by kernel_rfl) ?_) | (refine xdraw_rule tabOK ?_) | (refine xdraw_rule (tabLOK _) ?_)); (conv => whnf)))
          exact xend [0, 1] (.v (bv true)) ([some (.view encFlt l), some (.view encSz zs)]) (rfl) rfl rfl rfl (by repeat' (first | exact trivial | exact rfl | (refine And.intro ?_ ?_) | omega)) (by repeat' (first | exact trivial | exact rfl | (refine And.intro ?_ ?_) | omega))
        · have hr : szR zs = true := by simpa using c3
          have A := law l c d y zs e hr hz40
          have T25 := t25 l ho c d y zs (by omega)
          generalize allL l c d y zs = L at A T25
          have G := A.gl
          (refine xcall (t26 zs (by omega)) rfl rfl rfl (by repeat (first | exact trivial | refine ⟨rfl, ?_⟩)) ?_; (conv => whnf); repeat ((first | (refine cnd (by first | assumption | omega | decide) ?_) | (refine cnd0 ?_) | (refine Chk.mk (by kernel_rfl) ?_) | (refine xdraw_rule tabOK ?_) | (refine xdraw_rule (tabLOK _) ?_)); (conv => whnf)))
          (refine xcall (T25) rfl rfl rfl (by repeat (first | exact trivial | refine ⟨rfl, ?_⟩)) ?_; (conv => whnf); repeat ((first | (refine cnd (by first | assumption | omega | decide) ?_) | (refine cnd0 ?_) | (refine Chk.mk (by kernel_rfl) ?_) | (refine xdraw_rule tabOK ?_) | (refine xdraw_rule (tabLOK _) ?_)); (conv => whnf)))
          refine xloop tabOK (fun i : Nat => i ≤ L.length) (fun i => [(1, .v (iv c)), (2, .v (iv d)), (3, .v (iv (lnY L y i))), (4, .v (.one (.slice 1 0 2 zs.length))), (11, .v (pt 2)), (12, .v (iv (dnL L i))), (47, .v (.one (.slice 3 0 6 L.length))), (48, .v (iv L.length)), (49, .v (iv i))]) (fun i => [some (.view encFlt l), some (.view encSz zs), some (spC l), some (.rows 46 encLn L)]) (fun i => L.length - i) (0) [0, 1, 7, 31] (Nat.zero_le _) rfl rfl rfl (by repeat' (first | exact trivial | exact rfl | (refine And.intro ?_ ?_) | omega)) (by repeat' (first | exact trivial | exact rfl | (refine And.intro ?_ ?_) | omega)) ?_
          intro i hi
          have hdi := G.dn i hi
          have hL40 := G.len
          ((conv => whnf); repeat ((first | (refine cnd (by first | assumption | omega | decide) ?_) | (refine cnd0 ?_) | (refine Chk.mk (by kernel_rfl) ?_) | (refine xdraw_rule tabOK ?_) | (refine xdraw_rule (tabLOK _) ?_)); (conv => whnf)))
          (refine Br.mk (fun k => ?_) (fun k => ?_) <;> ((conv => whnf); repeat ((first | (refine cnd (by first | assumption | omega | decide) ?_) | (refine cnd0 ?_) | (refine Chk.mk (by kernel_rfl) ?_) | (refine xdraw_rule tabOK ?_) | (refine xdraw_rule (tabLOK _) ?_)); (conv => whnf))))
          · have hil : i < L.length := by have := of_decide_eq_true k; omega
            have hi0 : 0 + (i : Int).toNat = i := by omega
            have hwi : IntKind.i64.wrap ((i : Int) + 1) = (i + 1 : Nat) := by rw [W_id (by omega) (by omega)]; rfl
            have hds := dnL_succ hil
            obtain ⟨ha1, ha2⟩ := G.at1 i hil
            have hdn := G.dn (i + 1) hil
            have Atp := A.tp i hil
            have Awd := A.wd i hil
            have Ahi := A.hi i hil
            have Abg := A.bg i hil
            have Amt := A.mt i hil
            have hyl : (L.getD i encLn.d).box.b = lnY L y (i + 1) := rfl
            generalize hen : L.getD i encLn.d = n at *
            have hen' : L.getD (0 + (i : Int).toNat) encLn.d = n := by rw [hi0, hen]
            obtain ⟨K, hK⟩ : ∃ K, K = n.atoms.toNat := ⟨_, rfl⟩
            have hwd : IntKind.i64.wrap ((dnL L i : Int) + (L.getD (0 + (i : Int).toNat) encLn.d).atoms) = (dnL L (i + 1) : Nat) := by rw [hen', W_id (by omega) (by omega)]; omega
            have hk90 : (IntKind.i64.wrap ((dnL L i : Int) + (L.getD (0 + (i : Int).toNat) encLn.d).atoms)).toNat - ((dnL L i : Int)).toNat = K := by rw [hwd]; omega
            have hk0 : ((dnL L i : Int)).toNat = dnL L i := by omega
            (repeat ((first | (refine cnd (by first | assumption | omega | decide) ?_) | (refine cnd0 ?_) | (refine Chk.mk (by kernel_rfl) ?_) | (refine xdraw_rule tabOK ?_) | (refine xdraw_rule (tabLOK _) ?_)); (conv => whnf)))
            (refine Br.mk (fun g1 => ?_) (fun g1 => ?_) <;> ((conv => whnf); repeat ((first | (refine cnd (by first | assumption | omega | decide) ?_) | (refine cnd0 ?_) | (refine Chk.mk (by kernel_rfl) ?_) | (refine xdraw_rule tabOK ?_) | (refine xdraw_rule (tabLOK _) ?_)); (conv => whnf))))
            · rw [hen'] at g1; exact absurd (of_decide_eq_true g1) (by omega)
            · (repeat ((first | (refine cnd (by first | assumption | omega | decide) ?_) | (refine cnd0 ?_) | (refine Chk.mk (by kernel_rfl) ?_) | (refine xdraw_rule tabOK ?_) | (refine xdraw_rule (tabLOK _) ?_)); (conv => whnf)))
              (refine Br.mk (fun g2 => ?_) (fun g2 => ?_) <;> ((conv => whnf); repeat ((first | (refine cnd (by first | assumption | omega | decide) ?_) | (refine cnd0 ?_) | (refine Chk.mk (by kernel_rfl) ?_) | (refine xdraw_rule tabOK ?_) | (refine xdraw_rule (tabLOK _) ?_)); (conv => whnf))))
              · rw [hen'] at g2; exact absurd (of_decide_eq_true g2) (by omega)
              · (repeat ((first | (refine cnd (by first | assumption | omega | decide) ?_) | (refine cnd0 ?_) | (refine Chk.mk (by kernel_rfl) ?_) | (refine xdraw_rule tabOK ?_) | (refine xdraw_rule (tabLOK _) ?_)); (conv => whnf)))
                (refine Br.mk (fun g3 => ?_) (fun g3 => ?_) <;> ((conv => whnf); repeat ((first | (refine cnd (by first | assumption | omega | decide) ?_) | (refine cnd0 ?_) | (refine Chk.mk (by kernel_rfl) ?_) | (refine xdraw_rule tabOK ?_) | (refine xdraw_rule (tabLOK _) ?_)); (conv => whnf))))
                · rw [hwd] at g3; exact absurd (of_decide_eq_true g3) (by omega)
                · (repeat ((first | (refine cnd (by first | assumption | omega | decide) ?_) | (refine cnd0 ?_) | (refine Chk.mk (by kernel_rfl) ?_) | (refine xdraw_rule tabOK ?_) | (refine xdraw_rule (tabLOK _) ?_)); (conv => whnf)))
                  have T48 : Tri Try.prog 48 [.one (.slice 0 ((dnL L i : Int)).toNat 2 ((IntKind.i64.wrap ((dnL L i : Int) + (L.getD (0 + (i : Int).toNat) encLn.d).atoms)).toNat - ((dnL L i : Int)).toNat))] [some (.view encSz zs)] (fun x post => x = .v (iv (wdS zs (dnL L i) K)) ∧ post = [some (.view encSz zs)]) := by
                    rw [hk90, hk0]; exact t48 zs (dnL L i) K (by omega) hz40 (fun j hj => A.wr (dnL L i) j (by omega))
                  have T49 : Tri Try.prog 49 [.one (.slice 0 ((dnL L i : Int)).toNat 2 ((IntKind.i64.wrap ((dnL L i : Int) + (L.getD (0 + (i : Int).toNat) encLn.d).atoms)).toNat - ((dnL L i : Int)).toNat))] [some (.view encSz zs)] (fun x post => x = .v (iv (hiS zs (dnL L i) K)) ∧ post = [some (.view encSz zs)]) := by
                    rw [hk90, hk0]; exact t49 zs (dnL L i) K (by omega) hz40
                  (refine dcallR (T48) rfl fun hT_ => ?_; (conv => whnf); refine cnd hT_ (cnd rfl (cnd (by repeat (first | exact trivial | refine ⟨rfl, ?_⟩)) (cnd rfl (cnd0 ?_)))); clear hT_; (conv => whnf); repeat ((first | (refine cnd (by first | assumption | omega | decide) ?_) | (refine cnd0 ?_) | (refine Chk.mk (by kernel_rfl) ?_) | (refine xdraw_rule tabOK ?_) | (refine xdraw_rule (tabLOK _) ?_)); (conv => whnf)))
                  (refine Br.mk (fun g4 => ?_) (fun g4 => ?_) <;> ((conv => whnf); repeat ((first | (refine cnd (by first | assumption | omega | decide) ?_) | (refine cnd0 ?_) | (refine Chk.mk (by kernel_rfl) ?_) | (refine xdraw_rule tabOK ?_) | (refine xdraw_rule (tabLOK _) ?_)); (conv => whnf))))
                  · rw [hen', Awd, ← hK] at g4; simp at g4
                  · (repeat ((first | (refine cnd (by first | assumption | omega | decide) ?_) | (refine cnd0 ?_) | (refine Chk.mk (by kernel_rfl) ?_) | (refine xdraw_rule tabOK ?_) | (refine xdraw_rule (tabLOK _) ?_)); (conv => whnf)))
                    (refine dcallR (T49) rfl fun hT_ => ?_; (conv => whnf); refine cnd hT_ (cnd rfl (cnd (by repeat (first | exact trivial | refine ⟨rfl, ?_⟩)) (cnd rfl (cnd0 ?_)))); clear hT_; (conv => whnf); repeat ((first | (refine cnd (by first | assumption | omega | decide) ?_) | (refine cnd0 ?_) | (refine Chk.mk (by kernel_rfl) ?_) | (refine xdraw_rule tabOK ?_) | (refine xdraw_rule (tabLOK _) ?_)); (conv => whnf)))
                    (refine Br.mk (fun g5 => ?_) (fun g5 => ?_) <;> ((conv => whnf); repeat ((first | (refine cnd (by first | assumption | omega | decide) ?_) | (refine cnd0 ?_) | (refine Chk.mk (by kernel_rfl) ?_) | (refine xdraw_rule tabOK ?_) | (refine xdraw_rule (tabLOK _) ?_)); (conv => whnf))))
                    · rw [hen', Ahi, ← hK] at g5; simp at g5
                    · (repeat ((first | (refine cnd (by first | assumption | omega | decide) ?_) | (refine cnd0 ?_) | (refine Chk.mk (by kernel_rfl) ?_) | (refine xdraw_rule tabOK ?_) | (refine xdraw_rule (tabLOK _) ?_)); (conv => whnf)))
                      (refine Br.mk (fun g6 => ?_) (fun g6 => ?_) <;> ((conv => whnf); repeat ((first | (refine cnd (by first | assumption | omega | decide) ?_) | (refine cnd0 ?_) | (refine Chk.mk (by kernel_rfl) ?_) | (refine xdraw_rule tabOK ?_) | (refine xdraw_rule (tabLOK _) ?_)); (conv => whnf))))
                      · rw [hen'] at g6
                        obtain ⟨q1, q2, q3, q4⟩ := Abg (of_decide_eq_true g6)
                        (repeat ((first | (refine cnd (by first | assumption | omega | decide) ?_) | (refine cnd0 ?_) | (refine Chk.mk (by kernel_rfl) ?_) | (refine xdraw_rule tabOK ?_) | (refine xdraw_rule (tabLOK _) ?_)); (conv => whnf)))
                        (refine Br.mk (fun g7 => ?_) (fun g7 => ?_) <;> ((conv => whnf); repeat ((first | (refine cnd (by first | assumption | omega | decide) ?_) | (refine cnd0 ?_) | (refine Chk.mk (by kernel_rfl) ?_) | (refine xdraw_rule tabOK ?_) | (refine xdraw_rule (tabLOK _) ?_)); (conv => whnf))))
                        · (repeat ((first | (refine cnd (by first | assumption | omega | decide) ?_) | (refine cnd0 ?_) | (refine Chk.mk (by kernel_rfl) ?_) | (refine xdraw_rule tabOK ?_) | (refine xdraw_rule (tabLOK _) ?_)); (conv => whnf)))
                          (refine Br.mk (fun g8 => ?_) (fun g8 => ?_) <;> ((conv => whnf); repeat ((first | (refine cnd (by first | assumption | omega | decide) ?_) | (refine cnd0 ?_) | (refine Chk.mk (by kernel_rfl) ?_) | (refine xdraw_rule tabOK ?_) | (refine xdraw_rule (tabLOK _) ?_)); (conv => whnf))))
                          · (repeat ((first | (refine cnd (by first | assumption | omega | decide | first | omega | (rw [hk90]; omega)) ?_) | (refine cnd0 ?_) | (refine Chk.mk (by kernel_rfl) ?_) | (refine xdraw_rule tabOK ?_) | (refine xdraw_rule (tabLOK _) ?_)); (conv => whnf)))
                            have hz0 : zs.getD (((dnL L i : Int)).toNat + Int.toNat 0) encSz.d = zs.getD (dnL L i) encSz.d := by rw [hk0]; rfl
                            (refine Br.mk (fun g9 => ?_) (fun g9 => ?_) <;> ((conv => whnf); repeat ((first | (refine cnd (by first | assumption | omega | decide) ?_) | (refine cnd0 ?_) | (refine Chk.mk (by kernel_rfl) ?_) | (refine xdraw_rule tabOK ?_) | (refine xdraw_rule (tabLOK _) ?_)); (conv => whnf))))
                            · (repeat ((first | (refine cnd (by first | assumption | omega | decide | first | omega | (rw [hk90]; omega)) ?_) | (refine cnd0 ?_) | (refine Chk.mk (by kernel_rfl) ?_) | (refine xdraw_rule tabOK ?_) | (refine xdraw_rule (tabLOK _) ?_)); (conv => whnf)))
                              (refine Br.mk (fun g10 => ?_) (fun g10 => ?_) <;> ((conv => whnf); repeat ((first | (refine cnd (by first | assumption | omega | decide) ?_) | (refine cnd0 ?_) | (refine Chk.mk (by kernel_rfl) ?_) | (refine xdraw_rule tabOK ?_) | (refine xdraw_rule (tabLOK _) ?_)); (conv => whnf))))
                              · rw [hen', hz0] at g10; simp [q4] at g10
                              · (repeat ((first | (refine cnd (by first | assumption | omega | decide) ?_) | (refine cnd0 ?_) | (refine Chk.mk (by kernel_rfl) ?_) | (refine xdraw_rule tabOK ?_) | (refine xdraw_rule (tabLOK _) ?_)); (conv => whnf)))
                                (refine xcall (t41 l ho) rfl rfl rfl (by repeat (first | exact trivial | refine ⟨rfl, ?_⟩)) ?_; (conv => whnf); repeat ((first | (refine cnd (by first | assumption | omega | decide) ?_) | (refine cnd0 ?_) | (refine Chk.mk (by kernel_rfl) ?_) | (refine xdraw_rule tabOK ?_) | (refine xdraw_rule (tabLOK _) ?_)); (conv => whnf)))
                                refine xloop tabOK (fun j : Nat => j ≤ l.length) (fun j => [(1, .v (iv c)), (2, .v (iv d)), (4, .v (.one (.slice 1 0 2 zs.length))), (11, .v (pt 2)), (12, .v (iv (dnL L (i + 1)))), (14, .v (pt 4)), (47, .v (.one (.slice 3 0 6 L.length))), (48, .v (iv L.length)), (49, .v (iv i)), (145, .v (.one (.slice 5 0 5 l.length))), (146, .v (iv l.length)), (147, .v (iv j))]) (fun j => [some (.view encFlt l), some (.view encSz zs), some (spC l), some (.rows 46 encLn L), lnC n, some (.rows 90 encFlt l)]) (fun j => l.length - j) (0) [0, 1, 2, 3, 7, 1018] (Nat.zero_le _) rfl rfl rfl (by repeat' (first | exact trivial | exact rfl | (refine And.intro ?_ ?_) | omega | first | exact hwd | exact congrArg (fun n : Ln => n.box.l) hen' | exact congrArg (fun n : Ln => n.box.t) hen' | exact congrArg (fun n : Ln => n.box.r) hen' | exact congrArg (fun n : Ln => n.box.b) hen' | exact congrArg (fun n : Ln => n.atoms) hen' | exact congrArg (fun n : Ln => n.wide) hen')) (by repeat' (first | exact trivial | exact rfl | (refine And.intro ?_ ?_) | omega | first | exact hwd | exact congrArg (fun n : Ln => n.box.l) hen' | exact congrArg (fun n : Ln => n.box.t) hen' | exact congrArg (fun n : Ln => n.box.r) hen' | exact congrArg (fun n : Ln => n.box.b) hen' | exact congrArg (fun n : Ln => n.atoms) hen' | exact congrArg (fun n : Ln => n.wide) hen')) ?_
                                intro j hj
                                ((conv => whnf); repeat ((first | (refine cnd (by first | assumption | omega | decide) ?_) | (refine cnd0 ?_) | (refine Chk.mk (by kernel_rfl) ?_) | (refine xdraw_rule tabOK ?_) | (refine xdraw_rule (tabLOK _) ?_)); (conv => whnf)))
                                (refine Br.mk (fun q => ?_) (fun q => ?_) <;> ((conv => whnf); repeat ((first | (refine cnd (by first | assumption | omega | decide) ?_) | (refine cnd0 ?_) | (refine Chk.mk (by kernel_rfl) ?_) | (refine xdraw_rule tabOK ?_) | (refine xdraw_rule (tabLOK _) ?_)); (conv => whnf))))
                                · have hjl : j < l.length := by have := of_decide_eq_true q; omega
                                  have hwj : IntKind.i64.wrap ((j : Int) + 1) = (j + 1 : Nat) := by rw [W_id (by omega) (by omega)]; rfl
                                  have hj0 : 0 + (j : Int).toNat = j := by omega
                                  have T45 := t45 (l.getD (0 + (j : Int).toNat) encFlt.d).box n.box
                                  rw [show meetB (l.getD (0 + (j : Int).toNat) encFlt.d).box n.box = false by rw [hj0]; exact Amt j hjl] at T45
                                  (repeat ((first | (refine cnd (by first | assumption | omega | decide) ?_) | (refine cnd0 ?_) | (refine Chk.mk (by kernel_rfl) ?_) | (refine xdraw_rule tabOK ?_) | (refine xdraw_rule (tabLOK _) ?_)); (conv => whnf)))
                                  (refine xcall (T45) rfl rfl rfl (by repeat (first | exact trivial | refine ⟨rfl, ?_⟩)) ?_; (conv => whnf); repeat ((first | (refine cnd (by first | assumption | omega | decide) ?_) | (refine cnd0 ?_) | (refine Chk.mk (by kernel_rfl) ?_) | (refine xdraw_rule tabOK ?_) | (refine xdraw_rule (tabLOK _) ?_)); (conv => whnf)))
                                  (refine Br.mk (fun q5 => ?_) (fun q5 => ?_) <;> ((conv => whnf); repeat ((first | (refine cnd (by first | assumption | omega | decide) ?_) | (refine cnd0 ?_) | (refine Chk.mk (by kernel_rfl) ?_) | (refine xdraw_rule tabOK ?_) | (refine xdraw_rule (tabLOK _) ?_)); (conv => whnf))))
                                  · exact absurd q5 (by decide)
                                  · exact rnd (j + 1) [0, 1, 2, 3, 4, 5] (hjl) (by omega) rfl rfl rfl (by repeat' (first | exact trivial | exact rfl | (refine And.intro ?_ ?_) | omega | exact hwj)) (by repeat' (first | exact trivial | exact rfl | (refine And.intro ?_ ?_) | omega | exact hwj))
                                · (repeat ((first | (refine cnd (by first | assumption | omega | decide) ?_) | (refine cnd0 ?_) | (refine Chk.mk (by kernel_rfl) ?_) | (refine xdraw_rule tabOK ?_) | (refine xdraw_rule (tabLOK _) ?_)); (conv => whnf)))
                                  exact rnd (i + 1) [0, 1, 2, 3] (hil) (by omega) rfl rfl rfl (by repeat' (first | exact trivial | exact rfl | (refine And.intro ?_ ?_) | omega | first | exact hwi | exact hyl)) (by repeat' (first | exact trivial | exact rfl | (refine And.intro ?_ ?_) | omega | first | exact hwi | exact hyl))
                            · rw [hz0] at g9; exact absurd q3 (of_decide_eq_false g9)
                          · rw [hen'] at g8; exact absurd q2 (of_decide_eq_false g8)
                        · rw [hen'] at g7; exact absurd q1 (of_decide_eq_false g7)
                      · (repeat ((first | (refine cnd (by first | assumption | omega | decide) ?_) | (refine cnd0 ?_) | (refine Chk.mk (by kernel_rfl) ?_) | (refine xdraw_rule tabOK ?_) | (refine xdraw_rule (tabLOK _) ?_)); (conv => whnf)))
                        (refine xcall (t41 l ho) rfl rfl rfl (by repeat (first | exact trivial | refine ⟨rfl, ?_⟩)) ?_; (conv => whnf); repeat ((first | (refine cnd (by first | assumption | omega | decide) ?_) | (refine cnd0 ?_) | (refine Chk.mk (by kernel_rfl) ?_) | (refine xdraw_rule tabOK ?_) | (refine xdraw_rule (tabLOK _) ?_)); (conv => whnf)))
                        refine xloop tabOK (fun j : Nat => j ≤ l.length) (fun j => [(1, .v (iv c)), (2, .v (iv d)), (4, .v (.one (.slice 1 0 2 zs.length))), (11, .v (pt 2)), (12, .v (iv (dnL L (i + 1)))), (14, .v (pt 4)), (47, .v (.one (.slice 3 0 6 L.length))), (48, .v (iv L.length)), (49, .v (iv i)), (145, .v (.one (.slice 5 0 5 l.length))), (146, .v (iv l.length)), (147, .v (iv j))]) (fun j => [some (.view encFlt l), some (.view encSz zs), some (spC l), some (.rows 46 encLn L), lnC n, some (.rows 90 encFlt l)]) (fun j => l.length - j) (0) [0, 1, 2, 3, 7, 1018] (Nat.zero_le _) rfl rfl rfl (by repeat' (first | exact trivial | exact rfl | (refine And.intro ?_ ?_) | omega | first | exact hwd | exact congrArg (fun n : Ln => n.box.l) hen' | exact congrArg (fun n : Ln => n.box.t) hen' | exact congrArg (fun n : Ln => n.box.r) hen' | exact congrArg (fun n : Ln => n.box.b) hen' | exact congrArg (fun n : Ln => n.atoms) hen' | exact congrArg (fun n : Ln => n.wide) hen')) (by repeat' (first | exact trivial | exact rfl | (refine And.intro ?_ ?_) | omega | first | exact hwd | exact congrArg (fun n : Ln => n.box.l) hen' | exact congrArg (fun n : Ln => n.box.t) hen' | exact congrArg (fun n : Ln => n.box.r) hen' | exact congrArg (fun n : Ln => n.box.b) hen' | exact congrArg (fun n : Ln => n.atoms) hen' | exact congrArg (fun n : Ln => n.wide) hen')) ?_
                        intro j hj
                        ((conv => whnf); repeat ((first | (refine cnd (by first | assumption | omega | decide) ?_) | (refine cnd0 ?_) | (refine Chk.mk (by kernel_rfl) ?_) | (refine xdraw_rule tabOK ?_) | (refine xdraw_rule (tabLOK _) ?_)); (conv => whnf)))
                        (refine Br.mk (fun q => ?_) (fun q => ?_) <;> ((conv => whnf); repeat ((first | (refine cnd (by first | assumption | omega | decide) ?_) | (refine cnd0 ?_) | (refine Chk.mk (by kernel_rfl) ?_) | (refine xdraw_rule tabOK ?_) | (refine xdraw_rule (tabLOK _) ?_)); (conv => whnf))))
                        · have hjl : j < l.length := by have := of_decide_eq_true q; omega
                          have hwj : IntKind.i64.wrap ((j : Int) + 1) = (j + 1 : Nat) := by rw [W_id (by omega) (by omega)]; rfl
                          have hj0 : 0 + (j : Int).toNat = j := by omega
                          have T45 := t45 (l.getD (0 + (j : Int).toNat) encFlt.d).box n.box
                          rw [show meetB (l.getD (0 + (j : Int).toNat) encFlt.d).box n.box = false by rw [hj0]; exact Amt j hjl] at T45
                          (repeat ((first | (refine cnd (by first | assumption | omega | decide) ?_) | (refine cnd0 ?_) | (refine Chk.mk (by kernel_rfl) ?_) | (refine xdraw_rule tabOK ?_) | (refine xdraw_rule (tabLOK _) ?_)); (conv => whnf)))
                          (refine xcall (T45) rfl rfl rfl (by repeat (first | exact trivial | refine ⟨rfl, ?_⟩)) ?_; (conv => whnf); repeat ((first | (refine cnd (by first | assumption | omega | decide) ?_) | (refine cnd0 ?_) | (refine Chk.mk (by kernel_rfl) ?_) | (refine xdraw_rule tabOK ?_) | (refine xdraw_rule (tabLOK _) ?_)); (conv => whnf)))
                          (refine Br.mk (fun q5 => ?_) (fun q5 => ?_) <;> ((conv => whnf); repeat ((first | (refine cnd (by first | assumption | omega | decide) ?_) | (refine cnd0 ?_) | (refine Chk.mk (by kernel_rfl) ?_) | (refine xdraw_rule tabOK ?_) | (refine xdraw_rule (tabLOK _) ?_)); (conv => whnf))))
                          · exact absurd q5 (by decide)
                          · exact rnd (j + 1) [0, 1, 2, 3, 4, 5] (hjl) (by omega) rfl rfl rfl (by repeat' (first | exact trivial | exact rfl | (refine And.intro ?_ ?_) | omega | exact hwj)) (by repeat' (first | exact trivial | exact rfl | (refine And.intro ?_ ?_) | omega | exact hwj))
                        · (repeat ((first | (refine cnd (by first | assumption | omega | decide) ?_) | (refine cnd0 ?_) | (refine Chk.mk (by kernel_rfl) ?_) | (refine xdraw_rule tabOK ?_) | (refine xdraw_rule (tabLOK _) ?_)); (conv => whnf)))
                          exact rnd (i + 1) [0, 1, 2, 3] (hil) (by omega) rfl rfl rfl (by repeat' (first | exact trivial | exact rfl | (refine And.intro ?_ ?_) | omega | first | exact hwi | exact hyl)) (by repeat' (first | exact trivial | exact rfl | (refine And.intro ?_ ?_) | omega | first | exact hwi | exact hyl))
          · have hil : i = L.length := by have := of_decide_eq_false k; omega
            have ha := G.all
            subst hil
            have b1 : decide ((dnL L L.length : Int) = zs.length) = true := decide_eq_true (by omega)
            exact xend [0, 1] (.v (bv true)) ([some (.view encFlt l), some (.view encSz zs)]) (rfl) rfl rfl rfl (by repeat' (first | exact trivial | exact rfl | (refine And.intro ?_ ?_) | omega | exact b1)) (by repeat' (first | exact trivial | exact rfl | (refine And.intro ?_ ?_) | omega | exact b1))
  · ((conv => whnf); repeat ((first | (refine cnd (by first | assumption | omega | decide) ?_) | (refine cnd0 ?_) | (refine Chk.mk (by kernel_rfl) ?_) | (refine xdraw_rule tabOK ?_) | (refine xdraw_rule (tabLOK _) ?_)); (conv => whnf)))
    (refine xcall (t23) rfl rfl rfl (by repeat (first | exact trivial | refine ⟨rfl, ?_⟩)) ?_; (conv => whnf); repeat ((first | (refine cnd (by first | assumption | omega | decide) ?_) | (refine cnd0 ?_) | (refine Chk.mk (by kernel_rfl) ?_) | (refine xdraw_rule tabOK ?_) | (refine xdraw_rule (tabLOK _) ?_)); (conv => whnf)))
    (refine Br.mk (fun c1 => ?_) (fun c1 => ?_) <;> ((conv => whnf); repeat ((first | (refine cnd (by first | assumption | omega | decide) ?_) | (refine cnd0 ?_) | (refine Chk.mk (by kernel_rfl) ?_) | (refine xdraw_rule tabOK ?_) | (refine xdraw_rule (tabLOK _) ?_)); (conv => whnf))))
    · exact absurd c1 (by decide)
    · (refine xcall (t23) rfl rfl rfl (by repeat (first | exact trivial | refine ⟨rfl, ?_⟩)) ?_; (conv => whnf); repeat ((first | (refine cnd (by first | assumption | omega | decide) ?_) | (refine cnd0 ?_) | (refine Chk.mk (by kernel_rfl) ?_) | (refine xdraw_rule tabOK ?_) | (refine xdraw_rule (tabLOK _) ?_)); (conv => whnf)))
      exact xend [0, 1] (.v (bv true)) ([some (.view encFlt l), some (.view encSz zs)]) (rfl) rfl rfl rfl (by repeat' (first | exact trivial | exact rfl | (refine And.intro ?_ ?_) | omega)) (by repeat' (first | exact trivial | exact rfl | (refine And.intro ?_ ?_) | omega))
end Go.Proofs.Ytcmedheeafiogaa

namespace Go.Proofs.Ytcmedheeafiogaa
open Go.Sy
set_option linter.unusedVariables false
set_option linter.unusedSimpArgs false
/-! Lines among floats, plainly. -/
theorem bL_ge {f : Flt} {z : Int} (hf : full f.box.l f.box.t f.box.r f.box.b = true) (hs : f.side = 1) (h1 : f.box.t ≤ z) (h2 : z < f.box.b) : ∀ fl : List Flt, f ∈ fl → f.box.r ≤ bL fl z := by
  refine fold_snoc (P := fun fl => f ∈ fl → f.box.r ≤ bL fl z) (fun h => by simp at h) (fun fl g ih h => ?_)
  unfold bL at ih ⊢
  rw [List.foldl_append, List.foldl_cons, List.foldl_nil]
  rcases List.mem_append.1 h with h | h
  · have := ih h
    split <;> omega
  · simp at h
    subst h
    rw [if_pos ⟨hf, hs, h1, h2⟩]
    omega
theorem bR_le {f : Flt} {z : Int} (hf : full f.box.l f.box.t f.box.r f.box.b = true) (hs : f.side = 2) (h1 : f.box.t ≤ z) (h2 : z < f.box.b) : ∀ fl : List Flt, f ∈ fl → bR fl z ≤ f.box.l := by
  refine fold_snoc (P := fun fl => f ∈ fl → bR fl z ≤ f.box.l) (fun h => by simp at h) (fun fl g ih h => ?_)
  unfold bR at ih ⊢
  rw [List.foldl_append, List.foldl_cons, List.foldl_nil]
  rcases List.mem_append.1 h with h | h
  · have := ih h
    split <;> omega
  · simp at h
    subst h
    rw [if_pos ⟨hf, hs, h1, h2⟩]
    omega
theorem no_meet {fl : List Flt} (h : FL fl) {c d t hh : Int} (hc : -140737488355328 ≤ c ∧ c ≤ 140737488355328) (hd : -140737488355328 ≤ d ∧ d ≤ 140737488355328) (ht : -140737488355328 ≤ t ∧ t ≤ 9007199254740992) (hh0 : 0 ≤ hh ∧ hh ≤ 2147483648)
    {f : Flt} (hf : f ∈ fl) (fr : (-140737488355328 ≤ f.box.l ∧ f.box.l ≤ 140737488355328) ∧ (-140737488355328 ≤ f.box.t ∧ f.box.t ≤ 140737488355328) ∧ (-140737488355328 ≤ f.box.r ∧ f.box.r ≤ 140737488355328) ∧ (-140737488355328 ≤ f.box.b ∧ f.box.b ≤ 140737488355328)) : meetB f.box (boxR fl c d t hh) = false := by
  obtain ⟨f1, f2, f3, f4⟩ := fr
  have e := rowE_eq (y := t) (h := hh) (by unfold far; omega) (by omega)
  have rng := bnd_rng h (y := t) (b := rowE t hh) (by unfold far; omega) (by rw [e]; omega) (by rw [e]; omega)
  cases hm : meetB f.box (boxR fl c d t hh) with
  | false => rfl
  | true =>
    exfalso
    unfold meetB cmn boxR lfA lfB at hm
    simp only [Bool.and_eq_true, decide_eq_true_eq] at hm
    unfold far at rng
    obtain ⟨m1, m2⟩ := hm
    rw [W_id (n := t + hh) (by omega) (by omega)] at m2
    rw [W_id (by omega) (by omega)] at m1 m2
    have hfull : full f.box.l f.box.t f.box.r f.box.b = true := by
      unfold full
      rw [W_id (by omega) (by omega), W_id (by omega) (by omega), decide_eq_true (by omega), decide_eq_true (by omega)]
      rfl
    have b1 := ((bnd_1 h (y := t) (b := rowE t hh) (by unfold far; omega) (by rw [e]; omega) (by rw [e]; omega) (bnd fl t (rowE t hh)).1).1 (Int.le_refl _)).2 (max f.box.t t) (by omega) (by rw [e]; omega)
    have b2 := ((bnd_2 h (y := t) (b := rowE t hh) (by unfold far; omega) (by rw [e]; omega) (by rw [e]; omega) (bnd fl t (rowE t hh)).2).1 (Int.le_refl _)).2 (max f.box.t t) (by omega) (by rw [e]; omega)
    rcases (h.ok.all f hf).side with hs | hs
    · have := bL_ge (z := max f.box.t t) hfull hs (by omega) (by omega) fl hf
      omega
    · have := bR_le (z := max f.box.t t) hfull hs (by omega) (by omega) fl hf
      omega
structure LA (fl : List Flt) (c d : Int) (zs : List Sz) (a : Nat) (u : Int) (m : Nat) (n : Ln) : Prop where
  bx : n.box = boxR fl c d n.box.t (hiS zs a n.atoms.toNat)
  ut : u ≤ n.box.t
  t1 : -140737488355328 ≤ n.box.t
  t2 : n.box.t ≤ 562949953421312 + 2147483648 * m
  wd : n.wide = wdS zs a n.atoms.toNat
  bg : IntKind.i64.wrap (n.box.r - n.box.l) < n.wide → n.atoms = 1 ∧ begW fl c d (zs.getD a encSz.d).w n.box.t (zs.getD a encSz.d).h = true
structure BI (fl : List Flt) (c d y : Int) (zs : List Sz) (s : BS) : Prop where
  oy : s.y = lnY s.out y s.out.length
  out : ∀ i, i < s.out.length → LA fl c d zs (dnL s.out i) (lnY s.out y i) i (s.out.getD i encLn.d)
  now : ∀ n, s.now = some n → LA fl c d zs (dnL s.out s.out.length) (lnY s.out y s.out.length) s.out.length n
theorem bi_step {fl : List Flt} (hF : FL fl) {c d y : Int} {zs : List Sz} (hz : zs.length ≤ 40) (hc : -140737488355328 ≤ c ∧ c ≤ 140737488355328) (hd : -140737488355328 ≤ d ∧ d ≤ 140737488355328) (hy : -140737488355328 ≤ y ∧ y ≤ 140737488355328) (hcd : c ≤ d) (hR : szR zs = true) :
    ∀ i, i ≤ zs.length → BI fl c d y zs (runS fl c d y (zs.take i))
  | 0, _ => ⟨rfl, fun i h => by simp [runS] at h, fun n h => by simp [runS] at h⟩
  | i + 1, hi => by
    have A := bi_step hF hz hc hd hy hcd hR i (by omega)
    have I := ri_step (y := y) (fl := fl) (c := c) (d := d) hz i (by omega)
    have hol := runS_out fl c d y zs i (by omega)
    rw [runS_snoc fl c d y zs i (by omega)]
    generalize runS fl c d y (zs.take i) = s at I A hol
    obtain ⟨⟨z1, z2⟩, z3, z4⟩ := szR_rng hR i (by omega)
    have hws : ∀ a k, a + k = i → wdS zs a (k + 1) = wdS zs a k + (zs.getD i encSz.d).w := fun a k e => by rw [wdS_succ (by omega), e]
    have hhs : ∀ a k, a + k = i → hiS zs a (k + 1) = max (hiS zs a k) (zs.getD i encSz.d).h := fun a k e => by rw [hiS_succ (by omega), e]
    have hok : szOk (zs.getD i encSz.d) = true := by
      have e : zs.getD i encSz.d = zs[i] := by simp [show i < zs.length from hi]
      rw [e]; exact List.all_eq_true.1 hR _ (List.getElem_mem hi)
    generalize hzz : zs.getD i encSz.d = z at *
    obtain ⟨sy, now, out⟩ := s
    have oy : sy = lnY out y out.length := A.oy
    have hout : ∀ i, i < out.length → LA fl c d zs (dnL out i) (lnY out y i) i (out.getD i encLn.d) := A.out
    have hol : out.length ≤ i := hol
    have beg : ∀ (a : Nat) (u : Int) (m : Nat), a = i → -140737488355328 ≤ u → u ≤ 562949953421312 + 2147483648 * m → m ≤ 40 → LA fl c d zs a u m (begL fl c d u z) := by
      intro a u m ea h1 h2 h3
      subst ea
      have F := fiL' (y := u) hF hc hd hcd (by unfold far; omega) hok
      have hge := F.ge
      have hmem : begY fl c d u z ∈ u :: tops (shOf fl) u := firstL_mem _ _ _
      have hle : begY fl c d u z ≤ 562949953421312 + 2147483648 * m := by
        rcases List.mem_cons.1 hmem with q | q
        · rw [q]; exact h2
        · obtain ⟨_, s, hs, e⟩ := tops_mem (shOf_wf hF.ok).sorted q
          have := top_le hF hs
          omega
      have e1 : hiS zs a 1 = z.h := by
        have := hhs a 0 rfl
        rw [this]; show max 0 z.h = z.h; omega
      have e2 : wdS zs a 1 = z.w := by
        have := hws a 0 rfl
        rw [this]; show 0 + z.w = z.w; omega
      refine ⟨?_, hge, Int.le_trans h1 hge, hle, e2.symm, fun hb => ⟨rfl, ?_⟩⟩
      · show boxR fl c d (begY fl c d u z) z.h = boxR fl c d (begY fl c d u z) (hiS zs a 1)
        rw [e1]
      · rw [hzz]
        have hyes := F.yes
        rw [← beg_rm] at hyes
        unfold begB at hyes
        rcases Bool.or_eq_true_iff.1 hyes with q | q
        · unfold begR at q
          have q := of_decide_eq_true q
          have hb : IntKind.i64.wrap (lfB fl d (begY fl c d u z) z.h - lfA fl c (begY fl c d u z) z.h) < z.w := hb
          omega
        · exact q
    cases now with
    | none =>
      obtain ⟨h0, h1⟩ := I.nn rfl
      have h1 : out = [] := h1
      subst h1
      have oy : sy = y := oy
      subst oy
      refine ⟨rfl, fun j h => absurd h (Nat.not_lt_zero _), fun n h => ?_⟩
      simp only [stepZ, Option.some.injEq] at h
      subst h
      exact beg 0 sy 0 h0.symm hy.1 (by omega) (by omega)
    | some n =>
      obtain ⟨a1, a2⟩ := I.now1 n rfl
      have ht : dnL out out.length + n.atoms.toNat = i := I.tot
      have N : LA fl c d zs (dnL out out.length) (lnY out y out.length) out.length n := A.now n rfl
      have hwr := wdS_rng hR (dnL out out.length) n.atoms.toNat (by omega)
      have hhr := hiS_rng hR (dnL out out.length) n.atoms.toNat (by omega)
      have ht1 := N.t1
      have ht2 := N.t2
      have hbb : n.box.b = n.box.t + hiS zs (dnL out out.length) n.atoms.toNat := by
        have := congrArg Rc.b N.bx
        rw [this]
        show IntKind.i64.wrap (n.box.t + hiS zs (dnL out out.length) n.atoms.toNat) = _
        rw [W_id (by omega) (by omega)]
      have eK : (n.atoms + 1).toNat = n.atoms.toNat + 1 := by omega
      have eH : addH n z.h = hiS zs (dnL out out.length) (n.atoms.toNat + 1) := by
        unfold addH
        rw [hhs _ _ ht, hbb, W_id (by omega) (by omega)]
        congr 1
        omega
      have eW : IntKind.i64.wrap (n.wide + z.w) = wdS zs (dnL out out.length) (n.atoms.toNat + 1) := by rw [hws _ _ ht, N.wd, W_id (by omega) (by omega)]
      have eT : IntKind.i64.wrap (n.atoms + 1) = n.atoms + 1 := W_id (by omega) (by omega)
      unfold stepZ
      cases hb : addB fl c d n z with
      | true =>
        simp only [hb, cond_true]
        refine ⟨oy, hout, fun m h => ?_⟩
        simp only [Option.some.injEq] at h
        subst h
        show LA fl c d zs (dnL out out.length) (lnY out y out.length) out.length (addN fl c d n z)
        refine ⟨?_, N.ut, ht1, ht2, ?_, fun hbig => ?_⟩
        · show boxR fl c d n.box.t (addH n z.h) = boxR fl c d n.box.t (hiS zs (dnL out out.length) (IntKind.i64.wrap (n.atoms + 1)).toNat)
          rw [eT, eK, eH]
        · show IntKind.i64.wrap (n.wide + z.w) = wdS zs (dnL out out.length) (IntKind.i64.wrap (n.atoms + 1)).toNat
          rw [eT, eK, eW]
        · exfalso
          unfold addB at hb
          simp only [Bool.not_eq_true', decide_eq_false_iff_not] at hb
          omega
      | false =>
        simp only [hb, cond_false]
        have e1 : (out ++ [n]).getD out.length encLn.d = n := by simp
        have e2 : lnY (out ++ [n]) y (out.length + 1) = n.box.b := by
          show ((out ++ [n]).getD out.length encLn.d).box.b = _
          rw [e1]
        refine ⟨?_, fun j h => ?_, fun m h => ?_⟩
        · show n.box.b = lnY (out ++ [n]) y (out ++ [n]).length
          rw [List.length_append, List.length_singleton, e2]
        · rw [List.length_append, List.length_singleton] at h
          show LA fl c d zs (dnL (out ++ [n]) j) (lnY (out ++ [n]) y j) j ((out ++ [n]).getD j encLn.d)
          rcases Nat.lt_or_ge j out.length with q | q
          · have e : (out ++ [n]).getD j encLn.d = out.getD j encLn.d := by simp [List.getElem?_append_left q]
            rw [e, dnL_app (Nat.le_of_lt q), lnY_app (Nat.le_of_lt q)]
            exact hout j q
          · have hj : j = out.length := by omega
            subst hj
            rw [e1, dnL_app (Nat.le_refl _), lnY_app (Nat.le_refl _)]
            exact N
        · simp only [Option.some.injEq] at h
          subst h
          show LA fl c d zs (dnL (out ++ [n]) (out ++ [n]).length) (lnY (out ++ [n]) y (out ++ [n]).length) (out ++ [n]).length (begL fl c d n.box.b z)
          rw [List.length_append, List.length_singleton, dnL_full, e2, ht]
          exact beg i n.box.b (out.length + 1) rfl (by omega) (by omega) (by omega)
theorem apL {l : List Flt} {c d y : Int} {zs : List Sz} (hb : bg13 l c d y = true) (hR : szR zs = true) (hz : zs.length ≤ 40) : ApL l c d y zs (allL l c d y zs) := by
  have hF := fl13 hb
  obtain ⟨hfr, hc, hd, hy, hcd⟩ := near13_ok (Bool.and_eq_true_iff.1 hb).2
  have A := bi_step hF hz hc hd hy hcd hR zs.length (Nat.le_refl _)
  have I := ri_step (y := y) (fl := l) (c := c) (d := d) hz zs.length (Nat.le_refl _)
  have G := grL (fl := l) (c := c) (d := d) (y := y) hz
  rw [List.take_length] at A I
  have key : ∀ L : List Ln, GrL l c d zs L → (∀ i, i < L.length → LA l c d zs (dnL L i) (lnY L y i) i (L.getD i encLn.d)) → ApL l c d y zs L := by
    intro L G hN
    have hh : ∀ i, i < L.length → dnL L i + (L.getD i encLn.d).atoms.toNat ≤ zs.length := fun i h => by
      have := dnL_succ (L := L) (i := i) h
      have := G.dn (i + 1) h
      omega
    refine ⟨G, fun a j h => wdS_rng hR a j h, fun i h => (hN i h).ut, fun i h => (hN i h).wd, fun i h => ?_, fun i h hbig => ?_, fun i h k hk => ?_⟩
    · have N := hN i h
      have hr := hiS_rng hR (dnL L i) (L.getD i encLn.d).atoms.toNat (hh i h)
      have h1 := N.t1
      have h2 := N.t2
      have h3 := G.len
      have hbb := congrArg Rc.b N.bx
      rw [hbb]
      show IntKind.i64.wrap (IntKind.i64.wrap ((L.getD i encLn.d).box.t + hiS zs (dnL L i) (L.getD i encLn.d).atoms.toNat) - (L.getD i encLn.d).box.t) = _
      rw [W_id (n := (L.getD i encLn.d).box.t + hiS zs (dnL L i) (L.getD i encLn.d).atoms.toNat) (by omega) (by omega), W_id (by omega) (by omega)]
      omega
    · have N := hN i h
      obtain ⟨b1, b2⟩ := N.bg hbig
      have hj : dnL L i < zs.length := by have := hh i h; omega
      have hs := szR_rng hR (dnL L i) hj
      have e1 : hiS zs (dnL L i) 1 = (zs.getD (dnL L i) encSz.d).h := by
        have := hiS_succ (zs := zs) (a := dnL L i) (j := 0) hj
        rw [this]
        show max 0 (zs.getD (dnL L i + 0) encSz.d).h = _
        rw [Nat.add_zero]
        omega
      have e2 : wdS zs (dnL L i) 1 = (zs.getD (dnL L i) encSz.d).w := by
        have := wdS_succ (zs := zs) (a := dnL L i) (j := 0) hj
        rw [this]
        show 0 + (zs.getD (dnL L i + 0) encSz.d).w = _
        rw [Nat.add_zero]
        omega
      have ek : (L.getD i encLn.d).atoms.toNat = 1 := by omega
      have hbx := N.bx
      rw [ek, e1] at hbx
      have hwd := N.wd
      rw [ek, e2] at hwd
      unfold begW at b2
      simp only [Bool.and_eq_true, decide_eq_true_eq, and_true] at b2
      obtain ⟨q1, q2, q3⟩ := b2
      refine ⟨?_, ?_, q1, hwd⟩
      · have := congrArg Rc.l hbx
        rw [this]
        show max c (bnd l (L.getD i encLn.d).box.t (rowE (L.getD i encLn.d).box.t (zs.getD (dnL L i) encSz.d).h)).1 = c
        omega
      · have := congrArg Rc.r hbx
        rw [this]
        show min d (bnd l (L.getD i encLn.d).box.t (rowE (L.getD i encLn.d).box.t (zs.getD (dnL L i) encSz.d).h)).2 = d
        omega
    · have N := hN i h
      have hr := hiS_rng hR (dnL L i) (L.getD i encLn.d).atoms.toNat (hh i h)
      have h1 := N.t1
      have h2 := N.t2
      have h3 := G.len
      have e : l.getD k encFlt.d = l[k] := by simp [hk]
      have hm : l.getD k encFlt.d ∈ l := by rw [e]; exact List.getElem_mem hk
      rw [N.bx]
      exact no_meet hF hc hd ⟨h1, by omega⟩ hr hm (hfr _ hm).2
  unfold allL at G ⊢
  generalize runS l c d y zs = s at A I G
  obtain ⟨sy, now, out⟩ := s
  cases now with
  | none =>
    obtain ⟨h0, h1⟩ := I.nn rfl
    have h1 : out = [] := h1
    subst h1
    exact key _ G (fun i h => absurd h (Nat.not_lt_zero _))
  | some n =>
    have G : GrL l c d zs (out ++ [n]) := G
    have N : LA l c d zs (dnL out out.length) (lnY out y out.length) out.length n := A.now n rfl
    have hout : ∀ i, i < out.length → LA l c d zs (dnL out i) (lnY out y i) i (out.getD i encLn.d) := A.out
    refine key (out ++ [n]) G (fun j h => ?_)
    rw [List.length_append, List.length_singleton] at h
    rcases Nat.lt_or_ge j out.length with q | q
    · have e : (out ++ [n]).getD j encLn.d = out.getD j encLn.d := by simp [List.getElem?_append_left q]
      rw [e, dnL_app (Nat.le_of_lt q), lnY_app (Nat.le_of_lt q)]
      exact hout j q
    · have hj : j = out.length := by omega
      subst hj
      have e1 : (out ++ [n]).getD out.length encLn.d = n := by simp
      rw [e1, dnL_app (Nat.le_refl _), lnY_app (Nat.le_refl _)]
      exact N
end Go.Proofs.Ytcmedheeafiogaa

namespace Go.Proofs.Ytcmedheeafiogaa
open Go.Sy
set_option linter.unusedVariables false
set_option linter.unusedSimpArgs false
open Go.ChangeShapes Go.WideShapes Go.RowKit
section
variable {H : Type} {enc : TypeId × Value → H} {P : Program}
theorem trodAll_five {w : World} {base : Nat} {spare : Nat → Bool} {held : Bool} {t t' t'' t3 t4 : TypeId} {args : Array Value} {ds : List (DataW H)} {ps : List MemPlace} (h : DataW.TrodAll enc P w base spare held [t, t', t'', t3, t4] args.toList ds ps) :
    ∃ v v' v'' v3 v4 d d' d'' d3 d4 p p' p'' p3 p4, args = #[v, v', v'', v3, v4] ∧ ds = [d, d', d'', d3, d4] ∧ DataW.Trod enc P w base spare held t v d p ∧ DataW.Trod enc P w base spare held t' v' d' p' ∧
      DataW.Trod enc P w base spare held t'' v'' d'' p'' ∧ DataW.Trod enc P w base spare held t3 v3 d3 p3 ∧ DataW.Trod enc P w base spare held t4 v4 d4 p4 := by
  obtain ⟨v, r1, d, s1, p, q1, e1, rfl, rfl, h1, k1⟩ := trodAll_cons h
  obtain ⟨v', r2, d', s2, p', q2, rfl, rfl, rfl, h2, k2⟩ := trodAll_cons k1
  obtain ⟨v'', r3, d'', s3, p'', q3, rfl, rfl, rfl, h3, k3⟩ := trodAll_cons k2
  obtain ⟨v3, r4, d3, s4, p3, q4, rfl, rfl, rfl, h4, k4⟩ := trodAll_cons k3
  obtain ⟨v4, r5, d4, s5, p4, q5, rfl, rfl, rfl, h5, k5⟩ := trodAll_cons k4
  obtain ⟨rfl, rfl, rfl⟩ := trodAll_nil k5
  exact ⟨v, v', v'', v3, v4, d, d', d'', d3, d4, p, p', p'', p3, p4, by rw [← Array.toList_inj]; exact e1, rfl, h1, h2, h3, h4, h5⟩
end
end Go.Proofs.Ytcmedheeafiogaa

namespace Go.Proofs.Ytcmedheeafiogaa
open Go.Sy
set_option linter.unusedVariables false
set_option linter.unusedSimpArgs false
open Go.ChangeShapes Go.WideShapes Go.RowKit
set_option maxRecDepth 100000 in
theorem lineApart_lifted (os : Os) (started : os.Started) (H : Type) (enc : TypeId × Value → H) :
    ReturnsInHanded {} Try.checked os 10 .any (Rows.lineApartSpec.pre6 enc Try.prog Try.f10 Rows.lineApartRow.domain false) (Rows.lineApartSpec.post enc Try.prog Try.f10 false true false false) := by
  refine returnsInHanded_of_change_sized (C := Try.checked) Try.own started (by kernel_rfl) Try.func10
    (ChangeSpec.witness6 (enc := enc) (C := Try.checked) false ⟨#[], #[.slice none 0 0, .int .i64 0, .int .i64 0, .int .i64 0, .slice none 0 0], []⟩ 8 (by kernel_rfl) (by kernel_rfl) (by kernel_rfl) (by kernel_rfl)) ?_
  intro w0 base args ds gs before hval0 hW0 _ hsz0 _
  have hval : ∀ (j : Nat) t v, Try.f10.params[j]? = some t → args[j]? = some v → Value.okWide Try.prog w0 .any base t v := hval0
  have hW : DataW.Whole enc Try.prog Try.f10.params.toList Rows.lineApartSpec.vars false w0 args.toList ds gs before := hW0
  have hsz : (DataW.weightsEach Try.prog (Try.f10.params.toList ++ Rows.lineApartSpec.plain.varTypes Try.prog) (ds ++ gs)).all (· ≤ reachBytes) = true := hsz0
  have hW' := hW
  obtain ⟨p, q, hA0, hV, _, _, _⟩ := hW
  have hA : DataW.TrodAll enc Try.prog w0 0 (fun _ => true) true Try.f10.params.toList args.toList ds p := hA0
  rw [Try.params10] at hA hval hsz
  obtain ⟨v0, v1, v2, v3, v4, d0, d1, d2, d3, d4, p0, p1, p2, p3, p4, rfl, rfl, h0, h1, h2, h3, h4⟩ := trodAll_five hA
  obtain ⟨rfl, _⟩ := trodVars_none hV
  obtain ⟨xs, pl, hs, hd⟩ := open_sl ieFlt Try.underlying22 ints108 cells108 (hval 0 22 v0 rfl rfl) h0
  obtain ⟨c, rfl, _⟩ := open_i Try.underlying3 (hval 1 3 v1 rfl rfl) h1
  obtain ⟨d, rfl, _⟩ := open_i Try.underlying3 (hval 2 3 v2 rfl rfl) h2
  obtain ⟨y, rfl, _⟩ := open_i Try.underlying3 (hval 3 3 v3 rfl rfl) h3
  obtain ⟨zs, pl2, hs2, hd2⟩ := open_sl ieSz Try.underlying38 ints48 cells48 (hval 4 38 v4 rfl rfl) h4
  have hlen : xs.length < 2 ^ 48 := by
    rcases hd with rfl | ⟨els, sp, rfl, h⟩
    · simp
    · exact len_of hsz (j := 0) rfl rfl Try.underlying22 bytes108 (by omega) h
  have hlen2 : zs.length < 2 ^ 48 := by
    rcases hd2 with rfl | ⟨els, sp, rfl, h⟩
    · simp
    · exact len_of hsz (j := 4) rfl rfl Try.underlying38 bytes48 (by omega) h
  have T := t10 (fun l c d y zs h1 h2 h3 => apL h1 h2 h3) xs hlen c d y zs hlen2
  refine law_post (P := Try.prog) (l := [(pl, some (.view encFlt xs)), (pl2, some (.view encSz zs))]) Try.laidOut hW' rfl (tb := 4) rfl Try.underlying4 (by kernel_rfl) ⟨rfl, rfl, rfl⟩ T ?_ ?_
  · intro ν hν
    rw [hs.1 ν 0 (hν 0 pl _ rfl), hs2.1 ν 1 (hν 1 pl2 _ rfl)]
    rfl
  · intro i p c hi ν' hν
    match i, hi with
    | 0, hi =>
      simp at hi
      obtain ⟨rfl, rfl⟩ := hi
      exact view_sat hs ν'
    | 1, hi =>
      simp at hi
      obtain ⟨rfl, rfl⟩ := hi
      exact view_sat hs2 ν'
    | i + 2, hi => simp at hi
theorem lineApart_holds : Rows.LineApartSaid :=
  OpenClaim.holds_of_wide 10 Try.f10 rfl rfl rfl rfl rfl rfl rfl ⟨rfl, rfl, rfl, rfl, rfl⟩ rfl rfl rfl rfl rfl (by kernel_rfl) Try.func10 (by kernel_rfl)
    (of_decide_eq_true (by kernel_rfl)) (by unfold Func.isWrapper; first | (rw [if_pos (by decide +kernel)]; kernel_rfl) | (rw [if_neg (by decide +kernel)]; exact ⟨rfl, rfl⟩))
    (fun os started H enc _ => lineApart_lifted os started H enc)
#print axioms lineApart_holds
end Go.Proofs.Ytcmedheeafiogaa
