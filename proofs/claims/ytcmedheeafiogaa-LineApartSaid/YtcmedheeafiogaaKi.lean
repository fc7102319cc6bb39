/-
  Contracts of lines (layer 13).
-/
import Derived.Test.YtcmedheeafiogaaKh
namespace Go.Proofs.Ytcmedheeafiogaa
open Go.Sy
set_option linter.unusedVariables false
set_option linter.unusedSimpArgs false
/-! Lines. -/
abbrev bC (k : Nat) (c d y : Int) (now : CV) : Option Chunk := some (.cells 123 [.ptr ⟨k, 0, 0, 0⟩, ci c, ci d, ci y, now])
abbrev lnL (n : Ln) : List CV := [ci n.box.l, ci n.box.t, ci n.box.r, ci n.box.b, ci n.atoms, ci n.wide]
abbrev lnC (n : Ln) : Option Chunk := some (.cells 46 (lnL n))
abbrev lnP (n : Ln) : PV := .agg (lnL n)
abbrev szP (z : Sz) : PV := .agg [ci z.w, ci z.h]
abbrev nP (h : Nat) : CV := .ptr ⟨h, 0, 0, 0⟩
-- line.New
theorem t30 (fl : List Flt) (c d y : Int) : Tri Try.prog 30 [pt 0, sp c d, iv y] [some (spC fl)] (fun x post => x = .v (pt 1) ∧ post = [some (spC fl), bC 0 c d y .nilp]) := by
  (refine tri_x tabOK Try.func30 rfl rfl Try.ntmps30 (by simp) fun C => ?_; (conv => whnf); repeat ((first | (refine cnd (by first | assumption | omega | decide) ?_) | (refine cnd0 ?_) | (refine Chk.mk (by kernel_rfl) ?_) | (refine xdraw_rule tabOK ?_) | (refine xdraw_rule (tabLOK _) ?_)); (conv => whnf)))
  exact xend [0, 7] _ _ ⟨rfl, rfl⟩ rfl rfl rfl (by repeat' (first | exact trivial | exact rfl | (refine And.intro ?_ ?_) | omega)) (by repeat' (first | exact trivial | exact rfl | (refine And.intro ?_ ?_) | omega))
-- Y
theorem t92a (fl : List Flt) (c d y : Int) : Tri Try.prog 92 [pt 0] [bC 1 c d y .nilp, some (spC fl)] (fun x post => x = .v (iv y) ∧ post = [bC 1 c d y .nilp, some (spC fl)]) := by
  (refine tri_x tabOK Try.func92 rfl rfl Try.ntmps92 (by simp) fun C => ?_; (conv => whnf); repeat ((first | (refine cnd (by first | assumption | omega | decide) ?_) | (refine cnd0 ?_) | (refine Chk.mk (by kernel_rfl) ?_) | (refine xdraw_rule tabOK ?_) | (refine xdraw_rule (tabLOK _) ?_)); (conv => whnf)))
  exact xend [0, 1] _ _ ⟨rfl, rfl⟩ rfl rfl rfl (by repeat' (first | exact trivial | exact rfl | (refine And.intro ?_ ?_) | omega)) (by repeat' (first | exact trivial | exact rfl | (refine And.intro ?_ ?_) | omega))
theorem t92b (fl : List Flt) (c d y : Int) (n : Ln) : Tri Try.prog 92 [pt 0] [bC 1 c d y (nP 2), some (spC fl), lnC n] (fun x post => x = .v (iv y) ∧ post = [bC 1 c d y (nP 2), some (spC fl), lnC n]) := by
  (refine tri_x tabOK Try.func92 rfl rfl Try.ntmps92 (by simp) fun C => ?_; (conv => whnf); repeat ((first | (refine cnd (by first | assumption | omega | decide) ?_) | (refine cnd0 ?_) | (refine Chk.mk (by kernel_rfl) ?_) | (refine xdraw_rule tabOK ?_) | (refine xdraw_rule (tabLOK _) ?_)); (conv => whnf)))
  exact xend [0, 1, 2] _ _ ⟨rfl, rfl⟩ rfl rfl rfl (by repeat' (first | exact trivial | exact rfl | (refine And.intro ?_ ?_) | omega)) (by repeat' (first | exact trivial | exact rfl | (refine And.intro ?_ ?_) | omega))
-- Now
theorem t32a (fl : List Flt) (c d y : Int) : Tri Try.prog 32 [pt 0] [bC 1 c d y .nilp, some (spC fl)] (fun x post => x = .tup [lnP ⟨⟨0, 0, 0, 0⟩, 0, 0⟩, bv false] ∧ post = [bC 1 c d y .nilp, some (spC fl)]) := by
  (refine tri_x tabOK Try.func32 rfl rfl Try.ntmps32 (by simp) fun C => ?_; (conv => whnf); repeat ((first | (refine cnd (by first | assumption | omega | decide) ?_) | (refine cnd0 ?_) | (refine Chk.mk (by kernel_rfl) ?_) | (refine xdraw_rule tabOK ?_) | (refine xdraw_rule (tabLOK _) ?_)); (conv => whnf)))
  exact xend [0, 1] _ _ ⟨rfl, rfl⟩ rfl rfl rfl (by repeat' (first | exact trivial | exact rfl | (refine And.intro ?_ ?_) | omega)) (by repeat' (first | exact trivial | exact rfl | (refine And.intro ?_ ?_) | omega))
theorem t32b (fl : List Flt) (c d y : Int) (n : Ln) : Tri Try.prog 32 [pt 0] [bC 1 c d y (nP 2), some (spC fl), lnC n] (fun x post => x = .tup [lnP n, bv true] ∧ post = [bC 1 c d y (nP 2), some (spC fl), lnC n]) := by
  (refine tri_x tabOK Try.func32 rfl rfl Try.ntmps32 (by simp) fun C => ?_; (conv => whnf); repeat ((first | (refine cnd (by first | assumption | omega | decide) ?_) | (refine cnd0 ?_) | (refine Chk.mk (by kernel_rfl) ?_) | (refine xdraw_rule tabOK ?_) | (refine xdraw_rule (tabLOK _) ?_)); (conv => whnf)))
  exact xend [0, 1, 2] _ _ ⟨rfl, rfl⟩ rfl rfl rfl (by repeat' (first | exact trivial | exact rfl | (refine And.intro ?_ ?_) | omega)) (by repeat' (first | exact trivial | exact rfl | (refine And.intro ?_ ?_) | omega))
/-- What is free of the columns, in the rows of something. -/
def lfA (fl : List Flt) (c y h : Int) : Int := max c (bnd fl y (rowE y h)).1
def lfB (fl : List Flt) (d y h : Int) : Int := min d (bnd fl y (rowE y h)).2
def boxR (fl : List Flt) (c d y h : Int) : Rc := ⟨lfA fl c y h, y, lfB fl d y h, IntKind.i64.wrap (y + h)⟩
-- box
theorem t68a (fl : List Flt) (ho : OKl fl) (c d y u h : Int) : Tri Try.prog 68 [pt 0, iv u, iv h] [bC 1 c d y .nilp, some (spC fl)] (fun x post => x = .v (rcP (boxR fl c d u h)) ∧ post = [bC 1 c d y .nilp, some (spC fl)]) := by
  (refine tri_x tabOK Try.func68 rfl rfl Try.ntmps68 (by simp) fun C => ?_; (conv => whnf); repeat ((first | (refine cnd (by first | assumption | omega | decide) ?_) | (refine cnd0 ?_) | (refine Chk.mk (by kernel_rfl) ?_) | (refine xdraw_rule tabOK ?_) | (refine xdraw_rule (tabLOK _) ?_)); (conv => whnf)))
  (refine dcallR (t28' u h) rfl fun hT_ => ?_; (conv => whnf); refine cnd hT_ (cnd rfl (cnd (by repeat (first | exact trivial | refine ⟨rfl, ?_⟩)) (cnd rfl (cnd0 ?_)))); clear hT_; (conv => whnf); repeat ((first | (refine cnd (by first | assumption | omega | decide) ?_) | (refine cnd0 ?_) | (refine Chk.mk (by kernel_rfl) ?_) | (refine xdraw_rule tabOK ?_) | (refine xdraw_rule (tabLOK _) ?_)); (conv => whnf)))
  (refine dcallR (t27 fl ho c d u (rowE u h)) rfl fun hT_ => ?_; (conv => whnf); refine cnd hT_ (cnd rfl (cnd (by repeat (first | exact trivial | refine ⟨rfl, ?_⟩)) (cnd rfl (cnd0 ?_)))); clear hT_; (conv => whnf); repeat ((first | (refine cnd (by first | assumption | omega | decide) ?_) | (refine cnd0 ?_) | (refine Chk.mk (by kernel_rfl) ?_) | (refine xdraw_rule tabOK ?_) | (refine xdraw_rule (tabLOK _) ?_)); (conv => whnf)))
  (refine xcall (t60 (lfA fl c u h) (lfB fl d u h) u (IntKind.i64.wrap (u + h))) rfl rfl rfl (by repeat (first | exact trivial | refine ⟨rfl, ?_⟩)) ?_; (conv => whnf); repeat ((first | (refine cnd (by first | assumption | omega | decide) ?_) | (refine cnd0 ?_) | (refine Chk.mk (by kernel_rfl) ?_) | (refine xdraw_rule tabOK ?_) | (refine xdraw_rule (tabLOK _) ?_)); (conv => whnf)))
  exact xend [0, 1] _ _ ⟨rfl, rfl⟩ rfl rfl rfl (by repeat' (first | exact trivial | exact rfl | (refine And.intro ?_ ?_) | omega)) (by repeat' (first | exact trivial | exact rfl | (refine And.intro ?_ ?_) | omega))
theorem t68b (fl : List Flt) (ho : OKl fl) (c d y u h : Int) (n : Ln) : Tri Try.prog 68 [pt 0, iv u, iv h] [bC 1 c d y (nP 2), some (spC fl), lnC n] (fun x post => x = .v (rcP (boxR fl c d u h)) ∧ post = [bC 1 c d y (nP 2), some (spC fl), lnC n]) := by
  (refine tri_x tabOK Try.func68 rfl rfl Try.ntmps68 (by simp) fun C => ?_; (conv => whnf); repeat ((first | (refine cnd (by first | assumption | omega | decide) ?_) | (refine cnd0 ?_) | (refine Chk.mk (by kernel_rfl) ?_) | (refine xdraw_rule tabOK ?_) | (refine xdraw_rule (tabLOK _) ?_)); (conv => whnf)))
  (refine dcallR (t28' u h) rfl fun hT_ => ?_; (conv => whnf); refine cnd hT_ (cnd rfl (cnd (by repeat (first | exact trivial | refine ⟨rfl, ?_⟩)) (cnd rfl (cnd0 ?_)))); clear hT_; (conv => whnf); repeat ((first | (refine cnd (by first | assumption | omega | decide) ?_) | (refine cnd0 ?_) | (refine Chk.mk (by kernel_rfl) ?_) | (refine xdraw_rule tabOK ?_) | (refine xdraw_rule (tabLOK _) ?_)); (conv => whnf)))
  (refine dcallR (t27 fl ho c d u (rowE u h)) rfl fun hT_ => ?_; (conv => whnf); refine cnd hT_ (cnd rfl (cnd (by repeat (first | exact trivial | refine ⟨rfl, ?_⟩)) (cnd rfl (cnd0 ?_)))); clear hT_; (conv => whnf); repeat ((first | (refine cnd (by first | assumption | omega | decide) ?_) | (refine cnd0 ?_) | (refine Chk.mk (by kernel_rfl) ?_) | (refine xdraw_rule tabOK ?_) | (refine xdraw_rule (tabLOK _) ?_)); (conv => whnf)))
  (refine xcall (t60 (lfA fl c u h) (lfB fl d u h) u (IntKind.i64.wrap (u + h))) rfl rfl rfl (by repeat (first | exact trivial | refine ⟨rfl, ?_⟩)) ?_; (conv => whnf); repeat ((first | (refine cnd (by first | assumption | omega | decide) ?_) | (refine cnd0 ?_) | (refine Chk.mk (by kernel_rfl) ?_) | (refine xdraw_rule tabOK ?_) | (refine xdraw_rule (tabLOK _) ?_)); (conv => whnf)))
  exact xend [0, 1, 2] _ _ ⟨rfl, rfl⟩ rfl rfl rfl (by repeat' (first | exact trivial | exact rfl | (refine And.intro ?_ ?_) | omega)) (by repeat' (first | exact trivial | exact rfl | (refine And.intro ?_ ?_) | omega))
/-- May a line begin there? -/
def begR (fl : List Flt) (c d w y h : Int) : Bool := decide (w ≤ IntKind.i64.wrap (lfB fl d y h - lfA fl c y h))
def begW (fl : List Flt) (c d w y h : Int) : Bool := decide (w > IntKind.i64.wrap (d - c)) && (decide (max (bnd fl y (rowE y h)).1 c = c) && (decide (min (bnd fl y (rowE y h)).2 d = d) && true))
def begB (fl : List Flt) (c d : Int) (z : Sz) (y : Int) : Bool := begR fl c d z.w y z.h || begW fl c d z.w y z.h
abbrev szC (z : Sz) : Option Chunk := some (.cells 57 [ci z.w, ci z.h])
-- begin$1
theorem t97 (fl : List Flt) (ho : OKl fl) (c d y : Int) (z : Sz) (u : Int) : Tri Try.prog 97 [iv u, pt 0, pt 1] [szC z, ptC 54 2, bC 3 c d y .nilp, some (spC fl)]
    (fun x post => x = .v (bv (begB fl c d z u)) ∧ post = [szC z, ptC 54 2, bC 3 c d y .nilp, some (spC fl)]) := by
  (refine tri_x tabOK Try.func97 rfl rfl Try.ntmps97 (by simp) fun C => ?_; (conv => whnf); repeat ((first | (refine cnd (by first | assumption | omega | decide) ?_) | (refine cnd0 ?_) | (refine Chk.mk (by kernel_rfl) ?_) | (refine xdraw_rule tabOK ?_) | (refine xdraw_rule (tabLOK _) ?_)); (conv => whnf)))
  (refine dcallR (t68a fl ho c d y u z.h) rfl fun hT_ => ?_; (conv => whnf); refine cnd hT_ (cnd rfl (cnd (by repeat (first | exact trivial | refine ⟨rfl, ?_⟩)) (cnd rfl (cnd0 ?_)))); clear hT_; (conv => whnf); repeat ((first | (refine cnd (by first | assumption | omega | decide) ?_) | (refine cnd0 ?_) | (refine Chk.mk (by kernel_rfl) ?_) | (refine xdraw_rule tabOK ?_) | (refine xdraw_rule (tabLOK _) ?_)); (conv => whnf)))
  (refine dcallR (t69 (lfA fl c u z.h) u (lfB fl d u z.h) (IntKind.i64.wrap (u + z.h))) rfl fun hT_ => ?_; (conv => whnf); refine cnd hT_ (cnd rfl (cnd (by repeat (first | exact trivial | refine ⟨rfl, ?_⟩)) (cnd rfl (cnd0 ?_)))); clear hT_; (conv => whnf); repeat ((first | (refine cnd (by first | assumption | omega | decide) ?_) | (refine cnd0 ?_) | (refine Chk.mk (by kernel_rfl) ?_) | (refine xdraw_rule tabOK ?_) | (refine xdraw_rule (tabLOK _) ?_)); (conv => whnf)))
  (refine dcallR (t29 (lfA fl c u z.h) (lfB fl d u z.h)) rfl fun hT_ => ?_; (conv => whnf); refine cnd hT_ (cnd rfl (cnd (by repeat (first | exact trivial | refine ⟨rfl, ?_⟩)) (cnd rfl (cnd0 ?_)))); clear hT_; (conv => whnf); repeat ((first | (refine cnd (by first | assumption | omega | decide) ?_) | (refine cnd0 ?_) | (refine Chk.mk (by kernel_rfl) ?_) | (refine xdraw_rule tabOK ?_) | (refine xdraw_rule (tabLOK _) ?_)); (conv => whnf)))
  (refine Br.mk (fun h1 => ?_) (fun h1 => ?_) <;> ((conv => whnf); repeat ((first | (refine cnd (by first | assumption | omega | decide) ?_) | (refine cnd0 ?_) | (refine Chk.mk (by kernel_rfl) ?_) | (refine xdraw_rule tabOK ?_) | (refine xdraw_rule (tabLOK _) ?_)); (conv => whnf))))
  · exact xend [0, 1, 2, 3] (.v (bv true)) (_) (⟨by unfold begB begR; rw [h1]; rfl, rfl⟩) rfl rfl rfl (by repeat' (first | exact trivial | exact rfl | (refine And.intro ?_ ?_) | omega)) (by repeat' (first | exact trivial | exact rfl | (refine And.intro ?_ ?_) | omega))
  · (repeat ((first | (refine cnd (by first | assumption | omega | decide) ?_) | (refine cnd0 ?_) | (refine Chk.mk (by kernel_rfl) ?_) | (refine xdraw_rule tabOK ?_) | (refine xdraw_rule (tabLOK _) ?_)); (conv => whnf)))
    (refine dcallR (t28' u z.h) rfl fun hT_ => ?_; (conv => whnf); refine cnd hT_ (cnd rfl (cnd (by repeat (first | exact trivial | refine ⟨rfl, ?_⟩)) (cnd rfl (cnd0 ?_)))); clear hT_; (conv => whnf); repeat ((first | (refine cnd (by first | assumption | omega | decide) ?_) | (refine cnd0 ?_) | (refine Chk.mk (by kernel_rfl) ?_) | (refine xdraw_rule tabOK ?_) | (refine xdraw_rule (tabLOK _) ?_)); (conv => whnf)))
    (refine dcallR (t34 fl ho u (rowE u z.h)) rfl fun hT_ => ?_; (conv => whnf); refine cnd hT_ (cnd rfl (cnd (by repeat (first | exact trivial | refine ⟨rfl, ?_⟩)) (cnd rfl (cnd0 ?_)))); clear hT_; (conv => whnf); repeat ((first | (refine cnd (by first | assumption | omega | decide) ?_) | (refine cnd0 ?_) | (refine Chk.mk (by kernel_rfl) ?_) | (refine xdraw_rule tabOK ?_) | (refine xdraw_rule (tabLOK _) ?_)); (conv => whnf)))
    (refine dcallR (t29 c d) rfl fun hT_ => ?_; (conv => whnf); refine cnd hT_ (cnd rfl (cnd (by repeat (first | exact trivial | refine ⟨rfl, ?_⟩)) (cnd rfl (cnd0 ?_)))); clear hT_; (conv => whnf); repeat ((first | (refine cnd (by first | assumption | omega | decide) ?_) | (refine cnd0 ?_) | (refine Chk.mk (by kernel_rfl) ?_) | (refine xdraw_rule tabOK ?_) | (refine xdraw_rule (tabLOK _) ?_)); (conv => whnf)))
    have e : begB fl c d z u = begW fl c d z.w u z.h := by unfold begB begR; rw [h1]; rfl
    (refine Br.mk (fun h2 => ?_) (fun h2 => ?_) <;> ((conv => whnf); repeat ((first | (refine cnd (by first | assumption | omega | decide) ?_) | (refine cnd0 ?_) | (refine Chk.mk (by kernel_rfl) ?_) | (refine xdraw_rule tabOK ?_) | (refine xdraw_rule (tabLOK _) ?_)); (conv => whnf))))
    · (repeat ((first | (refine cnd (by first | assumption | omega | decide) ?_) | (refine cnd0 ?_) | (refine Chk.mk (by kernel_rfl) ?_) | (refine xdraw_rule tabOK ?_) | (refine xdraw_rule (tabLOK _) ?_)); (conv => whnf)))
      (refine dcallR (t64 (bnd fl u (rowE u z.h)).1 (bnd fl u (rowE u z.h)).2 c d) rfl fun hT_ => ?_; (conv => whnf); refine cnd hT_ (cnd rfl (cnd (by repeat (first | exact trivial | refine ⟨rfl, ?_⟩)) (cnd rfl (cnd0 ?_)))); clear hT_; (conv => whnf); repeat ((first | (refine cnd (by first | assumption | omega | decide) ?_) | (refine cnd0 ?_) | (refine Chk.mk (by kernel_rfl) ?_) | (refine xdraw_rule tabOK ?_) | (refine xdraw_rule (tabLOK _) ?_)); (conv => whnf)))
      exact xend [0, 1, 2, 3] (.v (bv (decide (max (bnd fl u (rowE u z.h)).1 c = c) && (decide (min (bnd fl u (rowE u z.h)).2 d = d) && true)))) (_) (⟨by rw [e]; unfold begW; rw [h2]; rfl, rfl⟩) rfl rfl rfl (by repeat' (first | exact trivial | exact rfl | (refine And.intro ?_ ?_) | omega)) (by repeat' (first | exact trivial | exact rfl | (refine And.intro ?_ ?_) | omega))
    · (repeat ((first | (refine cnd (by first | assumption | omega | decide) ?_) | (refine cnd0 ?_) | (refine Chk.mk (by kernel_rfl) ?_) | (refine xdraw_rule tabOK ?_) | (refine xdraw_rule (tabLOK _) ?_)); (conv => whnf)))
      exact xend [0, 1, 2, 3] (.v (bv false)) (_) (⟨by rw [e]; unfold begW; rw [h2]; rfl, rfl⟩) rfl rfl rfl (by repeat' (first | exact trivial | exact rfl | (refine And.intro ?_ ?_) | omega)) (by repeat' (first | exact trivial | exact rfl | (refine And.intro ?_ ?_) | omega))
theorem t97o (fl : List Flt) (ho : OKl fl) (c d y : Int) (z : Sz) (u : Int) : Tri Try.prog 97 [iv u, pt 0, pt 1] [szC z, ptC 54 2, bC 3 c d y .nilp, some (spC fl)]
    (fun x post => x = .v (bv (begB fl c d z u)) ∧ post = [szC z, ptC 54 2, bC 3 c d y .nilp] ++ spO fl 4 5 6 0 ++ spT fl 6) := by
  refine tri_post (t97 fl ho c d y z u) ?_
  rintro r post ⟨rfl, rfl⟩
  have := hent_open (l := [szC z, ptC 54 2, bC 3 c d y .nilp, some (spC fl)]) 3 (c0 := (spO fl 1 2 3 0).head (by simp)) (rest := spT fl 3) rfl
  exact ⟨_, ⟨rfl, rfl⟩, this⟩
-- First, of begin
theorem t58b' (fl : List Flt) (ho : OKl fl) (c d y0 : Int) (z : Sz) (y : Int) : Tri Try.prog 58 [pt 0, iv y, .one (.fn 97 [⟨1, 0, 0, 0⟩, ⟨2, 0, 0, 0⟩])] [some (spC fl), szC z, ptC 54 3, bC 0 c d y0 .nilp]
    (fun x post => x = .v (iv (firstF (shOf fl) (begB fl c d z) y)) ∧ post = spO fl 4 5 6 0 ++ [szC z, ptC 54 3, bC 0 c d y0 .nilp] ++ spT fl 6) := by
  have hw := shOf_wf ho
  have hsn := shOf_len ho
  (refine tri_x tabOK Try.func58 rfl rfl Try.ntmps58 (by simp) fun C => ?_; (conv => whnf); repeat ((first | (refine cnd (by first | assumption | omega | decide) ?_) | (refine cnd0 ?_) | (refine Chk.mk (by kernel_rfl) ?_) | (refine xdraw_rule tabOK ?_) | (refine xdraw_rule (tabLOK _) ?_)); (conv => whnf)))
  refine xloop tabOK (fun x : Int => firstF (shOf fl) (begB fl c d z) x = firstF (shOf fl) (begB fl c d z) y) (fun x => [(0, .v (pt 0)), (1, .v (iv x)), (2, .v (.one (.fn 97 [⟨1, 0, 0, 0⟩, ⟨2, 0, 0, 0⟩])))]) (fun x => [some (spC fl), szC z, ptC 54 3, bC 0 c d y0 .nilp]) (fun x => (tops (shOf fl) x).length) (y) [0, 1, 2, 3] (rfl) rfl rfl rfl (by repeat' (first | exact trivial | exact rfl | (refine And.intro ?_ ?_) | omega)) (by repeat' (first | exact trivial | exact rfl | (refine And.intro ?_ ?_) | omega)) ?_
  intro v hz
  ((conv => whnf); repeat ((first | (refine cnd (by first | assumption | omega | decide) ?_) | (refine cnd0 ?_) | (refine Chk.mk (by kernel_rfl) ?_) | (refine xdraw_rule tabOK ?_) | (refine xdraw_rule (tabLOK _) ?_)); (conv => whnf)))
  (refine xcall (t97o fl ho c d y0 z v) rfl rfl rfl (by repeat (first | exact trivial | refine ⟨rfl, ?_⟩)) ?_; (conv => whnf); repeat ((first | (refine cnd (by first | assumption | omega | decide) ?_) | (refine cnd0 ?_) | (refine Chk.mk (by kernel_rfl) ?_) | (refine xdraw_rule tabOK ?_) | (refine xdraw_rule (tabLOK _) ?_)); (conv => whnf)))
  (refine Br.mk (fun h1 => ?_) (fun h1 => ?_) <;> ((conv => whnf); repeat ((first | (refine cnd (by first | assumption | omega | decide) ?_) | (refine cnd0 ?_) | (refine Chk.mk (by kernel_rfl) ?_) | (refine xdraw_rule tabOK ?_) | (refine xdraw_rule (tabLOK _) ?_)); (conv => whnf))))
  · have h1' : begB fl c d z v = false := by simpa using h1
    (refine xcall (t95 (shOf fl) hw.sorted (by omega) v) rfl rfl rfl (by repeat (first | exact trivial | refine ⟨rfl, ?_⟩)) ?_; (conv => whnf); repeat ((first | (refine cnd (by first | assumption | omega | decide) ?_) | (refine cnd0 ?_) | (refine Chk.mk (by kernel_rfl) ?_) | (refine xdraw_rule tabOK ?_) | (refine xdraw_rule (tabLOK _) ?_)); (conv => whnf)))
    (refine Br.mk (fun h2 => ?_) (fun h2 => ?_) <;> ((conv => whnf); repeat ((first | (refine cnd (by first | assumption | omega | decide) ?_) | (refine cnd0 ?_) | (refine Chk.mk (by kernel_rfl) ?_) | (refine xdraw_rule tabOK ?_) | (refine xdraw_rule (tabLOK _) ?_)); (conv => whnf))))
    · have h2' : aftB (shOf fl) v = false := by simpa using h2
      have e : firstF (shOf fl) (begB fl c d z) y = v := by rw [← hz]; exact firstF_end h2'
      exact xend [0, 1, 2, 3, 6, 7, 8] (.v (iv v)) (_) (⟨by rw [e], rfl⟩) rfl rfl rfl (by repeat' (first | exact trivial | exact rfl | (refine And.intro ?_ ?_) | omega)) (by repeat' (first | exact trivial | exact rfl | (refine And.intro ?_ ?_) | omega))
    · have h2' : aftB (shOf fl) v = true := by simpa using h2
      have htc := tops_cons hw.sorted v h2'
      have e : firstF (shOf fl) (begB fl c d z) (aft (shOf fl) v) = firstF (shOf fl) (begB fl c d z) y := by rw [← hz]; exact (firstF_next hw.sorted h1' h2').symm
      refine rndH (aft (shOf fl) v) [0, 1, 2, 3, 6, 7, 8] (spO fl 4 5 6 0 ++ [szC z, ptC 54 3, bC 0 c d y0 .nilp] ++ spT fl 6) _ [0, 1, 2, 3] e (by show (tops _ _).length < (tops _ _).length; rw [htc]; simp) rfl rfl rfl (by repeat' (first | exact trivial | exact rfl | (refine And.intro ?_ ?_) | omega)) (by repeat' (first | exact trivial | exact rfl | (refine And.intro ?_ ?_) | omega))
        (hent_close (m := spM fl) 0 [4, 5, 6] rfl rfl rfl (by repeat' (first | exact trivial | exact rfl | (refine And.intro ?_ ?_) | omega))) rfl rfl rfl (by repeat' (first | exact trivial | exact rfl | (refine And.intro ?_ ?_) | omega)) (by repeat' (first | exact trivial | exact rfl | (refine And.intro ?_ ?_) | omega))
  · have h1' : begB fl c d z v = true := by simpa using h1
    have e : firstF (shOf fl) (begB fl c d z) y = v := by rw [← hz]; exact firstF_stop h1'
    exact xend [0, 1, 2, 3, 6, 7, 8] (.v (iv v)) (_) (⟨by rw [e], rfl⟩) rfl rfl rfl (by repeat' (first | exact trivial | exact rfl | (refine And.intro ?_ ?_) | omega)) (by repeat' (first | exact trivial | exact rfl | (refine And.intro ?_ ?_) | omega))
theorem t58b (fl : List Flt) (ho : OKl fl) (c d y0 : Int) (z : Sz) (y : Int) : Tri Try.prog 58 [pt 0, iv y, .one (.fn 97 [⟨1, 0, 0, 0⟩, ⟨2, 0, 0, 0⟩])] [some (spC fl), szC z, ptC 54 3, bC 0 c d y0 .nilp]
    (fun x post => x = .v (iv (firstF (shOf fl) (begB fl c d z) y)) ∧ post = [some (spC fl), szC z, ptC 54 3, bC 0 c d y0 .nilp]) := by
  refine tri_conv (t58b' fl ho c d y0 z y) (HEnt.refl _) ?_
  rintro r post ⟨rfl, rfl⟩
  exact ⟨_, [0, 1, 2, 3], _, _, hent_close (m := spM fl) 0 [4, 5, 6] rfl rfl rfl (by repeat' (first | exact trivial | exact rfl | (refine And.intro ?_ ?_) | omega)), rfl, rfl, rfl, by repeat' (first | exact trivial | exact rfl | (refine And.intro ?_ ?_) | omega), fun _ => rfl, rfl, rfl⟩
/-- The line that begins with an atom. -/
def begY (fl : List Flt) (c d y : Int) (z : Sz) : Int := firstF (shOf fl) (begB fl c d z) y
def begL (fl : List Flt) (c d y : Int) (z : Sz) : Ln := ⟨boxR fl c d (begY fl c d y z) z.h, 1, z.w⟩
-- begin
theorem t66 (fl : List Flt) (ho : OKl fl) (c d y : Int) (z : Sz) : Tri Try.prog 66 [pt 0, szP z] [bC 1 c d y .nilp, some (spC fl)] (fun x post => x = .tup [] ∧ post = [bC 1 c d y (nP 2), some (spC fl), lnC (begL fl c d y z)]) := by
  (refine tri_x tabOK Try.func66 rfl rfl Try.ntmps66 (by simp) fun C => ?_; (conv => whnf); repeat ((first | (refine cnd (by first | assumption | omega | decide) ?_) | (refine cnd0 ?_) | (refine Chk.mk (by kernel_rfl) ?_) | (refine xdraw_rule tabOK ?_) | (refine xdraw_rule (tabLOK _) ?_)); (conv => whnf)))
  (refine dcall (t58b fl ho c d y z y) 0 rfl fun hT_ => ?_; (conv => whnf); refine cnd hT_ (cnd rfl (cnd (by repeat (first | exact trivial | refine ⟨rfl, ?_⟩)) (cnd rfl (cnd0 ?_)))); clear hT_; (conv => whnf); repeat ((first | (refine cnd (by first | assumption | omega | decide) ?_) | (refine cnd0 ?_) | (refine Chk.mk (by kernel_rfl) ?_) | (refine xdraw_rule tabOK ?_) | (refine xdraw_rule (tabLOK _) ?_)); (conv => whnf)))
  (refine dcallR (t68a fl ho c d y (begY fl c d y z) z.h) rfl fun hT_ => ?_; (conv => whnf); refine cnd hT_ (cnd rfl (cnd (by repeat (first | exact trivial | refine ⟨rfl, ?_⟩)) (cnd rfl (cnd0 ?_)))); clear hT_; (conv => whnf); repeat ((first | (refine cnd (by first | assumption | omega | decide) ?_) | (refine cnd0 ?_) | (refine Chk.mk (by kernel_rfl) ?_) | (refine xdraw_rule tabOK ?_) | (refine xdraw_rule (tabLOK _) ?_)); (conv => whnf)))
  exact xend [0, 1, 324] _ _ ⟨rfl, rfl⟩ rfl rfl rfl (by repeat' (first | exact trivial | exact rfl | (refine And.intro ?_ ?_) | omega)) (by repeat' (first | exact trivial | exact rfl | (refine And.intro ?_ ?_) | omega))
/-- The line with an atom more. -/
def addH (n : Ln) (h : Int) : Int := max (IntKind.i64.wrap (n.box.b - n.box.t)) h
def addN (fl : List Flt) (c d : Int) (n : Ln) (z : Sz) : Ln := ⟨boxR fl c d n.box.t (addH n z.h), IntKind.i64.wrap (n.atoms + 1), IntKind.i64.wrap (n.wide + z.w)⟩
def addB (fl : List Flt) (c d : Int) (n : Ln) (z : Sz) : Bool := !decide ((addN fl c d n z).wide > IntKind.i64.wrap ((addN fl c d n z).box.r - (addN fl c d n z).box.l))
-- Add
theorem t31a (fl : List Flt) (ho : OKl fl) (c d y : Int) (z : Sz) : Tri Try.prog 31 [pt 0, szP z] [bC 1 c d y .nilp, some (spC fl)] (fun x post => x = .v (bv true) ∧ post = [bC 1 c d y (nP 2), some (spC fl), lnC (begL fl c d y z)]) := by
  (refine tri_x tabOK Try.func31 rfl rfl Try.ntmps31 (by simp) fun C => ?_; (conv => whnf); repeat ((first | (refine cnd (by first | assumption | omega | decide) ?_) | (refine cnd0 ?_) | (refine Chk.mk (by kernel_rfl) ?_) | (refine xdraw_rule tabOK ?_) | (refine xdraw_rule (tabLOK _) ?_)); (conv => whnf)))
  (refine xcall (t66 fl ho c d y z) rfl rfl rfl (by repeat (first | exact trivial | refine ⟨rfl, ?_⟩)) ?_; (conv => whnf); repeat ((first | (refine cnd (by first | assumption | omega | decide) ?_) | (refine cnd0 ?_) | (refine Chk.mk (by kernel_rfl) ?_) | (refine xdraw_rule tabOK ?_) | (refine xdraw_rule (tabLOK _) ?_)); (conv => whnf)))
  exact xend [0, 1, 11] _ _ ⟨rfl, rfl⟩ rfl rfl rfl (by repeat' (first | exact trivial | exact rfl | (refine And.intro ?_ ?_) | omega)) (by repeat' (first | exact trivial | exact rfl | (refine And.intro ?_ ?_) | omega))
theorem t31b (fl : List Flt) (ho : OKl fl) (c d y : Int) (n : Ln) (z : Sz) : Tri Try.prog 31 [pt 0, szP z] [bC 1 c d y (nP 2), some (spC fl), lnC n]
    (fun x post => x = .v (bv (addB fl c d n z)) ∧ post = [bC 1 c d y (nP 2), some (spC fl), lnC (bif addB fl c d n z then addN fl c d n z else n)]) := by
  (refine tri_x tabOK Try.func31 rfl rfl Try.ntmps31 (by simp) fun C => ?_; (conv => whnf); repeat ((first | (refine cnd (by first | assumption | omega | decide) ?_) | (refine cnd0 ?_) | (refine Chk.mk (by kernel_rfl) ?_) | (refine xdraw_rule tabOK ?_) | (refine xdraw_rule (tabLOK _) ?_)); (conv => whnf)))
  (refine dcallR (t67 n.box.l n.box.t n.box.r n.box.b) rfl fun hT_ => ?_; (conv => whnf); refine cnd hT_ (cnd rfl (cnd (by repeat (first | exact trivial | refine ⟨rfl, ?_⟩)) (cnd rfl (cnd0 ?_)))); clear hT_; (conv => whnf); repeat ((first | (refine cnd (by first | assumption | omega | decide) ?_) | (refine cnd0 ?_) | (refine Chk.mk (by kernel_rfl) ?_) | (refine xdraw_rule tabOK ?_) | (refine xdraw_rule (tabLOK _) ?_)); (conv => whnf)))
  (refine dcallR (t29 n.box.t n.box.b) rfl fun hT_ => ?_; (conv => whnf); refine cnd hT_ (cnd rfl (cnd (by repeat (first | exact trivial | refine ⟨rfl, ?_⟩)) (cnd rfl (cnd0 ?_)))); clear hT_; (conv => whnf); repeat ((first | (refine cnd (by first | assumption | omega | decide) ?_) | (refine cnd0 ?_) | (refine Chk.mk (by kernel_rfl) ?_) | (refine xdraw_rule tabOK ?_) | (refine xdraw_rule (tabLOK _) ?_)); (conv => whnf)))
  (refine dcallR (t68b fl ho c d y n.box.t (addH n z.h) n) rfl fun hT_ => ?_; (conv => whnf); refine cnd hT_ (cnd rfl (cnd (by repeat (first | exact trivial | refine ⟨rfl, ?_⟩)) (cnd rfl (cnd0 ?_)))); clear hT_; (conv => whnf); repeat ((first | (refine cnd (by first | assumption | omega | decide) ?_) | (refine cnd0 ?_) | (refine Chk.mk (by kernel_rfl) ?_) | (refine xdraw_rule tabOK ?_) | (refine xdraw_rule (tabLOK _) ?_)); (conv => whnf)))
  (refine dcallR (t69 (addN fl c d n z).box.l (addN fl c d n z).box.t (addN fl c d n z).box.r (addN fl c d n z).box.b) rfl fun hT_ => ?_; (conv => whnf); refine cnd hT_ (cnd rfl (cnd (by repeat (first | exact trivial | refine ⟨rfl, ?_⟩)) (cnd rfl (cnd0 ?_)))); clear hT_; (conv => whnf); repeat ((first | (refine cnd (by first | assumption | omega | decide) ?_) | (refine cnd0 ?_) | (refine Chk.mk (by kernel_rfl) ?_) | (refine xdraw_rule tabOK ?_) | (refine xdraw_rule (tabLOK _) ?_)); (conv => whnf)))
  (refine dcallR (t29 (addN fl c d n z).box.l (addN fl c d n z).box.r) rfl fun hT_ => ?_; (conv => whnf); refine cnd hT_ (cnd rfl (cnd (by repeat (first | exact trivial | refine ⟨rfl, ?_⟩)) (cnd rfl (cnd0 ?_)))); clear hT_; (conv => whnf); repeat ((first | (refine cnd (by first | assumption | omega | decide) ?_) | (refine cnd0 ?_) | (refine Chk.mk (by kernel_rfl) ?_) | (refine xdraw_rule tabOK ?_) | (refine xdraw_rule (tabLOK _) ?_)); (conv => whnf)))
  (refine Br.mk (fun h1 => ?_) (fun h1 => ?_) <;> ((conv => whnf); repeat ((first | (refine cnd (by first | assumption | omega | decide) ?_) | (refine cnd0 ?_) | (refine Chk.mk (by kernel_rfl) ?_) | (refine xdraw_rule tabOK ?_) | (refine xdraw_rule (tabLOK _) ?_)); (conv => whnf))))
  · have e : addB fl c d n z = false := by unfold addB; rw [show decide ((addN fl c d n z).wide > IntKind.i64.wrap ((addN fl c d n z).box.r - (addN fl c d n z).box.l)) = true from h1]; rfl
    exact xend [0, 1, 2] (.v (bv false)) ([bC 1 c d y (nP 2), some (spC fl), lnC n]) (⟨by rw [e], by rw [e]; rfl⟩) rfl rfl rfl (by repeat' (first | exact trivial | exact rfl | (refine And.intro ?_ ?_) | omega)) (by repeat' (first | exact trivial | exact rfl | (refine And.intro ?_ ?_) | omega))
  · have e : addB fl c d n z = true := by unfold addB; rw [show decide ((addN fl c d n z).wide > IntKind.i64.wrap ((addN fl c d n z).box.r - (addN fl c d n z).box.l)) = false from h1]; rfl
    exact xend [0, 1, 2] (.v (bv true)) ([bC 1 c d y (nP 2), some (spC fl), lnC (addN fl c d n z)]) (⟨by rw [e], by rw [e]; rfl⟩) rfl rfl rfl (by repeat' (first | exact trivial | exact rfl | (refine And.intro ?_ ?_) | omega)) (by repeat' (first | exact trivial | exact rfl | (refine And.intro ?_ ?_) | omega))
-- End
theorem t63a (fl : List Flt) (c d y : Int) : Tri Try.prog 63 [pt 0] [bC 1 c d y .nilp, some (spC fl)] (fun x post => x = .tup [lnP ⟨⟨0, 0, 0, 0⟩, 0, 0⟩, bv false] ∧ post = [bC 1 c d y .nilp, some (spC fl)]) := by
  (refine tri_x tabOK Try.func63 rfl rfl Try.ntmps63 (by simp) fun C => ?_; (conv => whnf); repeat ((first | (refine cnd (by first | assumption | omega | decide) ?_) | (refine cnd0 ?_) | (refine Chk.mk (by kernel_rfl) ?_) | (refine xdraw_rule tabOK ?_) | (refine xdraw_rule (tabLOK _) ?_)); (conv => whnf)))
  (refine xcall (t32a fl c d y) rfl rfl rfl (by repeat (first | exact trivial | refine ⟨rfl, ?_⟩)) ?_; (conv => whnf); repeat ((first | (refine cnd (by first | assumption | omega | decide) ?_) | (refine cnd0 ?_) | (refine Chk.mk (by kernel_rfl) ?_) | (refine xdraw_rule tabOK ?_) | (refine xdraw_rule (tabLOK _) ?_)); (conv => whnf)))
  (refine Br.mk (fun h => ?_) (fun h => ?_) <;> ((conv => whnf); repeat ((first | (refine cnd (by first | assumption | omega | decide) ?_) | (refine cnd0 ?_) | (refine Chk.mk (by kernel_rfl) ?_) | (refine xdraw_rule tabOK ?_) | (refine xdraw_rule (tabLOK _) ?_)); (conv => whnf))))
  · exact absurd h (by decide)
  · exact xend [0, 1] _ _ ⟨rfl, rfl⟩ rfl rfl rfl (by repeat' (first | exact trivial | exact rfl | (refine And.intro ?_ ?_) | omega)) (by repeat' (first | exact trivial | exact rfl | (refine And.intro ?_ ?_) | omega))
theorem t63b (fl : List Flt) (c d y : Int) (n : Ln) : Tri Try.prog 63 [pt 0] [bC 1 c d y (nP 2), some (spC fl), lnC n] (fun x post => x = .tup [lnP n, bv true] ∧ post = [bC 1 c d n.box.b .nilp, some (spC fl), none]) := by
  (refine tri_x tabOK Try.func63 rfl rfl Try.ntmps63 (by simp) fun C => ?_; (conv => whnf); repeat ((first | (refine cnd (by first | assumption | omega | decide) ?_) | (refine cnd0 ?_) | (refine Chk.mk (by kernel_rfl) ?_) | (refine xdraw_rule tabOK ?_) | (refine xdraw_rule (tabLOK _) ?_)); (conv => whnf)))
  (refine xcall (t32b fl c d y n) rfl rfl rfl (by repeat (first | exact trivial | refine ⟨rfl, ?_⟩)) ?_; (conv => whnf); repeat ((first | (refine cnd (by first | assumption | omega | decide) ?_) | (refine cnd0 ?_) | (refine Chk.mk (by kernel_rfl) ?_) | (refine xdraw_rule tabOK ?_) | (refine xdraw_rule (tabLOK _) ?_)); (conv => whnf)))
  (refine Br.mk (fun h => ?_) (fun h => ?_) <;> ((conv => whnf); repeat ((first | (refine cnd (by first | assumption | omega | decide) ?_) | (refine cnd0 ?_) | (refine Chk.mk (by kernel_rfl) ?_) | (refine xdraw_rule tabOK ?_) | (refine xdraw_rule (tabLOK _) ?_)); (conv => whnf))))
  · exact xend [0, 1, 2] _ _ ⟨rfl, rfl⟩ rfl rfl rfl (by repeat' (first | exact trivial | exact rfl | (refine And.intro ?_ ?_) | omega)) (by repeat' (first | exact trivial | exact rfl | (refine And.intro ?_ ?_) | omega))
  · exact absurd h (by decide)
end Go.Proofs.Ytcmedheeafiogaa

namespace Go.Proofs.Ytcmedheeafiogaa
open Go.Sy
set_option linter.unusedVariables false
set_option linter.unusedSimpArgs false
/-! All lines. -/
structure BS where
  y : Int
  now : Option Ln
  out : List Ln
def stepZ (fl : List Flt) (c d : Int) (s : BS) (z : Sz) : BS := match s.now with
  | none => ⟨s.y, some (begL fl c d s.y z), s.out⟩
  | some n => bif addB fl c d n z then ⟨s.y, some (addN fl c d n z), s.out⟩ else ⟨n.box.b, some (begL fl c d n.box.b z), s.out ++ [n]⟩
def endS (s : BS) : List Ln := match s.now with
  | none => s.out
  | some n => s.out ++ [n]
def runS (fl : List Flt) (c d y : Int) (zs : List Sz) : BS := zs.foldl (stepZ fl c d) ⟨y, none, []⟩
def allL (fl : List Flt) (c d y : Int) (zs : List Sz) : List Ln := endS (runS fl c d y zs)
-- All$1
theorem t62a (fl : List Flt) (c d y : Int) (out : List Ln) : Tri Try.prog 62 [pt 0, pt 1] [ptC 54 2, some (.cells 41 [.slice 3 0 6 out.length]), bC 4 c d y .nilp, some (.rows 46 encLn out), some (spC fl)]
    (fun x post => x = .tup [] ∧ post = [ptC 54 2, some (.cells 41 [.slice 3 0 6 out.length]), bC 4 c d y .nilp, some (.rows 46 encLn out), some (spC fl)]) := by
  (refine tri_x tabOK Try.func62 rfl rfl Try.ntmps62 (by simp) fun C => ?_; (conv => whnf); repeat ((first | (refine cnd (by first | assumption | omega | decide) ?_) | (refine cnd0 ?_) | (refine Chk.mk (by kernel_rfl) ?_) | (refine xdraw_rule tabOK ?_) | (refine xdraw_rule (tabLOK _) ?_)); (conv => whnf)))
  (refine xcall (t63a fl c d y) rfl rfl rfl (by repeat (first | exact trivial | refine ⟨rfl, ?_⟩)) ?_; (conv => whnf); repeat ((first | (refine cnd (by first | assumption | omega | decide) ?_) | (refine cnd0 ?_) | (refine Chk.mk (by kernel_rfl) ?_) | (refine xdraw_rule tabOK ?_) | (refine xdraw_rule (tabLOK _) ?_)); (conv => whnf)))
  (refine Br.mk (fun h => ?_) (fun h => ?_) <;> ((conv => whnf); repeat ((first | (refine cnd (by first | assumption | omega | decide) ?_) | (refine cnd0 ?_) | (refine Chk.mk (by kernel_rfl) ?_) | (refine xdraw_rule tabOK ?_) | (refine xdraw_rule (tabLOK _) ?_)); (conv => whnf))))
  · exact absurd h (by decide)
  · exact xend [0, 1, 2, 3, 4] _ _ ⟨rfl, rfl⟩ rfl rfl rfl (by repeat' (first | exact trivial | exact rfl | (refine And.intro ?_ ?_) | omega)) (by repeat' (first | exact trivial | exact rfl | (refine And.intro ?_ ?_) | omega))
theorem t62b (fl : List Flt) (c d y : Int) (n : Ln) (out : List Ln) (hl : out.length < 2 ^ 40) : Tri Try.prog 62 [pt 0, pt 1] [ptC 54 2, some (.cells 41 [.slice 3 0 6 out.length]), bC 4 c d y (nP 5), some (.rows 46 encLn out), some (spC fl), lnC n]
    (fun x post => x = .tup [] ∧ post = [ptC 54 2, some (.cells 41 [.slice 6 0 6 (out.length + 1)]), bC 4 c d n.box.b .nilp, none, some (spC fl), none, some (.rows 46 encLn (out ++ [n]))]) := by
  (refine tri_x tabOK Try.func62 rfl rfl Try.ntmps62 (by simp) fun C => ?_; (conv => whnf); repeat ((first | (refine cnd (by first | assumption | omega | decide) ?_) | (refine cnd0 ?_) | (refine Chk.mk (by kernel_rfl) ?_) | (refine xdraw_rule tabOK ?_) | (refine xdraw_rule (tabLOK _) ?_)); (conv => whnf)))
  (refine xcall (t63b fl c d y n) rfl rfl rfl (by repeat (first | exact trivial | refine ⟨rfl, ?_⟩)) ?_; (conv => whnf); repeat ((first | (refine cnd (by first | assumption | omega | decide) ?_) | (refine cnd0 ?_) | (refine Chk.mk (by kernel_rfl) ?_) | (refine xdraw_rule tabOK ?_) | (refine xdraw_rule (tabLOK _) ?_)); (conv => whnf)))
  (refine Br.mk (fun h => ?_) (fun h => ?_) <;> ((conv => whnf); repeat ((first | (refine cnd (by first | assumption | omega | decide) ?_) | (refine cnd0 ?_) | (refine Chk.mk (by kernel_rfl) ?_) | (refine xdraw_rule tabOK ?_) | (refine xdraw_rule (tabLOK _) ?_)); (conv => whnf))))
  · (repeat ((first | (refine cnd (by first | assumption | omega | decide | (show (out.length + 1) * 48 ≤ 140737488355328; omega)) ?_) | (refine cnd0 ?_) | (refine Chk.mk (by kernel_rfl) ?_) | (refine xdraw_rule tabOK ?_) | (refine xdraw_rule (tabLOK _) ?_)); (conv => whnf)))
    exact xend [0, 1, 2, 3, 4, 5, 17] _ _ ⟨rfl, rfl⟩ rfl rfl rfl (by repeat' (first | exact trivial | exact rfl | (refine And.intro ?_ ?_) | omega)) (by repeat' (first | exact trivial | exact rfl | (refine And.intro ?_ ?_) | omega))
  · exact absurd h (by decide)
theorem runS_snoc (fl : List Flt) (c d y : Int) (zs : List Sz) (i : Nat) (h : i < zs.length) : runS fl c d y (zs.take (i + 1)) = stepZ fl c d (runS fl c d y (zs.take i)) (zs.getD i encSz.d) := by
  have : zs.getD i encSz.d = zs[i] := by simp [h]
  rw [this, List.take_succ_eq_append_getElem h]
  unfold runS
  rw [List.foldl_append]
  rfl
theorem runS_out (fl : List Flt) (c d y : Int) (zs : List Sz) : ∀ i, i ≤ zs.length → (runS fl c d y (zs.take i)).out.length ≤ i
  | 0, _ => by simp [runS]
  | i + 1, h => by
    have ih := runS_out fl c d y zs i (by omega)
    rw [runS_snoc fl c d y zs i (by omega)]
    unfold stepZ
    split
    · simp only; omega
    · rename_i n _
      cases addB fl c d n (zs.getD i encSz.d) with
      | true => simp only [cond_true]; omega
      | false => simp only [cond_false, List.length_append, List.length_singleton]; omega
def nowP : Option Ln → Nat → CV
  | none, _ => .nilp
  | some _, k => nP k
def nowL : Option Ln → List (Option Chunk)
  | none => []
  | some n => [lnC n]
-- All
theorem t25 (fl : List Flt) (ho : OKl fl) (c d y : Int) (zs : List Sz) (hz : zs.length < 2 ^ 39) : Tri Try.prog 25 [pt 0, sp c d, iv y, .one (.slice 1 0 2 zs.length)] [some (spC fl), some (.rows 57 encSz zs)]
    (fun x post => x = .v (.one (.slice 2 0 6 (allL fl c d y zs).length)) ∧ post = [some (spC fl), some (.rows 57 encSz zs), some (.rows 46 encLn (allL fl c d y zs))]) := by
  (refine tri_x tabOK Try.func25 rfl rfl Try.ntmps25 (by simp) fun C => ?_; (conv => whnf); repeat ((first | (refine cnd (by first | assumption | omega | decide) ?_) | (refine cnd0 ?_) | (refine Chk.mk (by kernel_rfl) ?_) | (refine xdraw_rule tabOK ?_) | (refine xdraw_rule (tabLOK _) ?_)); (conv => whnf)))
  (refine xcall (t30 fl c d y) rfl rfl rfl (by repeat (first | exact trivial | refine ⟨rfl, ?_⟩)) ?_; (conv => whnf); repeat ((first | (refine cnd (by first | assumption | omega | decide) ?_) | (refine cnd0 ?_) | (refine Chk.mk (by kernel_rfl) ?_) | (refine xdraw_rule tabOK ?_) | (refine xdraw_rule (tabLOK _) ?_)); (conv => whnf)))
  refine xloopH tabOK (fun x : Nat × BS => x.1 ≤ zs.length ∧ x.2 = runS fl c d y (zs.take x.1))
    (fun x => [(9, .v (pt 2)), (10, .v (pt 3)), (11, .v (.one (.fn 62 [⟨2, 0, 0, 0⟩, ⟨3, 0, 0, 0⟩]))), (19, .v (.one (.slice 1 0 2 zs.length))), (20, .v (iv zs.length)), (21, .v (iv x.1))])
    (fun x => [some (spC fl), some (.rows 57 encSz zs), ptC 54 4, some (.cells 41 [.slice 5 0 6 x.2.out.length]), bC 0 c d x.2.y (nowP x.2.now 6), some (.rows 46 encLn x.2.out)] ++ nowL x.2.now)
    (fun x => zs.length - x.1) (0, ⟨y, none, []⟩) [0, 1, 8, 10, 7] [some (spC fl), some (.rows 57 encSz zs), ptC 54 4, some (.cells 41 [.nils]), bC 0 c d y .nilp] _ [0, 1, 2, 3, 4, 5]
    [(9, .v (pt 2)), (10, .v (pt 3)), (11, .v (.one (.fn 62 [⟨2, 0, 0, 0⟩, ⟨3, 0, 0, 0⟩]))), (19, .v (.one (.slice 1 0 2 zs.length))), (20, .v (iv zs.length)), (21, .v (iv 0))]
    ⟨Nat.zero_le _, rfl⟩ rfl rfl rfl (by repeat' (first | exact trivial | exact rfl | (refine And.intro ?_ ?_) | omega)) (by repeat' (first | exact trivial | exact rfl | (refine And.intro ?_ ?_) | omega)) (hent_nil (l := [some (spC fl), some (.rows 57 encSz zs), ptC 54 4, some (.cells 41 [.nils]), bC 0 c d y .nilp]) 3 [] [] rfl 46 encLn) rfl rfl rfl (by repeat' (first | exact trivial | exact rfl | (refine And.intro ?_ ?_) | omega)) (by repeat' (first | exact trivial | exact rfl | (refine And.intro ?_ ?_) | omega)) ?_
  rintro ⟨i, ⟨sy, now, out⟩⟩ ⟨hi, hs⟩
  have hs : (⟨sy, now, out⟩ : BS) = runS fl c d y (zs.take i) := hs
  have hi : i ≤ zs.length := hi
  have hol : out.length ≤ i := by have := runS_out fl c d y zs i hi; rw [← hs] at this; exact this
  cases now with
  | none =>
    ((conv => whnf); repeat ((first | (refine cnd (by first | assumption | omega | decide) ?_) | (refine cnd0 ?_) | (refine Chk.mk (by kernel_rfl) ?_) | (refine xdraw_rule tabOK ?_) | (refine xdraw_rule (tabLOK _) ?_)); (conv => whnf)))
    (refine Br.mk (fun h1 => ?_) (fun h1 => ?_) <;> ((conv => whnf); repeat ((first | (refine cnd (by first | assumption | omega | decide) ?_) | (refine cnd0 ?_) | (refine Chk.mk (by kernel_rfl) ?_) | (refine xdraw_rule tabOK ?_) | (refine xdraw_rule (tabLOK _) ?_)); (conv => whnf))))
    · have hil : i < zs.length := by have := of_decide_eq_true h1; omega
      have hwi : IntKind.i64.wrap ((i : Int) + 1) = (i + 1 : Nat) := by rw [W_id (by omega) (by omega)]; rfl
      have hnx := runS_snoc fl c d y zs i hil
      rw [← hs] at hnx
      have hi0 : 0 + (i : Int).toNat = i := by omega
      (repeat ((first | (refine cnd (by first | assumption | omega | decide) ?_) | (refine cnd0 ?_) | (refine Chk.mk (by kernel_rfl) ?_) | (refine xdraw_rule tabOK ?_) | (refine xdraw_rule (tabLOK _) ?_)); (conv => whnf)))
      (refine xcall (t31a fl ho c d sy (zs.getD (0 + (i : Int).toNat) encSz.d)) rfl rfl rfl (by repeat (first | exact trivial | refine ⟨rfl, ?_⟩)) ?_; (conv => whnf); repeat ((first | (refine cnd (by first | assumption | omega | decide) ?_) | (refine cnd0 ?_) | (refine Chk.mk (by kernel_rfl) ?_) | (refine xdraw_rule tabOK ?_) | (refine xdraw_rule (tabLOK _) ?_)); (conv => whnf)))
      (refine Br.mk (fun h2 => ?_) (fun h2 => ?_) <;> ((conv => whnf); repeat ((first | (refine cnd (by first | assumption | omega | decide) ?_) | (refine cnd0 ?_) | (refine Chk.mk (by kernel_rfl) ?_) | (refine xdraw_rule tabOK ?_) | (refine xdraw_rule (tabLOK _) ?_)); (conv => whnf))))
      · exact absurd h2 (by decide)
      · exact rnd ((i + 1, ⟨sy, some (begL fl c d sy (zs.getD (0 + (i : Int).toNat) encSz.d)), out⟩)) [0, 1, 2, 3, 4, 5, 13] (⟨by show i + 1 ≤ _; omega, by show (_ : BS) = runS fl c d y (zs.take (i + 1)); rw [hnx, hi0]; rfl⟩) (by show zs.length - (i + 1) < zs.length - i; omega) rfl rfl rfl (by repeat' (first | exact trivial | exact rfl | (refine And.intro ?_ ?_) | omega | exact hwi)) (by repeat' (first | exact trivial | exact rfl | (refine And.intro ?_ ?_) | omega | exact hwi))
    · have hil : i = zs.length := by have := of_decide_eq_false h1; omega
      have e : allL fl c d y zs = out := by
        unfold allL
        rw [show zs = zs.take i by rw [hil, List.take_length], ← hs]; rfl
      (refine xcall (t62a fl c d sy out) rfl rfl rfl (by repeat (first | exact trivial | refine ⟨rfl, ?_⟩)) ?_; (conv => whnf); repeat ((first | (refine cnd (by first | assumption | omega | decide) ?_) | (refine cnd0 ?_) | (refine Chk.mk (by kernel_rfl) ?_) | (refine xdraw_rule tabOK ?_) | (refine xdraw_rule (tabLOK _) ?_)); (conv => whnf)))
      exact xend [0, 1, 5] (.v (.one (.slice 2 0 6 out.length))) ([some (spC fl), some (.rows 57 encSz zs), some (.rows 46 encLn out)]) (⟨by rw [e], by rw [e]⟩) rfl rfl rfl (by repeat' (first | exact trivial | exact rfl | (refine And.intro ?_ ?_) | omega)) (by repeat' (first | exact trivial | exact rfl | (refine And.intro ?_ ?_) | omega))
  | some n =>
    ((conv => whnf); repeat ((first | (refine cnd (by first | assumption | omega | decide) ?_) | (refine cnd0 ?_) | (refine Chk.mk (by kernel_rfl) ?_) | (refine xdraw_rule tabOK ?_) | (refine xdraw_rule (tabLOK _) ?_)); (conv => whnf)))
    (refine Br.mk (fun h1 => ?_) (fun h1 => ?_) <;> ((conv => whnf); repeat ((first | (refine cnd (by first | assumption | omega | decide) ?_) | (refine cnd0 ?_) | (refine Chk.mk (by kernel_rfl) ?_) | (refine xdraw_rule tabOK ?_) | (refine xdraw_rule (tabLOK _) ?_)); (conv => whnf))))
    · have hil : i < zs.length := by have := of_decide_eq_true h1; omega
      have hwi : IntKind.i64.wrap ((i : Int) + 1) = (i + 1 : Nat) := by rw [W_id (by omega) (by omega)]; rfl
      have hnx := runS_snoc fl c d y zs i hil
      rw [← hs] at hnx
      have hi0 : 0 + (i : Int).toNat = i := by omega
      (repeat ((first | (refine cnd (by first | assumption | omega | decide) ?_) | (refine cnd0 ?_) | (refine Chk.mk (by kernel_rfl) ?_) | (refine xdraw_rule tabOK ?_) | (refine xdraw_rule (tabLOK _) ?_)); (conv => whnf)))
      have T := t31b fl ho c d sy n (zs.getD (0 + (i : Int).toNat) encSz.d)
      cases h2' : addB fl c d n (zs.getD (0 + (i : Int).toNat) encSz.d) with
      | true =>
        have h2'' : addB fl c d n (zs.getD i encSz.d) = true := by rw [← h2', hi0]
        rw [h2'] at T
        (refine xcall (T) rfl rfl rfl (by repeat (first | exact trivial | refine ⟨rfl, ?_⟩)) ?_; (conv => whnf); repeat ((first | (refine cnd (by first | assumption | omega | decide) ?_) | (refine cnd0 ?_) | (refine Chk.mk (by kernel_rfl) ?_) | (refine xdraw_rule tabOK ?_) | (refine xdraw_rule (tabLOK _) ?_)); (conv => whnf)))
        (refine Br.mk (fun h2 => ?_) (fun h2 => ?_) <;> ((conv => whnf); repeat ((first | (refine cnd (by first | assumption | omega | decide) ?_) | (refine cnd0 ?_) | (refine Chk.mk (by kernel_rfl) ?_) | (refine xdraw_rule tabOK ?_) | (refine xdraw_rule (tabLOK _) ?_)); (conv => whnf))))
        · exact absurd h2 (by decide)
        · exact rnd ((i + 1, ⟨sy, some (addN fl c d n (zs.getD (0 + (i : Int).toNat) encSz.d)), out⟩)) [0, 1, 2, 3, 4, 5, 6] (⟨by show i + 1 ≤ _; omega, by show (_ : BS) = runS fl c d y (zs.take (i + 1)); rw [hnx, hi0]; unfold stepZ; simp only [h2'', cond_true]⟩) (by show zs.length - (i + 1) < zs.length - i; omega) rfl rfl rfl (by repeat' (first | exact trivial | exact rfl | (refine And.intro ?_ ?_) | omega | exact hwi)) (by repeat' (first | exact trivial | exact rfl | (refine And.intro ?_ ?_) | omega | exact hwi))
      | false =>
        have h2'' : addB fl c d n (zs.getD i encSz.d) = false := by rw [← h2', hi0]
        rw [h2'] at T
        (refine xcall (T) rfl rfl rfl (by repeat (first | exact trivial | refine ⟨rfl, ?_⟩)) ?_; (conv => whnf); repeat ((first | (refine cnd (by first | assumption | omega | decide) ?_) | (refine cnd0 ?_) | (refine Chk.mk (by kernel_rfl) ?_) | (refine xdraw_rule tabOK ?_) | (refine xdraw_rule (tabLOK _) ?_)); (conv => whnf)))
        (refine Br.mk (fun h2 => ?_) (fun h2 => ?_) <;> ((conv => whnf); repeat ((first | (refine cnd (by first | assumption | omega | decide) ?_) | (refine cnd0 ?_) | (refine Chk.mk (by kernel_rfl) ?_) | (refine xdraw_rule tabOK ?_) | (refine xdraw_rule (tabLOK _) ?_)); (conv => whnf))))
        · (refine xcall (t62b fl c d sy n out (by omega)) rfl rfl rfl (by repeat (first | exact trivial | refine ⟨rfl, ?_⟩)) ?_; (conv => whnf); repeat ((first | (refine cnd (by first | assumption | omega | decide) ?_) | (refine cnd0 ?_) | (refine Chk.mk (by kernel_rfl) ?_) | (refine xdraw_rule tabOK ?_) | (refine xdraw_rule (tabLOK _) ?_)); (conv => whnf)))
          (refine xcall (t31a fl ho c d n.box.b (zs.getD (0 + (i : Int).toNat) encSz.d)) rfl rfl rfl (by repeat (first | exact trivial | refine ⟨rfl, ?_⟩)) ?_; (conv => whnf); repeat ((first | (refine cnd (by first | assumption | omega | decide) ?_) | (refine cnd0 ?_) | (refine Chk.mk (by kernel_rfl) ?_) | (refine xdraw_rule tabOK ?_) | (refine xdraw_rule (tabLOK _) ?_)); (conv => whnf)))
          exact rnd ((i + 1, ⟨n.box.b, some (begL fl c d n.box.b (zs.getD (0 + (i : Int).toNat) encSz.d)), out ++ [n]⟩)) [0, 1, 2, 3, 4, 16, 19] (⟨by show i + 1 ≤ _; omega, by show (_ : BS) = runS fl c d y (zs.take (i + 1)); rw [hnx, hi0]; unfold stepZ; simp only [h2'', cond_false]⟩) (by show zs.length - (i + 1) < zs.length - i; omega) rfl rfl rfl (by repeat' (first | exact trivial | exact rfl | (refine And.intro ?_ ?_) | omega | first | exact hwi | (show out.length + 1 = (out ++ [n]).length; simp))) (by repeat' (first | exact trivial | exact rfl | (refine And.intro ?_ ?_) | omega | first | exact hwi | (show out.length + 1 = (out ++ [n]).length; simp)))
        · exact absurd h2 (by decide)
    · have hil : i = zs.length := by have := of_decide_eq_false h1; omega
      have e : allL fl c d y zs = out ++ [n] := by
        unfold allL
        rw [show zs = zs.take i by rw [hil, List.take_length], ← hs]; rfl
      (refine xcall (t62b fl c d sy n out (by omega)) rfl rfl rfl (by repeat (first | exact trivial | refine ⟨rfl, ?_⟩)) ?_; (conv => whnf); repeat ((first | (refine cnd (by first | assumption | omega | decide) ?_) | (refine cnd0 ?_) | (refine Chk.mk (by kernel_rfl) ?_) | (refine xdraw_rule tabOK ?_) | (refine xdraw_rule (tabLOK _) ?_)); (conv => whnf)))
      exact xend [0, 1, 9] (.v (.one (.slice 2 0 6 (out.length + 1)))) ([some (spC fl), some (.rows 57 encSz zs), some (.rows 46 encLn (out ++ [n]))]) (⟨by rw [e]; simp, by rw [e]⟩) rfl rfl rfl (by repeat' (first | exact trivial | exact rfl | (refine And.intro ?_ ?_) | omega)) (by repeat' (first | exact trivial | exact rfl | (refine And.intro ?_ ?_) | omega))
end Go.Proofs.Ytcmedheeafiogaa

namespace Go.Proofs.Ytcmedheeafiogaa
open Go.Sy
set_option linter.unusedVariables false
set_option linter.unusedSimpArgs false
def szOk (z : Sz) : Bool := !(decide (z.w < 0) || (decide (z.w > 2147483648) || (decide (z.h < 0) || decide (z.h > 2147483648))))
def szR (l : List Sz) : Bool := l.all szOk
theorem szR_f {l : List Sz} {x : Nat} (hx : x < l.length) (h : szOk (l.getD x encSz.d) = false) : szR l = false := by
  unfold szR
  rw [List.all_eq_false]
  refine ⟨l.getD x encSz.d, ?_, by rw [h]; decide⟩
  simp [hx]
theorem szR_t {l : List Sz} {x : Nat} (hx : x < l.length) (h : szR (l.take x) = true) (k : szOk (l.getD x encSz.d) = true) : szR (l.take (x + 1)) = true := by
  unfold szR at h ⊢
  rw [List.take_succ_eq_append_getElem hx, List.all_append, h]
  have : l.getD x encSz.d = l[x] := by simp [hx]
  rw [this] at k
  simp [k]
-- ref13.Right
theorem t24 (l : List Sz) (hl : l.length < 2 ^ 48) : Tri Try.prog 24 [.one (.slice 0 0 2 l.length)] [some (.view encSz l)] (fun x post => x = .v (bv (szR l)) ∧ post = [some (.view encSz l)]) := by
  (refine tri_x tabOK Try.func24 rfl rfl Try.ntmps24 (by simp) fun C => ?_; (conv => whnf); repeat ((first | (refine cnd (by first | assumption | omega | decide) ?_) | (refine cnd0 ?_) | (refine Chk.mk (by kernel_rfl) ?_) | (refine xdraw_rule tabOK ?_) | (refine xdraw_rule (tabLOK _) ?_)); (conv => whnf)))
  refine xloop tabOK (fun x : Nat => x ≤ l.length ∧ szR (l.take x) = true) (fun x => [(0, .v (.one (.slice 0 0 2 l.length))), (3, .v (iv x))]) (fun x => [some (.view encSz l)]) (fun x => l.length - x) (0) [0] (⟨by omega, rfl⟩) rfl rfl rfl (by repeat' (first | exact trivial | exact rfl | (refine And.intro ?_ ?_) | omega)) (by repeat' (first | exact trivial | exact rfl | (refine And.intro ?_ ?_) | omega)) ?_
  rintro x ⟨hx, hall⟩
  ((conv => whnf); repeat ((first | (refine cnd (by first | assumption | omega | decide) ?_) | (refine cnd0 ?_) | (refine Chk.mk (by kernel_rfl) ?_) | (refine xdraw_rule tabOK ?_) | (refine xdraw_rule (tabLOK _) ?_)); (conv => whnf)))
  (refine Br.mk (fun c => ?_) (fun c => ?_) <;> ((conv => whnf); repeat ((first | (refine cnd (by first | assumption | omega | decide) ?_) | (refine cnd0 ?_) | (refine Chk.mk (by kernel_rfl) ?_) | (refine xdraw_rule tabOK ?_) | (refine xdraw_rule (tabLOK _) ?_)); (conv => whnf))))
  · have hxl : x < l.length := by have := of_decide_eq_true c; omega
    have hx0 : 0 + (x : Int).toNat = x := by omega
    have hwx : IntKind.i64.wrap ((x : Int) + 1) = (x + 1 : Nat) := by rw [W_id (by omega) (by omega)]; rfl
    (repeat ((first | (refine cnd (by first | assumption | omega | decide) ?_) | (refine cnd0 ?_) | (refine Chk.mk (by kernel_rfl) ?_) | (refine xdraw_rule tabOK ?_) | (refine xdraw_rule (tabLOK _) ?_)); (conv => whnf)))
    have F : ∀ z : Sz, z = l.getD x encSz.d → szOk z = false → szR l = false := fun z e h => szR_f hxl (e ▸ h)
    (refine Br.mk (fun g1 => ?_) (fun g1 => ?_) <;> ((conv => whnf); repeat ((first | (refine cnd (by first | assumption | omega | decide) ?_) | (refine cnd0 ?_) | (refine Chk.mk (by kernel_rfl) ?_) | (refine xdraw_rule tabOK ?_) | (refine xdraw_rule (tabLOK _) ?_)); (conv => whnf))))
    · simp only [hx0] at g1
      exact xend [0] (.v (bv false)) (_) (⟨by rw [F _ rfl (by unfold szOk; rw [g1]; rfl)], rfl⟩) rfl rfl rfl (by repeat' (first | exact trivial | exact rfl | (refine And.intro ?_ ?_) | omega)) (by repeat' (first | exact trivial | exact rfl | (refine And.intro ?_ ?_) | omega))
    · (refine Br.mk (fun g2 => ?_) (fun g2 => ?_) <;> ((conv => whnf); repeat ((first | (refine cnd (by first | assumption | omega | decide) ?_) | (refine cnd0 ?_) | (refine Chk.mk (by kernel_rfl) ?_) | (refine xdraw_rule tabOK ?_) | (refine xdraw_rule (tabLOK _) ?_)); (conv => whnf))))
      · simp only [hx0] at g1 g2
        exact xend [0] (.v (bv false)) (_) (⟨by rw [F _ rfl (by unfold szOk; rw [g1, g2]; rfl)], rfl⟩) rfl rfl rfl (by repeat' (first | exact trivial | exact rfl | (refine And.intro ?_ ?_) | omega)) (by repeat' (first | exact trivial | exact rfl | (refine And.intro ?_ ?_) | omega))
      · (refine Br.mk (fun g3 => ?_) (fun g3 => ?_) <;> ((conv => whnf); repeat ((first | (refine cnd (by first | assumption | omega | decide) ?_) | (refine cnd0 ?_) | (refine Chk.mk (by kernel_rfl) ?_) | (refine xdraw_rule tabOK ?_) | (refine xdraw_rule (tabLOK _) ?_)); (conv => whnf))))
        · simp only [hx0] at g1 g2 g3
          exact xend [0] (.v (bv false)) (_) (⟨by rw [F _ rfl (by unfold szOk; rw [g1, g2, g3]; rfl)], rfl⟩) rfl rfl rfl (by repeat' (first | exact trivial | exact rfl | (refine And.intro ?_ ?_) | omega)) (by repeat' (first | exact trivial | exact rfl | (refine And.intro ?_ ?_) | omega))
        · (refine Br.mk (fun g4 => ?_) (fun g4 => ?_) <;> ((conv => whnf); repeat ((first | (refine cnd (by first | assumption | omega | decide) ?_) | (refine cnd0 ?_) | (refine Chk.mk (by kernel_rfl) ?_) | (refine xdraw_rule tabOK ?_) | (refine xdraw_rule (tabLOK _) ?_)); (conv => whnf))))
          · simp only [hx0] at g1 g2 g3 g4
            exact xend [0] (.v (bv false)) (_) (⟨by rw [F _ rfl (by unfold szOk; rw [g1, g2, g3, g4]; rfl)], rfl⟩) rfl rfl rfl (by repeat' (first | exact trivial | exact rfl | (refine And.intro ?_ ?_) | omega)) (by repeat' (first | exact trivial | exact rfl | (refine And.intro ?_ ?_) | omega))
          · simp only [hx0] at g1 g2 g3 g4
            exact rnd (x + 1) [0] (⟨by omega, szR_t hxl hall (by unfold szOk; rw [g1, g2, g3, g4]; rfl)⟩) (by omega) rfl rfl rfl (by repeat' (first | exact trivial | exact rfl | (refine And.intro ?_ ?_) | omega | exact hwx)) (by repeat' (first | exact trivial | exact rfl | (refine And.intro ?_ ?_) | omega | exact hwx))
  · have hx2 : x = l.length := by have := of_decide_eq_false c; omega
    have e : szR l = true := by rw [hx2, List.take_length] at hall; exact hall
    exact xend [0] (.v (bv true)) (_) (⟨by rw [e], rfl⟩) rfl rfl rfl (by repeat' (first | exact trivial | exact rfl | (refine And.intro ?_ ?_) | omega)) (by repeat' (first | exact trivial | exact rfl | (refine And.intro ?_ ?_) | omega))
-- law13.Of
theorem t26 (l : List Sz) (hl : l.length < 2 ^ 39) : Tri Try.prog 26 [.one (.slice 0 0 2 l.length)] [some (.view encSz l)] (fun x post => x = .v (.one (.slice 1 0 2 l.length)) ∧ post = [some (.view encSz l), some (.rows 57 encSz l)]) := by
  (refine tri_x tabOK Try.func26 rfl rfl Try.ntmps26 (by simp) fun C => ?_; (conv => whnf); repeat ((first | (refine cnd (by first | assumption | omega | decide) ?_) | (refine cnd0 ?_) | (refine Chk.mk (by kernel_rfl) ?_) | (refine xdraw_rule tabOK ?_) | (refine xdraw_rule (tabLOK _) ?_)); (conv => whnf)))
  refine loop_ghost 3 57 encSz rfl ?_
  refine xloop tabOK (fun x : Nat => x ≤ l.length) (fun x => [(3, .v (.one (.slice 1 0 2 x))), (6, .v (.one (.slice 0 0 2 l.length))), (7, .v (iv l.length)), (8, .v (iv x))]) (fun x => [some (.view encSz l), some (.rows 57 encSz (l.take x))]) (fun x => l.length - x) (0) [0, 6] (Nat.zero_le _) rfl rfl rfl (by repeat' (first | exact trivial | exact rfl | (refine And.intro ?_ ?_) | omega)) (by repeat' (first | exact trivial | exact rfl | (refine And.intro ?_ ?_) | omega)) ?_
  intro x hx
  ((conv => whnf); repeat ((first | (refine cnd (by first | assumption | omega | decide) ?_) | (refine cnd0 ?_) | (refine Chk.mk (by kernel_rfl) ?_) | (refine xdraw_rule tabOK ?_) | (refine xdraw_rule (tabLOK _) ?_)); (conv => whnf)))
  (refine Br.mk (fun c => ?_) (fun c => ?_) <;> ((conv => whnf); repeat ((first | (refine cnd (by first | assumption | omega | decide) ?_) | (refine cnd0 ?_) | (refine Chk.mk (by kernel_rfl) ?_) | (refine xdraw_rule tabOK ?_) | (refine xdraw_rule (tabLOK _) ?_)); (conv => whnf))))
  · have hxl : x < l.length := by have := of_decide_eq_true c; omega
    have hwx : IntKind.i64.wrap ((x : Int) + 1) = (x + 1 : Nat) := by rw [W_id (by omega) (by omega)]; rfl
    have hE : (l.getD (0 + (x : Int).toNat) encSz.d) = l[x] := by simp [hxl]
    have hT : l.take x ++ [⟨(l.getD (0 + (x : Int).toNat) encSz.d).w, (l.getD (0 + (x : Int).toNat) encSz.d).h⟩] = l.take (x + 1) := by
      rw [List.take_succ_eq_append_getElem hxl]
      show l.take x ++ [(l.getD (0 + (x : Int).toNat) encSz.d)] = _
      rw [hE]
    have hL : (l.take x).length = x := by rw [List.length_take]; omega
    (repeat ((first | (refine cnd (by first | assumption | omega | decide) ?_) | (refine cnd0 ?_) | (refine Chk.mk (by kernel_rfl) ?_) | (refine xdraw_rule tabOK ?_) | (refine xdraw_rule (tabLOK _) ?_)); (conv => whnf)))
    (repeat ((first | (refine cnd (by first | assumption | omega | decide | first | exact hL.symm | (show ((l.take x).length + 1) * 16 ≤ 140737488355328; omega)) ?_) | (refine cnd0 ?_) | (refine Chk.mk (by kernel_rfl) ?_) | (refine xdraw_rule tabOK ?_) | (refine xdraw_rule (tabLOK _) ?_)); (conv => whnf)))
    exact rnd (x + 1) [0, 10] (by omega) (by omega) rfl rfl rfl (by repeat' (first | exact trivial | exact rfl | (refine And.intro ?_ ?_) | omega | first | exact hwx | exact congrArg (fun z => z) hT | (rw [← hT]; exact rfl) | (show ((l.take x).length + 1 : Nat) = x + 1; omega))) (by repeat' (first | exact trivial | exact rfl | (refine And.intro ?_ ?_) | omega | first | exact hwx | exact congrArg (fun z => z) hT | (rw [← hT]; exact rfl) | (show ((l.take x).length + 1 : Nat) = x + 1; omega)))
  · have hx2 : x = l.length := by have := of_decide_eq_false c; omega
    have e : l.take x = l := by rw [hx2, List.take_length]
    exact xend [0, 1] (.v (.one (.slice 1 0 2 x))) ([some (.view encSz l), some (.rows 57 encSz (l.take x))]) (⟨by rw [hx2], by rw [e]⟩) rfl rfl rfl (by repeat' (first | exact trivial | exact rfl | (refine And.intro ?_ ?_) | omega)) (by repeat' (first | exact trivial | exact rfl | (refine And.intro ?_ ?_) | omega))
-- ref13.Near
def in47 (n : Int) : Bool := !(decide (n > 140737488355328) || decide (n < -140737488355328))
def sd13 (f : Flt) : Bool := decide (f.side = 1) || decide (f.side = 2)
def co13 (l : List Flt) : List Int := l.flatMap fun f => [f.box.l, f.box.t, f.box.r, f.box.b]
def al13 (l : List Flt) (c d y : Int) : List Int := [c, d, y] ++ co13 l
def near13 (l : List Flt) (c d y : Int) : Bool := l.all sd13 && ((al13 l c d y).all in47 && decide (d ≥ c))
theorem al13_snoc {l : List Flt} {x : Nat} (hx : x < l.length) (c d y : Int) : al13 (l.take x) c d y ++ [(l.getD x encFlt.d).box.l, (l.getD x encFlt.d).box.t, (l.getD x encFlt.d).box.r, (l.getD x encFlt.d).box.b] = al13 (l.take (x + 1)) c d y := by
  have : l.getD x encFlt.d = l[x] := by simp [hx]
  rw [this, List.take_succ_eq_append_getElem hx]
  simp only [al13, co13, List.flatMap_append, List.append_assoc, List.flatMap_cons, List.flatMap_nil, List.append_nil]
theorem al13_len (l : List Flt) (c d y : Int) : (al13 l c d y).length = 3 + 4 * l.length := by
  unfold al13 co13
  induction l with
  | nil => rfl
  | cons a t ih => simp at ih ⊢; omega
theorem sd13_f {l : List Flt} {x : Nat} (hx : x < l.length) {c d y : Int} (h : sd13 (l.getD x encFlt.d) = false) : near13 l c d y = false := by
  have : l.all sd13 = false := by
    rw [List.all_eq_false]
    refine ⟨l.getD x encFlt.d, by simp [hx], by rw [h]; decide⟩
  unfold near13
  rw [this]
  rfl
theorem sd13_t {l : List Flt} {x : Nat} (hx : x < l.length) (h : (l.take x).all sd13 = true) (k : sd13 (l.getD x encFlt.d) = true) : (l.take (x + 1)).all sd13 = true := by
  rw [List.take_succ_eq_append_getElem hx, List.all_append, h]
  have : l.getD x encFlt.d = l[x] := by simp [hx]
  rw [this] at k
  simp [k]
theorem in47_f (l : List Flt) (c d y : Int) {j : Nat} (hj : j < (al13 l c d y).length) (h : in47 ((al13 l c d y).getD j encInt.d) = false) : near13 l c d y = false := by
  have : (al13 l c d y).all in47 = false := by
    rw [List.all_eq_false]
    refine ⟨(al13 l c d y).getD j encInt.d, by simp [hj], by rw [h]; decide⟩
  unfold near13
  rw [this]
  simp
theorem in47_t {l : List Int} {j : Nat} (hj : j < l.length) (h : (l.take j).all in47 = true) (k : in47 (l.getD j encInt.d) = true) : (l.take (j + 1)).all in47 = true := by
  rw [List.take_succ_eq_append_getElem hj, List.all_append, h]
  have : l.getD j encInt.d = l[j] := by simp [hj]
  rw [this] at k
  simp [k]
theorem t61 (l : List Flt) (hl : l.length < 2 ^ 39) (c d y : Int) : Tri Try.prog 61 [.one (.slice 0 0 5 l.length), iv c, iv d, iv y] [some (.view encFlt l)] (fun x post => x = .v (bv (near13 l c d y)) ∧ post = [some (.view encFlt l)]) := by
  (refine tri_x (tabLOK fun n => Nat.beq n 3) Try.func61 rfl rfl Try.ntmps61 (by simp) fun C => ?_; (conv => whnf); repeat ((first | (refine cnd (by first | assumption | omega | decide) ?_) | (refine cnd0 ?_) | (refine Chk.mk (by kernel_rfl) ?_) | (refine xdraw_rule tabOK ?_) | (refine xdraw_rule (tabLOK _) ?_)); (conv => whnf)))
  refine xloop (tabLOK _) (fun x : Nat => x ≤ l.length ∧ (l.take x).all sd13 = true) (fun x => [(0, .v (.one (.slice 0 0 5 l.length))), (1, .v (iv c)), (2, .v (iv d)), (9, .v (.one (.slice 1 0 1 (3 + 4 * x)))), (10, .v (iv x))]) (fun x => [some (.view encFlt l), some (.rows 3 encInt (al13 (l.take x) c d y))]) (fun x => l.length - x) 0 [0, 5] ⟨Nat.zero_le _, rfl⟩ rfl rfl rfl (by repeat' (first | exact trivial | exact rfl | (refine And.intro ?_ ?_) | omega)) (by repeat' (first | exact trivial | exact rfl | (refine And.intro ?_ ?_) | omega)) ?_
  rintro x ⟨hx, hall⟩
  ((conv => whnf); repeat ((first | (refine cnd (by first | assumption | omega | decide) ?_) | (refine cnd0 ?_) | (refine Chk.mk (by kernel_rfl) ?_) | (refine xdraw_rule tabOK ?_) | (refine xdraw_rule (tabLOK _) ?_)); (conv => whnf)))
  (refine Br.mk (fun k => ?_) (fun k => ?_) <;> ((conv => whnf); repeat ((first | (refine cnd (by first | assumption | omega | decide) ?_) | (refine cnd0 ?_) | (refine Chk.mk (by kernel_rfl) ?_) | (refine xdraw_rule tabOK ?_) | (refine xdraw_rule (tabLOK _) ?_)); (conv => whnf))))
  · have hxl : x < l.length := by have := of_decide_eq_true k; omega
    have hx0 : 0 + (x : Int).toNat = x := by omega
    have hwx : IntKind.i64.wrap ((x : Int) + 1) = (x + 1 : Nat) := by rw [W_id (by omega) (by omega)]; rfl
    have hA := al13_len (l.take x) c d y
    have hL : (l.take x).length = x := by rw [List.length_take]; omega
    have hS := al13_snoc hxl c d y
    (repeat ((first | (refine cnd (by first | assumption | omega | decide) ?_) | (refine cnd0 ?_) | (refine Chk.mk (by kernel_rfl) ?_) | (refine xdraw_rule tabOK ?_) | (refine xdraw_rule (tabLOK _) ?_)); (conv => whnf)))
    (repeat ((first | (refine cnd (by first | assumption | omega | decide | (show ((al13 (l.take x) c d y).length + 4) * 8 ≤ 140737488355328; omega)) ?_) | (refine cnd0 ?_) | (refine Chk.mk (by kernel_rfl) ?_) | (refine xdraw_rule tabOK ?_) | (refine xdraw_rule (tabLOK _) ?_)); (conv => whnf)))
    (refine Br.mk (fun g1 => ?_) (fun g1 => ?_) <;> ((conv => whnf); repeat ((first | (refine cnd (by first | assumption | omega | decide) ?_) | (refine cnd0 ?_) | (refine Chk.mk (by kernel_rfl) ?_) | (refine xdraw_rule tabOK ?_) | (refine xdraw_rule (tabLOK _) ?_)); (conv => whnf))))
    · simp only [hx0] at g1
      (repeat ((first | (refine cnd (by first | assumption | omega | decide) ?_) | (refine cnd0 ?_) | (refine Chk.mk (by kernel_rfl) ?_) | (refine xdraw_rule tabOK ?_) | (refine xdraw_rule (tabLOK _) ?_)); (conv => whnf)))
      (refine Br.mk (fun g2 => ?_) (fun g2 => ?_) <;> ((conv => whnf); repeat ((first | (refine cnd (by first | assumption | omega | decide) ?_) | (refine cnd0 ?_) | (refine Chk.mk (by kernel_rfl) ?_) | (refine xdraw_rule tabOK ?_) | (refine xdraw_rule (tabLOK _) ?_)); (conv => whnf))))
      · simp only [hx0] at g2
        exact xend [0] (.v (bv false)) (_) (⟨by rw [sd13_f hxl (by simp at g1 g2; unfold sd13; simp [g1, g2])], rfl⟩) rfl rfl rfl (by repeat' (first | exact trivial | exact rfl | (refine And.intro ?_ ?_) | omega)) (by repeat' (first | exact trivial | exact rfl | (refine And.intro ?_ ?_) | omega))
      · simp only [hx0] at g2
        exact rnd (x + 1) [0, 422] (⟨by omega, sd13_t hxl hall (by simp at g2; unfold sd13; simp [g2])⟩) (by omega) rfl rfl rfl (by repeat' (first | exact trivial | exact rfl | (refine And.intro ?_ ?_) | omega | first | exact hwx | (simp only [hx0]; rw [← hS]; exact rfl) | (show ((al13 (l.take x) c d y).length + 4 : Nat) = 3 + 4 * (x + 1); omega))) (by repeat' (first | exact trivial | exact rfl | (refine And.intro ?_ ?_) | omega | first | exact hwx | (simp only [hx0]; rw [← hS]; exact rfl) | (show ((al13 (l.take x) c d y).length + 4 : Nat) = 3 + 4 * (x + 1); omega)))
    · simp only [hx0] at g1
      exact rnd (x + 1) [0, 422] (⟨by omega, sd13_t hxl hall (by simp at g1; unfold sd13; simp [g1])⟩) (by omega) rfl rfl rfl (by repeat' (first | exact trivial | exact rfl | (refine And.intro ?_ ?_) | omega | first | exact hwx | (simp only [hx0]; rw [← hS]; exact rfl) | (show ((al13 (l.take x) c d y).length + 4 : Nat) = 3 + 4 * (x + 1); omega))) (by repeat' (first | exact trivial | exact rfl | (refine And.intro ?_ ?_) | omega | first | exact hwx | (simp only [hx0]; rw [← hS]; exact rfl) | (show ((al13 (l.take x) c d y).length + 4 : Nat) = 3 + 4 * (x + 1); omega)))
  · have hx2 : x = l.length := by have := of_decide_eq_false k; omega
    rw [hx2, List.take_length] at hall
    have hA := al13_len l c d y
    subst hx2
    refine xloop (tabLOK _) (fun x : Nat => x ≤ 3 + 4 * l.length ∧ ((al13 l c d y).take x).all in47 = true) (fun x => [(1, .v (iv c)), (2, .v (iv d)), (9, .v (.one (.slice 1 0 1 (3 + 4 * l.length)))), (11, .v (iv x))]) (fun x => [some (.view encFlt l), some (.rows 3 encInt (al13 l c d y))]) (fun x => 3 + 4 * l.length - x) 0 [0, 1] ⟨Nat.zero_le _, rfl⟩ rfl rfl rfl (by repeat' (first | exact trivial | exact rfl | (refine And.intro ?_ ?_) | omega)) (by repeat' (first | exact trivial | exact rfl | (refine And.intro ?_ ?_) | omega | (rw [List.take_length]; exact rfl))) ?_
    rintro j ⟨hj, hall2⟩
    ((conv => whnf); repeat ((first | (refine cnd (by first | assumption | omega | decide) ?_) | (refine cnd0 ?_) | (refine Chk.mk (by kernel_rfl) ?_) | (refine xdraw_rule tabOK ?_) | (refine xdraw_rule (tabLOK _) ?_)); (conv => whnf)))
    (refine Br.mk (fun k2 => ?_) (fun k2 => ?_) <;> ((conv => whnf); repeat ((first | (refine cnd (by first | assumption | omega | decide) ?_) | (refine cnd0 ?_) | (refine Chk.mk (by kernel_rfl) ?_) | (refine xdraw_rule tabOK ?_) | (refine xdraw_rule (tabLOK _) ?_)); (conv => whnf))))
    · have hjl : j < 3 + 4 * l.length := by have := of_decide_eq_true k2; omega
      have hj0 : 0 + (j : Int).toNat = j := by omega
      have hwj : IntKind.i64.wrap ((j : Int) + 1) = (j + 1 : Nat) := by rw [W_id (by omega) (by omega)]; rfl
      (repeat ((first | (refine cnd (by first | assumption | omega | decide) ?_) | (refine cnd0 ?_) | (refine Chk.mk (by kernel_rfl) ?_) | (refine xdraw_rule tabOK ?_) | (refine xdraw_rule (tabLOK _) ?_)); (conv => whnf)))
      (refine Br.mk (fun g1 => ?_) (fun g1 => ?_) <;> ((conv => whnf); repeat ((first | (refine cnd (by first | assumption | omega | decide) ?_) | (refine cnd0 ?_) | (refine Chk.mk (by kernel_rfl) ?_) | (refine xdraw_rule tabOK ?_) | (refine xdraw_rule (tabLOK _) ?_)); (conv => whnf))))
      · simp only [hj0] at g1
        exact xend [0] (.v (bv false)) (_) (⟨by rw [in47_f l c d y (j := j) (by omega) (by unfold in47; rw [g1]; rfl)], rfl⟩) rfl rfl rfl (by repeat' (first | exact trivial | exact rfl | (refine And.intro ?_ ?_) | omega)) (by repeat' (first | exact trivial | exact rfl | (refine And.intro ?_ ?_) | omega))
      · simp only [hj0] at g1
        (repeat ((first | (refine cnd (by first | assumption | omega | decide) ?_) | (refine cnd0 ?_) | (refine Chk.mk (by kernel_rfl) ?_) | (refine xdraw_rule tabOK ?_) | (refine xdraw_rule (tabLOK _) ?_)); (conv => whnf)))
        (refine Br.mk (fun g2 => ?_) (fun g2 => ?_) <;> ((conv => whnf); repeat ((first | (refine cnd (by first | assumption | omega | decide) ?_) | (refine cnd0 ?_) | (refine Chk.mk (by kernel_rfl) ?_) | (refine xdraw_rule tabOK ?_) | (refine xdraw_rule (tabLOK _) ?_)); (conv => whnf))))
        · simp only [hj0] at g2
          exact xend [0] (.v (bv false)) (_) (⟨by rw [in47_f l c d y (j := j) (by omega) (by unfold in47; rw [g2]; simp)], rfl⟩) rfl rfl rfl (by repeat' (first | exact trivial | exact rfl | (refine And.intro ?_ ?_) | omega)) (by repeat' (first | exact trivial | exact rfl | (refine And.intro ?_ ?_) | omega))
        · simp only [hj0] at g2
          exact rnd (j + 1) [0, 1] (⟨by omega, in47_t (j := j) (by omega) hall2 (by unfold in47; rw [g1, g2]; rfl)⟩) (by omega) rfl rfl rfl (by repeat' (first | exact trivial | exact rfl | (refine And.intro ?_ ?_) | omega | exact hwj)) (by repeat' (first | exact trivial | exact rfl | (refine And.intro ?_ ?_) | omega | exact hwj))
    · have hj2 : j = 3 + 4 * l.length := by have := of_decide_eq_false k2; omega
      have e : (al13 l c d y).all in47 = true := by rw [hj2, ← hA, List.take_length] at hall2; exact hall2
      exact xend [0] (.v (bv (decide (d ≥ c)))) (_) (⟨by unfold near13; rw [hall, e]; rfl, rfl⟩) rfl rfl rfl (by repeat' (first | exact trivial | exact rfl | (refine And.intro ?_ ?_) | omega)) (by repeat' (first | exact trivial | exact rfl | (refine And.intro ?_ ?_) | omega))
end Go.Proofs.Ytcmedheeafiogaa

namespace Go.Proofs.Ytcmedheeafiogaa
open Go.Sy
set_option linter.unusedVariables false
set_option linter.unusedSimpArgs false
theorem in47_rng {n : Int} (h : in47 n = true) : -140737488355328 ≤ n ∧ n ≤ 140737488355328 := by
  simp [in47] at h; omega
theorem near13_ok {l : List Flt} {c d y : Int} (h : near13 l c d y = true) :
    (∀ f ∈ l, OKf f ∧ (-140737488355328 ≤ f.box.l ∧ f.box.l ≤ 140737488355328) ∧ (-140737488355328 ≤ f.box.t ∧ f.box.t ≤ 140737488355328) ∧ (-140737488355328 ≤ f.box.r ∧ f.box.r ≤ 140737488355328) ∧ (-140737488355328 ≤ f.box.b ∧ f.box.b ≤ 140737488355328)) ∧
    (-140737488355328 ≤ c ∧ c ≤ 140737488355328) ∧ (-140737488355328 ≤ d ∧ d ≤ 140737488355328) ∧ (-140737488355328 ≤ y ∧ y ≤ 140737488355328) ∧ c ≤ d := by
  unfold near13 at h
  obtain ⟨h1, h2⟩ := Bool.and_eq_true_iff.1 h
  obtain ⟨h2, h3⟩ := Bool.and_eq_true_iff.1 h2
  have h2 := List.all_eq_true.1 h2
  have h1 := List.all_eq_true.1 h1
  refine ⟨fun f hf => ?_, in47_rng (h2 c (by simp [al13])), in47_rng (h2 d (by simp [al13])), in47_rng (h2 y (by simp [al13])), of_decide_eq_true h3⟩
  have hm : ∀ v ∈ [f.box.l, f.box.t, f.box.r, f.box.b], in47 v = true := fun v hv => h2 v (by unfold al13 co13; exact List.mem_append.2 (.inr (List.mem_flatMap.2 ⟨f, hf, hv⟩)))
  have a1 := in47_rng (hm f.box.l (by simp))
  have a2 := in47_rng (hm f.box.t (by simp))
  have a3 := in47_rng (hm f.box.r (by simp))
  have a4 := in47_rng (hm f.box.b (by simp))
  have hs := h1 f hf
  refine ⟨⟨?_, ⟨by unfold far; omega, by unfold far; omega⟩, ⟨by unfold far; omega, by unfold far; omega⟩⟩, a1, a2, a3, a4⟩
  simp [sd13] at hs
  exact hs
def bg13 (l : List Flt) (c d y : Int) : Bool := decide ((l.length : Int) ≤ 20) && near13 l c d y
theorem bg13_ok {l : List Flt} {c d y : Int} (h : bg13 l c d y = true) : OKl l := by
  unfold bg13 at h
  obtain ⟨h1, h2⟩ := Bool.and_eq_true_iff.1 h
  have h1 := of_decide_eq_true h1
  exact ⟨fun f hf => ((near13_ok h2).1 f hf).1, by omega⟩
-- law13.begin
theorem t22 (l : List Flt) (hl : l.length < 2 ^ 48) (c d y : Int) : Tri Try.prog 22 [.one (.slice 0 0 5 l.length), iv c, iv d, iv y] [some (.view encFlt l)] (bgR l (bg13 l c d y)) := by
  (refine tri_x tabOK Try.func22 rfl rfl Try.ntmps22 (by simp) fun C => ?_; (conv => whnf); repeat ((first | (refine cnd (by first | assumption | omega | decide) ?_) | (refine cnd0 ?_) | (refine Chk.mk (by kernel_rfl) ?_) | (refine xdraw_rule tabOK ?_) | (refine xdraw_rule (tabLOK _) ?_)); (conv => whnf)))
  (refine Br.mk (fun h1 => ?_) (fun h1 => ?_) <;> ((conv => whnf); repeat ((first | (refine cnd (by first | assumption | omega | decide) ?_) | (refine cnd0 ?_) | (refine Chk.mk (by kernel_rfl) ?_) | (refine xdraw_rule tabOK ?_) | (refine xdraw_rule (tabLOK _) ?_)); (conv => whnf))))
  · have e : bg13 l c d y = false := by unfold bg13; simp at h1; simp; omega
    exact xend [0] (.v (.one .nilp)) (_) (.inr ⟨e, rfl, rfl⟩) rfl rfl rfl (by repeat' (first | exact trivial | exact rfl | (refine And.intro ?_ ?_) | omega)) (by repeat' (first | exact trivial | exact rfl | (refine And.intro ?_ ?_) | omega))
  · (refine xcall (t61 l (by simp at h1; omega) c d y) rfl rfl rfl (by repeat (first | exact trivial | refine ⟨rfl, ?_⟩)) ?_; (conv => whnf); repeat ((first | (refine cnd (by first | assumption | omega | decide) ?_) | (refine cnd0 ?_) | (refine Chk.mk (by kernel_rfl) ?_) | (refine xdraw_rule tabOK ?_) | (refine xdraw_rule (tabLOK _) ?_)); (conv => whnf)))
    (refine Br.mk (fun h2 => ?_) (fun h2 => ?_) <;> ((conv => whnf); repeat ((first | (refine cnd (by first | assumption | omega | decide) ?_) | (refine cnd0 ?_) | (refine Chk.mk (by kernel_rfl) ?_) | (refine xdraw_rule tabOK ?_) | (refine xdraw_rule (tabLOK _) ?_)); (conv => whnf))))
    · have e : bg13 l c d y = false := by unfold bg13; simp at h2; rw [h2]; simp
      exact xend [0] (.v (.one .nilp)) (_) (.inr ⟨e, rfl, rfl⟩) rfl rfl rfl (by repeat' (first | exact trivial | exact rfl | (refine And.intro ?_ ?_) | omega)) (by repeat' (first | exact trivial | exact rfl | (refine And.intro ?_ ?_) | omega))
    · have e : bg13 l c d y = true := by unfold bg13; simp at h1 h2; rw [h2]; simp; omega
      (refine xcall (t57 l (bg13_ok e)) rfl rfl rfl (by repeat (first | exact trivial | refine ⟨rfl, ?_⟩)) ?_; (conv => whnf); repeat ((first | (refine cnd (by first | assumption | omega | decide) ?_) | (refine cnd0 ?_) | (refine Chk.mk (by kernel_rfl) ?_) | (refine xdraw_rule tabOK ?_) | (refine xdraw_rule (tabLOK _) ?_)); (conv => whnf)))
      exact xend [0, 13] (.v (pt 1)) (_) (.inl ⟨e, rfl, rfl⟩) rfl rfl rfl (by repeat' (first | exact trivial | exact rfl | (refine And.intro ?_ ?_) | omega)) (by repeat' (first | exact trivial | exact rfl | (refine And.intro ?_ ?_) | omega))
-- law13.speaks
def sp13 : List Sz := [⟨4, 1⟩, ⟨4, 2⟩, ⟨4, 1⟩]
theorem sp13L : allL [] 0 10 0 sp13 = [⟨⟨0, 0, 10, 2⟩, 2, 8⟩, ⟨⟨0, 2, 10, 3⟩, 1, 4⟩] := by kernel_rfl
theorem t23 : Tri Try.prog 23 [] [] (fun x post => x = .v (bv true) ∧ post = []) := by
  have T := t25 [] okl0 0 10 0 sp13 (by decide)
  rw [sp13L] at T
  (refine tri_x (tabLOK fun n => Nat.beq n 3) Try.func23 rfl rfl Try.ntmps23 (by simp) fun C => ?_; (conv => whnf); repeat ((first | (refine cnd (by first | assumption | omega | decide) ?_) | (refine cnd0 ?_) | (refine Chk.mk (by kernel_rfl) ?_) | (refine xdraw_rule tabOK ?_) | (refine xdraw_rule (tabLOK _) ?_)); (conv => whnf)))
  (refine xcall (t42) rfl rfl rfl (by repeat (first | exact trivial | refine ⟨rfl, ?_⟩)) ?_; (conv => whnf); repeat ((first | (refine cnd (by first | assumption | omega | decide) ?_) | (refine cnd0 ?_) | (refine Chk.mk (by kernel_rfl) ?_) | (refine xdraw_rule tabOK ?_) | (refine xdraw_rule (tabLOK _) ?_)); (conv => whnf)))
  (refine xcall (t30 [] 0 0 0) rfl rfl rfl (by repeat (first | exact trivial | refine ⟨rfl, ?_⟩)) ?_; (conv => whnf); repeat ((first | (refine cnd (by first | assumption | omega | decide) ?_) | (refine cnd0 ?_) | (refine Chk.mk (by kernel_rfl) ?_) | (refine xdraw_rule tabOK ?_) | (refine xdraw_rule (tabLOK _) ?_)); (conv => whnf)))
  (refine xcall (T) rfl rfl rfl (by repeat (first | exact trivial | refine ⟨rfl, ?_⟩)) ?_; (conv => whnf); repeat ((first | (refine cnd (by first | assumption | omega | decide) ?_) | (refine cnd0 ?_) | (refine Chk.mk (by kernel_rfl) ?_) | (refine xdraw_rule tabOK ?_) | (refine xdraw_rule (tabLOK _) ?_)); (conv => whnf)))
  (refine Br.mk (fun h1 => ?_) (fun h1 => ?_) <;> ((conv => whnf); repeat ((first | (refine cnd (by first | assumption | omega | decide) ?_) | (refine cnd0 ?_) | (refine Chk.mk (by kernel_rfl) ?_) | (refine xdraw_rule tabOK ?_) | (refine xdraw_rule (tabLOK _) ?_)); (conv => whnf))))
  · (repeat ((first | (refine cnd (by first | assumption | omega | decide) ?_) | (refine cnd0 ?_) | (refine Chk.mk (by kernel_rfl) ?_) | (refine xdraw_rule tabOK ?_) | (refine xdraw_rule (tabLOK _) ?_)); (conv => whnf)))
    (refine Br.mk (fun h2 => ?_) (fun h2 => ?_) <;> ((conv => whnf); repeat ((first | (refine cnd (by first | assumption | omega | decide) ?_) | (refine cnd0 ?_) | (refine Chk.mk (by kernel_rfl) ?_) | (refine xdraw_rule tabOK ?_) | (refine xdraw_rule (tabLOK _) ?_)); (conv => whnf))))
    · (repeat ((first | (refine cnd (by first | assumption | omega | decide) ?_) | (refine cnd0 ?_) | (refine Chk.mk (by kernel_rfl) ?_) | (refine xdraw_rule tabOK ?_) | (refine xdraw_rule (tabLOK _) ?_)); (conv => whnf)))
      (refine Br.mk (fun h3 => ?_) (fun h3 => ?_) <;> ((conv => whnf); repeat ((first | (refine cnd (by first | assumption | omega | decide) ?_) | (refine cnd0 ?_) | (refine Chk.mk (by kernel_rfl) ?_) | (refine xdraw_rule tabOK ?_) | (refine xdraw_rule (tabLOK _) ?_)); (conv => whnf))))
      · exact xend [] _ _ ⟨rfl, rfl⟩ rfl rfl rfl (by repeat' (first | exact trivial | exact rfl | (refine And.intro ?_ ?_) | omega)) (by repeat' (first | exact trivial | exact rfl | (refine And.intro ?_ ?_) | omega))
      · exact absurd h3 (by decide)
    · exact absurd h2 (by decide)
  · exact absurd h1 (by decide)
end Go.Proofs.Ytcmedheeafiogaa
