/-
  Contracts of the shelves (layers 2 and 9).
-/
import Derived.Shelf.RegionOpenPlain
import Derived.WalkKit
import Derived.Lib.Walk
import Derived.Lib.SliceRun
import Derived.Lib.JoinLaws
import Derived.Lib.AppendZeros
import Derived.Lib.AppendZerosOnto
import Derived.Lib.Overlaps
import Derived.Laws.Externs
import Derived.Laws.IdiomCopy
import Derived.Deep.AppendSrc
import Derived.Test.YtcmedheeafiogaaKd
namespace Go.Proofs.Ytcmedheeafiogaa
open Go.Sy
abbrev sp (a b : Int) : PV := .agg [ci a, ci b]
abbrev rc (l t r b : Int) : PV := .agg [ci l, ci t, ci r, ci b]
abbrev iv (a : Int) : PV := .one (ci a)
abbrev bv (b : Bool) : PV := .one (.bool (.X b))

-- Len
theorem t29 (a b : Int) : Tri Try.prog 29 [sp a b] [] (fun r post => r = .v (iv (IntKind.i64.wrap (b - a))) ∧ post = []) := by
  (refine tri_x tabOK Try.func29 rfl rfl Try.ntmps29 (by simp) fun C => ?_; (conv => whnf); repeat ((first | (refine cnd (by first | assumption | omega | decide) ?_) | (refine cnd0 ?_) | (refine Chk.mk (by kernel_rfl) ?_) | (refine xdraw_rule tabOK ?_) | (refine xdraw_rule (tabLOK _) ?_)); (conv => whnf)))
  exact xend [] _ _ ⟨rfl, rfl⟩ rfl rfl rfl (by repeat' (first | exact trivial | exact rfl | (refine And.intro ?_ ?_) | omega)) (by repeat' (first | exact trivial | exact rfl | (refine And.intro ?_ ?_) | omega))
-- Clip
theorem t64 (a b c d : Int) : Tri Try.prog 64 [sp a b, sp c d] [] (fun r post => r = .v (sp (max a c) (min b d)) ∧ post = []) := by
  (refine tri_x tabOK Try.func64 rfl rfl Try.ntmps64 (by simp) fun C => ?_; (conv => whnf); repeat ((first | (refine cnd (by first | assumption | omega | decide) ?_) | (refine cnd0 ?_) | (refine Chk.mk (by kernel_rfl) ?_) | (refine xdraw_rule tabOK ?_) | (refine xdraw_rule (tabLOK _) ?_)); (conv => whnf)))
  exact xend [] _ _ ⟨rfl, rfl⟩ rfl rfl rfl (by repeat' (first | exact trivial | exact rfl | (refine And.intro ?_ ?_) | omega)) (by repeat' (first | exact trivial | exact rfl | (refine And.intro ?_ ?_) | omega))
-- Of
theorem t60 (a b c d : Int) : Tri Try.prog 60 [sp a b, sp c d] [] (fun r post => r = .v (rc a c b d) ∧ post = []) := by
  (refine tri_x tabOK Try.func60 rfl rfl Try.ntmps60 (by simp) fun C => ?_; (conv => whnf); repeat ((first | (refine cnd (by first | assumption | omega | decide) ?_) | (refine cnd0 ?_) | (refine Chk.mk (by kernel_rfl) ?_) | (refine xdraw_rule tabOK ?_) | (refine xdraw_rule (tabLOK _) ?_)); (conv => whnf)))
  exact xend [] _ _ ⟨rfl, rfl⟩ rfl rfl rfl (by repeat' (first | exact trivial | exact rfl | (refine And.intro ?_ ?_) | omega)) (by repeat' (first | exact trivial | exact rfl | (refine And.intro ?_ ?_) | omega))
-- Rows, Columns
theorem t67 (l t r b : Int) : Tri Try.prog 67 [rc l t r b] [] (fun x post => x = .v (sp t b) ∧ post = []) := by
  (refine tri_x tabOK Try.func67 rfl rfl Try.ntmps67 (by simp) fun C => ?_; (conv => whnf); repeat ((first | (refine cnd (by first | assumption | omega | decide) ?_) | (refine cnd0 ?_) | (refine Chk.mk (by kernel_rfl) ?_) | (refine xdraw_rule tabOK ?_) | (refine xdraw_rule (tabLOK _) ?_)); (conv => whnf)))
  exact xend [] _ _ ⟨rfl, rfl⟩ rfl rfl rfl (by repeat' (first | exact trivial | exact rfl | (refine And.intro ?_ ?_) | omega)) (by repeat' (first | exact trivial | exact rfl | (refine And.intro ?_ ?_) | omega))
theorem t69 (l t r b : Int) : Tri Try.prog 69 [rc l t r b] [] (fun x post => x = .v (sp l r) ∧ post = []) := by
  (refine tri_x tabOK Try.func69 rfl rfl Try.ntmps69 (by simp) fun C => ?_; (conv => whnf); repeat ((first | (refine cnd (by first | assumption | omega | decide) ?_) | (refine cnd0 ?_) | (refine Chk.mk (by kernel_rfl) ?_) | (refine xdraw_rule tabOK ?_) | (refine xdraw_rule (tabLOK _) ?_)); (conv => whnf)))
  exact xend [] _ _ ⟨rfl, rfl⟩ rfl rfl rfl (by repeat' (first | exact trivial | exact rfl | (refine And.intro ?_ ?_) | omega)) (by repeat' (first | exact trivial | exact rfl | (refine And.intro ?_ ?_) | omega))
-- isNaN
theorem t120 (a : Int) : Tri Try.prog 120 [iv a] [] (fun r post => r = .v (.one (.bool .F)) ∧ post = []) := by
  (refine tri_x tabOK Try.func120 rfl rfl Try.ntmps120 (by simp) fun C => ?_; (conv => whnf); repeat ((first | (refine cnd (by first | assumption | omega | decide) ?_) | (refine cnd0 ?_) | (refine Chk.mk (by kernel_rfl) ?_) | (refine xdraw_rule tabOK ?_) | (refine xdraw_rule (tabLOK _) ?_)); (conv => whnf)))
  exact xend [] _ _ ⟨rfl, rfl⟩ rfl rfl rfl (by repeat' (first | exact trivial | exact rfl | (refine And.intro ?_ ?_) | omega | exact (show (!decide (a = a)) = false by simp))) (by repeat' (first | exact trivial | exact rfl | (refine And.intro ?_ ?_) | omega | exact (show (!decide (a = a)) = false by simp)))

-- Full
theorem t83 (l t r b : Int) : Tri Try.prog 83 [rc l t r b] [] (fun x post => x = .v (bv (decide (0 < IntKind.i64.wrap (r - l)) && decide (0 < IntKind.i64.wrap (b - t)))) ∧ post = []) := by
  (refine tri_x tabOK Try.func83 rfl rfl Try.ntmps83 (by simp) fun C => ?_; (conv => whnf); repeat ((first | (refine cnd (by first | assumption | omega | decide) ?_) | (refine cnd0 ?_) | (refine Chk.mk (by kernel_rfl) ?_) | (refine xdraw_rule tabOK ?_) | (refine xdraw_rule (tabLOK _) ?_)); (conv => whnf)))
  (refine xcall (t69 l t r b) rfl rfl rfl (by repeat (first | exact trivial | refine ⟨rfl, ?_⟩)) ?_; (conv => whnf); repeat ((first | (refine cnd (by first | assumption | omega | decide) ?_) | (refine cnd0 ?_) | (refine Chk.mk (by kernel_rfl) ?_) | (refine xdraw_rule tabOK ?_) | (refine xdraw_rule (tabLOK _) ?_)); (conv => whnf)))
  (refine xcall (t29 l r) rfl rfl rfl (by repeat (first | exact trivial | refine ⟨rfl, ?_⟩)) ?_; (conv => whnf); repeat ((first | (refine cnd (by first | assumption | omega | decide) ?_) | (refine cnd0 ?_) | (refine Chk.mk (by kernel_rfl) ?_) | (refine xdraw_rule tabOK ?_) | (refine xdraw_rule (tabLOK _) ?_)); (conv => whnf)))
  (refine Br.mk (fun h1 => ?_) (fun h1 => ?_) <;> ((conv => whnf); repeat ((first | (refine cnd (by first | assumption | omega | decide) ?_) | (refine cnd0 ?_) | (refine Chk.mk (by kernel_rfl) ?_) | (refine xdraw_rule tabOK ?_) | (refine xdraw_rule (tabLOK _) ?_)); (conv => whnf))))
  · (refine xcall (t67 l t r b) rfl rfl rfl (by repeat (first | exact trivial | refine ⟨rfl, ?_⟩)) ?_; (conv => whnf); repeat ((first | (refine cnd (by first | assumption | omega | decide) ?_) | (refine cnd0 ?_) | (refine Chk.mk (by kernel_rfl) ?_) | (refine xdraw_rule tabOK ?_) | (refine xdraw_rule (tabLOK _) ?_)); (conv => whnf)))
    (refine xcall (t29 t b) rfl rfl rfl (by repeat (first | exact trivial | refine ⟨rfl, ?_⟩)) ?_; (conv => whnf); repeat ((first | (refine cnd (by first | assumption | omega | decide) ?_) | (refine cnd0 ?_) | (refine Chk.mk (by kernel_rfl) ?_) | (refine xdraw_rule tabOK ?_) | (refine xdraw_rule (tabLOK _) ?_)); (conv => whnf)))
    exact xend [] _ _ ⟨rfl, rfl⟩ rfl rfl rfl (by repeat' (first | exact trivial | exact rfl | (refine And.intro ?_ ?_) | omega | exact (show _ = (decide (IntKind.i64.wrap (r - l) > 0) && _) by rw [h1]; rfl))) (by repeat' (first | exact trivial | exact rfl | (refine And.intro ?_ ?_) | omega | exact (show _ = (decide (IntKind.i64.wrap (r - l) > 0) && _) by rw [h1]; rfl)))
  · exact xend [] _ _ ⟨rfl, rfl⟩ rfl rfl rfl (by repeat' (first | exact trivial | exact rfl | (refine And.intro ?_ ?_) | omega | exact (show _ = (decide (IntKind.i64.wrap (r - l) > 0) && _) by rw [h1]; rfl))) (by repeat' (first | exact trivial | exact rfl | (refine And.intro ?_ ?_) | omega | exact (show _ = (decide (IntKind.i64.wrap (r - l) > 0) && _) by rw [h1]; rfl)))
def icmp (a b : Int) : Int := if a < b then -1 else if b < a then 1 else 0
-- cmp.Compare
theorem t113 (a b : Int) : Tri Try.prog 113 [iv a, iv b] [] (fun x post => x = .v (iv (icmp a b)) ∧ post = []) := by
  (refine tri_x tabOK Try.func113 rfl rfl Try.ntmps113 (by simp) fun C => ?_; (conv => whnf); repeat ((first | (refine cnd (by first | assumption | omega | decide) ?_) | (refine cnd0 ?_) | (refine Chk.mk (by kernel_rfl) ?_) | (refine xdraw_rule tabOK ?_) | (refine xdraw_rule (tabLOK _) ?_)); (conv => whnf)))
  (refine xcall (t120 a) rfl rfl rfl (by repeat (first | exact trivial | refine ⟨rfl, ?_⟩)) ?_; (conv => whnf); repeat ((first | (refine cnd (by first | assumption | omega | decide) ?_) | (refine cnd0 ?_) | (refine Chk.mk (by kernel_rfl) ?_) | (refine xdraw_rule tabOK ?_) | (refine xdraw_rule (tabLOK _) ?_)); (conv => whnf)))
  (refine xcall (t120 b) rfl rfl rfl (by repeat (first | exact trivial | refine ⟨rfl, ?_⟩)) ?_; (conv => whnf); repeat ((first | (refine cnd (by first | assumption | omega | decide) ?_) | (refine cnd0 ?_) | (refine Chk.mk (by kernel_rfl) ?_) | (refine xdraw_rule tabOK ?_) | (refine xdraw_rule (tabLOK _) ?_)); (conv => whnf)))
  (refine Br.mk (fun h1 => ?_) (fun h1 => ?_) <;> ((conv => whnf); repeat ((first | (refine cnd (by first | assumption | omega | decide) ?_) | (refine cnd0 ?_) | (refine Chk.mk (by kernel_rfl) ?_) | (refine xdraw_rule tabOK ?_) | (refine xdraw_rule (tabLOK _) ?_)); (conv => whnf))))
  · exact xend [] _ _ ⟨rfl, rfl⟩ rfl rfl rfl (by repeat' (first | exact trivial | exact rfl | (refine And.intro ?_ ?_) | omega | exact (show -1 = icmp a b by unfold icmp; simp at h1; simp [h1]))) (by repeat' (first | exact trivial | exact rfl | (refine And.intro ?_ ?_) | omega | exact (show -1 = icmp a b by unfold icmp; simp at h1; simp [h1])))
  · (refine Br.mk (fun h2 => ?_) (fun h2 => ?_) <;> ((conv => whnf); repeat ((first | (refine cnd (by first | assumption | omega | decide) ?_) | (refine cnd0 ?_) | (refine Chk.mk (by kernel_rfl) ?_) | (refine xdraw_rule tabOK ?_) | (refine xdraw_rule (tabLOK _) ?_)); (conv => whnf))))
    · exact xend [] _ _ ⟨rfl, rfl⟩ rfl rfl rfl (by repeat' (first | exact trivial | exact rfl | (refine And.intro ?_ ?_) | omega | exact (show 1 = icmp a b by unfold icmp; simp at h1 h2; simp [h2]; omega))) (by repeat' (first | exact trivial | exact rfl | (refine And.intro ?_ ?_) | omega | exact (show 1 = icmp a b by unfold icmp; simp at h1 h2; simp [h2]; omega)))
    · exact xend [] _ _ ⟨rfl, rfl⟩ rfl rfl rfl (by repeat' (first | exact trivial | exact rfl | (refine And.intro ?_ ?_) | omega | exact (show 0 = icmp a b by unfold icmp; simp at h1 h2; have := Int.le_antisymm h2 h1; subst this; simp))) (by repeat' (first | exact trivial | exact rfl | (refine And.intro ?_ ?_) | omega | exact (show 0 = icmp a b by unfold icmp; simp at h1 h2; have := Int.le_antisymm h2 h1; subst this; simp)))
abbrev shf (t l r : Int) : PV := .agg [ci t, ci l, ci r]
theorem t112 (t l r y : Int) : Tri Try.prog 112 [shf t l r, iv y] [] (fun x post => x = .v (iv (icmp t y)) ∧ post = []) := by
  (refine tri_x tabOK Try.func112 rfl rfl Try.ntmps112 (by simp) fun C => ?_; (conv => whnf); repeat ((first | (refine cnd (by first | assumption | omega | decide) ?_) | (refine cnd0 ?_) | (refine Chk.mk (by kernel_rfl) ?_) | (refine xdraw_rule tabOK ?_) | (refine xdraw_rule (tabLOK _) ?_)); (conv => whnf)))
  (refine xcall (t113 t y) rfl rfl rfl (by repeat (first | exact trivial | refine ⟨rfl, ?_⟩)) ?_; (conv => whnf); repeat ((first | (refine cnd (by first | assumption | omega | decide) ?_) | (refine cnd0 ?_) | (refine Chk.mk (by kernel_rfl) ?_) | (refine xdraw_rule tabOK ?_) | (refine xdraw_rule (tabLOK _) ?_)); (conv => whnf)))
  exact xend [] _ _ ⟨rfl, rfl⟩ rfl rfl rfl (by repeat' (first | exact trivial | exact rfl | (refine And.intro ?_ ?_) | omega)) (by repeat' (first | exact trivial | exact rfl | (refine And.intro ?_ ?_) | omega))
theorem t114 (t l r y : Int) : Tri Try.prog 114 [shf t l r, iv y] [] (fun x post => x = .v (iv (icmp t y)) ∧ post = []) := by
  (refine tri_x tabOK Try.func114 rfl rfl Try.ntmps114 (by simp) fun C => ?_; (conv => whnf); repeat ((first | (refine cnd (by first | assumption | omega | decide) ?_) | (refine cnd0 ?_) | (refine Chk.mk (by kernel_rfl) ?_) | (refine xdraw_rule tabOK ?_) | (refine xdraw_rule (tabLOK _) ?_)); (conv => whnf)))
  (refine xcall (t113 t y) rfl rfl rfl (by repeat (first | exact trivial | refine ⟨rfl, ?_⟩)) ?_; (conv => whnf); repeat ((first | (refine cnd (by first | assumption | omega | decide) ?_) | (refine cnd0 ?_) | (refine Chk.mk (by kernel_rfl) ?_) | (refine xdraw_rule tabOK ?_) | (refine xdraw_rule (tabLOK _) ?_)); (conv => whnf)))
  exact xend [] _ _ ⟨rfl, rfl⟩ rfl rfl rfl (by repeat' (first | exact trivial | exact rfl | (refine And.intro ?_ ?_) | omega)) (by repeat' (first | exact trivial | exact rfl | (refine And.intro ?_ ?_) | omega))
theorem t119 (t l r t' l' r' : Int) : Tri Try.prog 119 [shf t l r, shf t' l' r'] [] (fun x post => x = .v (bv (decide (l = l') && decide (r = r'))) ∧ post = []) := by
  (refine tri_x tabOK Try.func119 rfl rfl Try.ntmps119 (by simp) fun C => ?_; (conv => whnf); repeat ((first | (refine cnd (by first | assumption | omega | decide) ?_) | (refine cnd0 ?_) | (refine Chk.mk (by kernel_rfl) ?_) | (refine xdraw_rule tabOK ?_) | (refine xdraw_rule (tabLOK _) ?_)); (conv => whnf)))
  (refine Br.mk (fun h1 => ?_) (fun h1 => ?_) <;> ((conv => whnf); repeat ((first | (refine cnd (by first | assumption | omega | decide) ?_) | (refine cnd0 ?_) | (refine Chk.mk (by kernel_rfl) ?_) | (refine xdraw_rule tabOK ?_) | (refine xdraw_rule (tabLOK _) ?_)); (conv => whnf)))) <;> exact xend [] _ _ ⟨rfl, rfl⟩ rfl rfl rfl (by repeat' (first | exact trivial | exact rfl | (refine And.intro ?_ ?_) | omega | exact (show _ = (decide (l = l') && _) by rw [h1]; rfl))) (by repeat' (first | exact trivial | exact rfl | (refine And.intro ?_ ?_) | omega | exact (show _ = (decide (l = l') && _) by rw [h1]; rfl)))
end Go.Proofs.Ytcmedheeafiogaa

namespace Go.Proofs.Ytcmedheeafiogaa
open Go.Sy

/-- How many shelves begin above a row. -/
def lb (sh : List Shelf) (y : Int) : Nat := (sh.takeWhile fun s => decide (s.top < y)).length
def Sorted (sh : List Shelf) : Prop := ∀ i j (hi : i < sh.length) (hj : j < sh.length), i < j → sh[i].top < sh[j].top
theorem lb_le (sh : List Shelf) (y : Int) : lb sh y ≤ sh.length := by
  unfold lb; exact List.takeWhile_prefix _ |>.length_le
theorem lb_lt : ∀ (sh : List Shelf) (y : Int) (i : Nat) (hi : i < sh.length), i < lb sh y → sh[i].top < y
  | [], y, i, hi, h => by simp at hi
  | s :: r, y, i, hi, h => by
    unfold lb at h
    rw [List.takeWhile_cons] at h
    split at h
    · rename_i hs
      cases i with
      | zero => simpa using hs
      | succ i => simp at h ⊢; exact lb_lt r y i _ (by unfold lb; omega)
    · simp at h
theorem lb_at (sh : List Shelf) (y : Int) (h : lb sh y < sh.length) : y ≤ sh[lb sh y].top := by
  induction sh with
  | nil => simp at h
  | cons s r ih =>
    by_cases hs : s.top < y
    · have e : lb (s :: r) y = lb r y + 1 := by unfold lb; rw [List.takeWhile_cons, if_pos (by simpa using hs)]; simp
      simp only [e, List.getElem_cons_succ]
      exact ih (by rw [e] at h; simpa using h)
    · have e : lb (s :: r) y = 0 := by unfold lb; rw [List.takeWhile_cons, if_neg (by simpa using hs)]; simp
      simp only [e, List.getElem_cons_zero]
      omega
theorem lb_ge {sh : List Shelf} (hs : Sorted sh) (y : Int) (i : Nat) (hi : i < sh.length) (h : lb sh y ≤ i) : y ≤ sh[i].top := by
  have h1 := lb_at sh y (by omega)
  rcases Nat.lt_or_eq_of_le h with h2 | h2
  · have := hs _ _ (by omega) hi h2; omega
  · subst h2; exact h1
theorem W_id {n : Int} (h1 : -9223372036854775808 ≤ n) (h2 : n < 9223372036854775808) : IntKind.i64.wrap n = n := by
  have : (2 : Int) ^ 64 = 18446744073709551616 := by decide
  have : (2 : Int) ^ 63 = 9223372036854775808 := by decide
  have e : IntKind.i64.wrap n = if (decide (n % 2^64 ≥ 2^63)) = true then n % 2^64 - 2^64 else n % 2^64 := rfl
  rw [e]
  by_cases h : n % 2^64 ≥ 2^63
  · rw [if_pos (by simpa using h)]; omega
  · rw [if_neg (by simpa using h)]; omega
theorem icmp_neg (a b : Int) : (icmp a b < 0) = (a < b) := by unfold icmp; (repeat' split) <;> simp <;> omega
theorem icmp_zero (a b : Int) : (icmp a b = 0) = (a = b) := by unfold icmp; (repeat' split) <;> simp <;> omega

theorem dicmp (a b : Int) : decide (icmp a b = 0) = decide (a = b) := by simp [icmp_zero]
def hit (sh : List Shelf) (y : Int) : Bool := decide ((lb sh y : Int) < sh.length) && decide ((sh.getD (lb sh y) ⟨0,0,0⟩).top = y)

def mid (i j : Int) : Int := IntKind.i64.wrap ((IntKind.u64.wrap (IntKind.i64.wrap (i + j))).fdiv (2 ^ min (Int.toNat 1) IntKind.u64.bits))
theorem mid_eq (i j : Nat) (h : i + j < 2 ^ 62) : mid i j = ((i + j) / 2 : Nat) := by
  have h1 : IntKind.i64.wrap ((i : Int) + j) = i + j := W_id (by omega) (by omega)
  have h2 : IntKind.u64.wrap ((i : Int) + j) = i + j := by
    have e : ∀ n, IntKind.u64.wrap n = if (false && decide (n % 2^64 ≥ 2^63)) = true then n % 2^64 - 2^64 else n % 2^64 := fun _ => rfl
    rw [e]; simp; omega
  have h3 : (2 : Int) ^ min (Int.toNat 1) IntKind.u64.bits = 2 := rfl
  unfold mid
  rw [h1, h2, h3, Int.fdiv_eq_ediv_of_nonneg _ (by omega), W_id (by omega) (by omega)]
  omega
theorem t111 (f : Nat) (hf : ∀ t l r y, Tri Try.prog f [shf t l r, iv y] [] (fun x post => x = .v (iv (icmp t y)) ∧ post = [])) (sh : List Shelf) (hs : Sorted sh) (hb : sh.length < 2 ^ 40) (y : Int) :
    Tri Try.prog 111 [.one (.slice 0 0 3 sh.length), iv y, .one (.fn f [])] [some (.rows 161 encShelf sh)]
      (fun x post => x = .tup [iv (lb sh y), bv (hit sh y)] ∧ post = [some (.rows 161 encShelf sh)]) := by
  (refine tri_x tabOK Try.func111 rfl rfl Try.ntmps111 (by simp) fun C => ?_; (conv => whnf); repeat ((first | (refine cnd (by first | assumption | omega | decide) ?_) | (refine cnd0 ?_) | (refine Chk.mk (by kernel_rfl) ?_) | (refine xdraw_rule tabOK ?_) | (refine xdraw_rule (tabLOK _) ?_)); (conv => whnf)))
  have hle := lb_le sh y
  refine xloop tabOK (fun x : Nat × Nat => x.1 ≤ lb sh y ∧ lb sh y ≤ x.2 ∧ x.2 ≤ sh.length) (fun x => [(0, .v (.one (.slice 0 0 3 sh.length))), (1, .v (iv y)), (2, .v (.one (.fn f []))), (8, .v (iv sh.length)), (9, .v (iv x.1)), (10, .v (iv x.2))]) (fun x => [some (.rows 161 encShelf sh)]) (fun x => x.2 - x.1) ((0, sh.length)) [0] (⟨by simp, lb_le _ _, Nat.le_refl _⟩) rfl rfl rfl (by repeat' (first | exact trivial | exact rfl | (refine And.intro ?_ ?_) | omega)) (by repeat' (first | exact trivial | exact rfl | (refine And.intro ?_ ?_) | omega)) ?_
  rintro x ⟨h1, h2, h3⟩
  have key : ∀ k : Nat, k < sh.length → (sh.getD (0 + (k : Int).toNat) encShelf.d) = sh.getD k ⟨0,0,0⟩ := by intro k hk; simp [hk]
  have gd : ∀ k (hk : k < sh.length), sh.getD k ⟨0,0,0⟩ = sh[k] := by intro k hk; simp [hk]
  ((conv => whnf); repeat ((first | (refine cnd (by first | assumption | omega | decide) ?_) | (refine cnd0 ?_) | (refine Chk.mk (by kernel_rfl) ?_) | (refine xdraw_rule tabOK ?_) | (refine xdraw_rule (tabLOK _) ?_)); (conv => whnf)))
  (refine Br.mk (fun c => ?_) (fun c => ?_) <;> ((conv => whnf); repeat ((first | (refine cnd (by first | assumption | omega | decide) ?_) | (refine cnd0 ?_) | (refine Chk.mk (by kernel_rfl) ?_) | (refine xdraw_rule tabOK ?_) | (refine xdraw_rule (tabLOK _) ?_)); (conv => whnf))))
  · have hm : mid x.1 x.2 = ((x.1 + x.2) / 2 : Nat) := mid_eq x.1 x.2 (by omega)
    have hij : x.1 < x.2 := by simpa using c
    have hm' := hm
    unfold mid at hm'
    (repeat ((first | (refine cnd (by first | assumption | omega | decide) ?_) | (refine cnd0 ?_) | (refine Chk.mk (by kernel_rfl) ?_) | (refine xdraw_rule tabOK ?_) | (refine xdraw_rule (tabLOK _) ?_)); (conv => whnf)))
    (refine xcall (hf _ _ _ y) rfl rfl rfl (by repeat (first | exact trivial | refine ⟨rfl, ?_⟩)) ?_; (conv => whnf); repeat ((first | (refine cnd (by first | assumption | omega | decide) ?_) | (refine cnd0 ?_) | (refine Chk.mk (by kernel_rfl) ?_) | (refine xdraw_rule tabOK ?_) | (refine xdraw_rule (tabLOK _) ?_)); (conv => whnf)))
    have hk : (x.1 + x.2) / 2 < sh.length := by omega
    (refine Br.mk (fun c1 => ?_) (fun c1 => ?_) <;> ((conv => whnf); repeat ((first | (refine cnd (by first | assumption | omega | decide) ?_) | (refine cnd0 ?_) | (refine Chk.mk (by kernel_rfl) ?_) | (refine xdraw_rule tabOK ?_) | (refine xdraw_rule (tabLOK _) ?_)); (conv => whnf))))
    · have c1' : sh[(x.1 + x.2) / 2].top < y := by
        have := of_decide_eq_true c1
        rw [icmp_neg] at this
        rw [← gd _ hk, ← key _ hk, ← hm']; exact this
      refine rnd (((x.1 + x.2) / 2) + 1, x.2) [0] ⟨?_, h2, h3⟩ ?_ rfl rfl rfl (by repeat' (first | exact trivial | exact rfl | (refine And.intro ?_ ?_) | omega | exact (show IntKind.i64.wrap (IntKind.i64.wrap _ + 1) = ((((x.1 + x.2) / 2) + 1 : Nat) : Int) by rw [hm', W_id (by omega) (by omega)]; rfl))) (by repeat' (first | exact trivial | exact rfl | (refine And.intro ?_ ?_) | omega))
      · show (x.1 + x.2) / 2 + 1 ≤ lb sh y
        rcases Nat.lt_or_ge ((x.1 + x.2) / 2) (lb sh y) with h | h
        · exact h
        · have := lb_ge hs y _ hk h; omega
      · show x.2 - ((x.1 + x.2) / 2 + 1) < x.2 - x.1
        omega
    · have c1' : ¬ sh[(x.1 + x.2) / 2].top < y := by
        have := of_decide_eq_false c1
        rw [icmp_neg] at this
        rw [← gd _ hk, ← key _ hk, ← hm']; exact this
      refine rnd (x.1, (x.1 + x.2) / 2) [0] ⟨h1, ?_, by show (x.1 + x.2) / 2 ≤ sh.length; omega⟩ ?_ rfl rfl rfl (by repeat' (first | exact trivial | exact rfl | (refine And.intro ?_ ?_) | omega | exact hm')) (by repeat' (first | exact trivial | exact rfl | (refine And.intro ?_ ?_) | omega))
      · show lb sh y ≤ (x.1 + x.2) / 2
        rcases Nat.lt_or_ge ((x.1 + x.2) / 2) (lb sh y) with h | h
        · exact absurd (lb_lt sh y _ hk h) c1'
        · exact h
      · show (x.1 + x.2) / 2 - x.1 < x.2 - x.1
        omega
  · have hlb : x.1 = lb sh y := by simp at c; omega
    (refine Br.mk (fun c2 => ?_) (fun c2 => ?_) <;> ((conv => whnf); repeat ((first | (refine cnd (by first | assumption | omega | decide) ?_) | (refine cnd0 ?_) | (refine Chk.mk (by kernel_rfl) ?_) | (refine xdraw_rule tabOK ?_) | (refine xdraw_rule (tabLOK _) ?_)); (conv => whnf))))
    · have hlt : lb sh y < sh.length := by have := of_decide_eq_true c2; omega
      (repeat ((first | (refine cnd (by first | assumption | omega | decide) ?_) | (refine cnd0 ?_) | (refine Chk.mk (by kernel_rfl) ?_) | (refine xdraw_rule tabOK ?_) | (refine xdraw_rule (tabLOK _) ?_)); (conv => whnf)))
      (refine xcall (hf _ _ _ y) rfl rfl rfl (by repeat (first | exact trivial | refine ⟨rfl, ?_⟩)) ?_; (conv => whnf); repeat ((first | (refine cnd (by first | assumption | omega | decide) ?_) | (refine cnd0 ?_) | (refine Chk.mk (by kernel_rfl) ?_) | (refine xdraw_rule tabOK ?_) | (refine xdraw_rule (tabLOK _) ?_)); (conv => whnf)))
      refine xend [0] _ _ ⟨rfl, rfl⟩ rfl rfl rfl ⟨congrArg Int.ofNat hlb, ?_, trivial⟩ (by repeat' (first | exact trivial | exact rfl | (refine And.intro ?_ ?_) | omega))
      show decide (icmp (sh.getD (0 + (x.1 : Int).toNat) encShelf.d).top y = 0) = hit sh y
      rw [key _ (by omega), hlb, dicmp]
      simp [hit, hlt]
    · refine xend [0] _ _ ⟨rfl, rfl⟩ rfl rfl rfl ⟨congrArg Int.ofNat hlb, ?_, trivial⟩ (by repeat' (first | exact trivial | exact rfl | (refine And.intro ?_ ?_) | omega))
      show false = hit sh y
      rw [hit, ← hlb, c2]; rfl
/-- The shelf in which a row is. -/
def fnd (sh : List Shelf) (y : Int) : Int := max (bif hit sh y then (lb sh y : Int) else lb sh y - 1) 0
abbrev mem1 (sh : List Shelf) : List (Option Chunk) := [some (.cells 158 [.slice 1 0 3 sh.length]), some (.rows 161 encShelf sh)]
abbrev pt (h : Nat) : PV := .one (.ptr ⟨h, 0, 0, 0⟩)
-- List.find
theorem t96 (sh : List Shelf) (hs : Sorted sh) (hb : sh.length < 2 ^ 40) (y : Int) :
    Tri Try.prog 96 [pt 0, iv y] (mem1 sh) (fun x post => x = .v (iv (fnd sh y)) ∧ post = mem1 sh) := by
  (refine tri_x tabOK Try.func96 rfl rfl Try.ntmps96 (by simp) fun C => ?_; (conv => whnf); repeat ((first | (refine cnd (by first | assumption | omega | decide) ?_) | (refine cnd0 ?_) | (refine Chk.mk (by kernel_rfl) ?_) | (refine xdraw_rule tabOK ?_) | (refine xdraw_rule (tabLOK _) ?_)); (conv => whnf)))
  (refine xcall (t111 114 t114 sh hs hb y) rfl rfl rfl (by repeat (first | exact trivial | refine ⟨rfl, ?_⟩)) ?_; (conv => whnf); repeat ((first | (refine cnd (by first | assumption | omega | decide) ?_) | (refine cnd0 ?_) | (refine Chk.mk (by kernel_rfl) ?_) | (refine xdraw_rule tabOK ?_) | (refine xdraw_rule (tabLOK _) ?_)); (conv => whnf)))
  have hle := lb_le sh y
  (refine Br.mk (fun c => ?_) (fun c => ?_) <;> ((conv => whnf); repeat ((first | (refine cnd (by first | assumption | omega | decide) ?_) | (refine cnd0 ?_) | (refine Chk.mk (by kernel_rfl) ?_) | (refine xdraw_rule tabOK ?_) | (refine xdraw_rule (tabLOK _) ?_)); (conv => whnf))))
  · exact xend [0, 1] _ _ ⟨rfl, rfl⟩ rfl rfl rfl (by repeat' (first | exact trivial | exact rfl | (refine And.intro ?_ ?_) | omega | exact (show max (IntKind.i64.wrap ((lb sh y : Int) - 1)) 0 = fnd sh y by
      have c' : hit sh y = false := by simpa using c
      rw [W_id (by omega) (by omega), fnd, c']; rfl))) (by repeat' (first | exact trivial | exact rfl | (refine And.intro ?_ ?_) | omega | exact (show max (IntKind.i64.wrap ((lb sh y : Int) - 1)) 0 = fnd sh y by
      have c' : hit sh y = false := by simpa using c
      rw [W_id (by omega) (by omega), fnd, c']; rfl)))
  · exact xend [0, 1] _ _ ⟨rfl, rfl⟩ rfl rfl rfl (by repeat' (first | exact trivial | exact rfl | (refine And.intro ?_ ?_) | omega | exact (show max (lb sh y : Int) 0 = fnd sh y by
      have c' : hit sh y = true := by simpa using c
      rw [fnd, c']; rfl))) (by repeat' (first | exact trivial | exact rfl | (refine And.intro ?_ ?_) | omega | exact (show max (lb sh y : Int) 0 = fnd sh y by
      have c' : hit sh y = true := by simpa using c
      rw [fnd, c']; rfl)))
def aftAt (sh : List Shelf) (y : Int) : Nat := bif hit sh y then lb sh y + 1 else lb sh y
def aftB (sh : List Shelf) (y : Int) : Bool := !decide (aftAt sh y = sh.length)
def aft (sh : List Shelf) (y : Int) : Int := bif aftB sh y then (sh.getD (aftAt sh y) ⟨0,0,0⟩).top else 0
theorem hit_lt {sh : List Shelf} {y : Int} (h : hit sh y = true) : lb sh y < sh.length := by unfold hit at h; simp at h; exact h.1
theorem aftAt_le (sh : List Shelf) (y : Int) : aftAt sh y ≤ sh.length := by
  unfold aftAt
  cases h : hit sh y with
  | true => exact hit_lt h
  | false => exact lb_le sh y
-- List.After
theorem t95 (sh : List Shelf) (hs : Sorted sh) (hb : sh.length < 2 ^ 40) (y : Int) :
    Tri Try.prog 95 [pt 0, iv y] (mem1 sh) (fun x post => x = .tup [iv (aft sh y), bv (aftB sh y)] ∧ post = mem1 sh) := by
  (refine tri_x tabOK Try.func95 rfl rfl Try.ntmps95 (by simp) fun C => ?_; (conv => whnf); repeat ((first | (refine cnd (by first | assumption | omega | decide) ?_) | (refine cnd0 ?_) | (refine Chk.mk (by kernel_rfl) ?_) | (refine xdraw_rule tabOK ?_) | (refine xdraw_rule (tabLOK _) ?_)); (conv => whnf)))
  (refine xcall (t111 112 t112 sh hs hb y) rfl rfl rfl (by repeat (first | exact trivial | refine ⟨rfl, ?_⟩)) ?_; (conv => whnf); repeat ((first | (refine cnd (by first | assumption | omega | decide) ?_) | (refine cnd0 ?_) | (refine Chk.mk (by kernel_rfl) ?_) | (refine xdraw_rule tabOK ?_) | (refine xdraw_rule (tabLOK _) ?_)); (conv => whnf)))
  have hle := aftAt_le sh y
  have hlb := lb_le sh y
  (refine Br.mk (fun c => ?_) (fun c => ?_) <;> ((conv => whnf); repeat ((first | (refine cnd (by first | assumption | omega | decide) ?_) | (refine cnd0 ?_) | (refine Chk.mk (by kernel_rfl) ?_) | (refine xdraw_rule tabOK ?_) | (refine xdraw_rule (tabLOK _) ?_)); (conv => whnf))))
  · have hw : IntKind.i64.wrap ((lb sh y : Int) + 1) = (aftAt sh y : Int) := by rw [W_id (by omega) (by omega), aftAt, c]; rfl
    (refine Br.mk (fun d => ?_) (fun d => ?_) <;> ((conv => whnf); repeat ((first | (refine cnd (by first | assumption | omega | decide) ?_) | (refine cnd0 ?_) | (refine Chk.mk (by kernel_rfl) ?_) | (refine xdraw_rule tabOK ?_) | (refine xdraw_rule (tabLOK _) ?_)); (conv => whnf))))
    · have e : aftB sh y = false := by
        have := of_decide_eq_true d
        rw [hw] at this
        simp [aftB]; omega
      refine xend [0, 1] _ _ ⟨rfl, rfl⟩ rfl rfl rfl ⟨?_, e.symm, trivial⟩ (by repeat' (first | exact trivial | exact rfl | (refine And.intro ?_ ?_) | omega))
      show (0 : Int) = aft sh y
      rw [aft, e]; rfl
    · have e : aftB sh y = true := by
        have := of_decide_eq_false d
        rw [hw] at this
        simp [aftB]; omega
      have hlt : aftAt sh y < sh.length := by
        have : aftAt sh y ≠ sh.length := by simpa [aftB] using e
        omega
      (repeat ((first | (refine cnd (by first | assumption | omega | decide) ?_) | (refine cnd0 ?_) | (refine Chk.mk (by kernel_rfl) ?_) | (refine xdraw_rule tabOK ?_) | (refine xdraw_rule (tabLOK _) ?_)); (conv => whnf)))
      refine xend [0, 1] _ _ ⟨rfl, rfl⟩ rfl rfl rfl ⟨?_, e.symm, trivial⟩ (by repeat' (first | exact trivial | exact rfl | (refine And.intro ?_ ?_) | omega))
      show (sh.getD (0 + (IntKind.i64.wrap ((lb sh y : Int) + 1)).toNat) encShelf.d).top = _
      rw [aft, e, hw]; simp; rfl
  · have hw : (lb sh y : Int) = (aftAt sh y : Int) := by rw [aftAt, c]; rfl
    (refine Br.mk (fun d => ?_) (fun d => ?_) <;> ((conv => whnf); repeat ((first | (refine cnd (by first | assumption | omega | decide) ?_) | (refine cnd0 ?_) | (refine Chk.mk (by kernel_rfl) ?_) | (refine xdraw_rule tabOK ?_) | (refine xdraw_rule (tabLOK _) ?_)); (conv => whnf))))
    · have e : aftB sh y = false := by
        have := of_decide_eq_true d
        rw [hw] at this
        simp [aftB]; omega
      refine xend [0, 1] _ _ ⟨rfl, rfl⟩ rfl rfl rfl ⟨?_, e.symm, trivial⟩ (by repeat' (first | exact trivial | exact rfl | (refine And.intro ?_ ?_) | omega))
      show (0 : Int) = aft sh y
      rw [aft, e]; rfl
    · have e : aftB sh y = true := by
        have := of_decide_eq_false d
        rw [hw] at this
        simp [aftB]; omega
      have hlt : aftAt sh y < sh.length := by
        have : aftAt sh y ≠ sh.length := by simpa [aftB] using e
        omega
      (repeat ((first | (refine cnd (by first | assumption | omega | decide) ?_) | (refine cnd0 ?_) | (refine Chk.mk (by kernel_rfl) ?_) | (refine xdraw_rule tabOK ?_) | (refine xdraw_rule (tabLOK _) ?_)); (conv => whnf)))
      refine xend [0, 1] _ _ ⟨rfl, rfl⟩ rfl rfl rfl ⟨?_, e.symm, trivial⟩ (by repeat' (first | exact trivial | exact rfl | (refine And.intro ?_ ?_) | omega))
      show (sh.getD (0 + ((lb sh y : Int)).toNat) encShelf.d).top = _
      rw [aft, e, hw]; simp; rfl
end Go.Proofs.Ytcmedheeafiogaa

namespace Go.Proofs.Ytcmedheeafiogaa
open Go.Sy
set_option linter.unusedVariables false
set_option linter.unusedSimpArgs false
def bandGo (b : Int) : List Shelf → Int → Int → Int × Int
  | [], l, r => (l, r)
  | s :: t, l, r => bif decide (s.top ≥ b) then (l, r) else bandGo b t (max l s.left) (min r s.right)
theorem bandGo_cons (b : Int) (s : Shelf) (t : List Shelf) (l r : Int) : bandGo b (s :: t) l r = bif decide (s.top ≥ b) then (l, r) else bandGo b t (max l s.left) (min r s.right) := rfl
def far : Int := 4503599627370496
def band (sh : List Shelf) (a b : Int) : Int × Int := bif decide (IntKind.i64.wrap (b - a) ≤ 0) then (-far, far) else bandGo b (sh.drop (fnd sh a).toNat) (-far) far

theorem fnd_nonneg (sh : List Shelf) (y : Int) : 0 ≤ fnd sh y := by unfold fnd; omega
theorem fnd_lt {sh : List Shelf} (h : 0 < sh.length) (y : Int) : fnd sh y < sh.length := by
  unfold fnd
  have := lb_le sh y
  cases c : hit sh y with
  | true => have := hit_lt c; simp; omega
  | false => simp; omega
-- List.Band
theorem t65 (sh : List Shelf) (hs : Sorted sh) (hb : sh.length < 2 ^ 40) (h0 : 0 < sh.length) (a b : Int) :
    Tri Try.prog 65 [pt 0, sp a b] (mem1 sh) (fun x post => x = .v (sp (band sh a b).1 (band sh a b).2) ∧ post = mem1 sh) := by
  (refine tri_x tabOK Try.func65 rfl rfl Try.ntmps65 (by simp) fun C => ?_; (conv => whnf); repeat ((first | (refine cnd (by first | assumption | omega | decide) ?_) | (refine cnd0 ?_) | (refine Chk.mk (by kernel_rfl) ?_) | (refine xdraw_rule tabOK ?_) | (refine xdraw_rule (tabLOK _) ?_)); (conv => whnf)))
  (refine xcall (t29 a b) rfl rfl rfl (by repeat (first | exact trivial | refine ⟨rfl, ?_⟩)) ?_; (conv => whnf); repeat ((first | (refine cnd (by first | assumption | omega | decide) ?_) | (refine cnd0 ?_) | (refine Chk.mk (by kernel_rfl) ?_) | (refine xdraw_rule tabOK ?_) | (refine xdraw_rule (tabLOK _) ?_)); (conv => whnf)))
  (refine Br.mk (fun c => ?_) (fun c => ?_) <;> ((conv => whnf); repeat ((first | (refine cnd (by first | assumption | omega | decide) ?_) | (refine cnd0 ?_) | (refine Chk.mk (by kernel_rfl) ?_) | (refine xdraw_rule tabOK ?_) | (refine xdraw_rule (tabLOK _) ?_)); (conv => whnf))))
  · have e : band sh a b = (-far, far) := by unfold band; rw [c]; rfl
    exact xend [0, 1] (.v (sp (-far) far)) (_) (⟨by rw [e], rfl⟩) rfl rfl rfl (by repeat' (first | exact trivial | exact rfl | (refine And.intro ?_ ?_) | omega)) (by repeat' (first | exact trivial | exact rfl | (refine And.intro ?_ ?_) | omega))
  · have e : band sh a b = bandGo b (sh.drop (fnd sh a).toNat) (-far) far := by unfold band; rw [c]; rfl
    have hf := fnd_lt h0 a
    have hn := fnd_nonneg sh a
    (repeat ((first | (refine cnd (by first | assumption | omega | decide) ?_) | (refine cnd0 ?_) | (refine Chk.mk (by kernel_rfl) ?_) | (refine xdraw_rule tabOK ?_) | (refine xdraw_rule (tabLOK _) ?_)); (conv => whnf)))
    (refine dcallR (t96 sh hs hb a) rfl fun hT_ => ?_; (conv => whnf); refine cnd hT_ (cnd rfl (cnd (by repeat (first | exact trivial | refine ⟨rfl, ?_⟩)) (cnd rfl (cnd0 ?_)))); clear hT_; (conv => whnf); repeat ((first | (refine cnd (by first | assumption | omega | decide) ?_) | (refine cnd0 ?_) | (refine Chk.mk (by kernel_rfl) ?_) | (refine xdraw_rule tabOK ?_) | (refine xdraw_rule (tabLOK _) ?_)); (conv => whnf)))
    refine xloop tabOK (fun x : Nat × Int × Int => x.1 ≤ sh.length - (fnd sh a).toNat ∧ bandGo b (sh.drop ((fnd sh a).toNat + x.1)) x.2.1 x.2.2 = bandGo b (sh.drop (fnd sh a).toNat) (-far) far) (fun x => [(3, .v (pt 2)), (4, .v (pt 3)), (5, .v (pt 4)), (21, .v (.one (.slice 1 (fnd sh a).toNat 3 (sh.length - (fnd sh a).toNat)))), (22, .v (iv (sh.length - (fnd sh a).toNat : Nat))), (23, .v (iv x.1))]) (fun x => mem1 sh ++ [some (.cells 33 [ci a, ci b]), some (.cells 33 [ci 0, ci 0]), some (.cells 33 [ci x.2.1, ci x.2.2])]) (fun x => sh.length - (fnd sh a).toNat - x.1) ((0, -far, far)) [0, 1, 2, 3, 5] (⟨by simp, rfl⟩) rfl rfl rfl (by repeat' (first | exact trivial | exact rfl | (refine And.intro ?_ ?_) | omega)) (by repeat' (first | exact trivial | exact rfl | (refine And.intro ?_ ?_) | omega)) ?_
    rintro x ⟨h1, h2⟩
    ((conv => whnf); repeat ((first | (refine cnd (by first | assumption | omega | decide) ?_) | (refine cnd0 ?_) | (refine Chk.mk (by kernel_rfl) ?_) | (refine xdraw_rule tabOK ?_) | (refine xdraw_rule (tabLOK _) ?_)); (conv => whnf)))
    (refine Br.mk (fun c1 => ?_) (fun c1 => ?_) <;> ((conv => whnf); repeat ((first | (refine cnd (by first | assumption | omega | decide) ?_) | (refine cnd0 ?_) | (refine Chk.mk (by kernel_rfl) ?_) | (refine xdraw_rule tabOK ?_) | (refine xdraw_rule (tabLOK _) ?_)); (conv => whnf))))
    · have hi : x.1 < sh.length - (fnd sh a).toNat := by have := of_decide_eq_true c1; omega
      have hlt : (fnd sh a).toNat + x.1 < sh.length := by omega
      have hd : sh.getD ((fnd sh a).toNat + (x.1 : Int).toNat) encShelf.d = sh[(fnd sh a).toNat + x.1] := by simp [hlt]
      have hdr : sh.drop ((fnd sh a).toNat + x.1) = sh[(fnd sh a).toNat + x.1] :: sh.drop ((fnd sh a).toNat + (x.1 + 1)) := List.drop_eq_getElem_cons hlt
      rw [hdr, ← hd] at h2
      (repeat ((first | (refine cnd (by first | assumption | omega | decide) ?_) | (refine cnd0 ?_) | (refine Chk.mk (by kernel_rfl) ?_) | (refine xdraw_rule tabOK ?_) | (refine xdraw_rule (tabLOK _) ?_)); (conv => whnf)))
      (refine Br.mk (fun c2 => ?_) (fun c2 => ?_) <;> ((conv => whnf); repeat ((first | (refine cnd (by first | assumption | omega | decide) ?_) | (refine cnd0 ?_) | (refine Chk.mk (by kernel_rfl) ?_) | (refine xdraw_rule tabOK ?_) | (refine xdraw_rule (tabLOK _) ?_)); (conv => whnf))))
      · rw [bandGo_cons] at h2
        rw [show decide ((sh.getD ((fnd sh a).toNat + (x.1 : Int).toNat) encShelf.d).top ≥ b) = true from c2] at h2
        exact xend [0, 1] (.v (sp x.2.1 x.2.2)) (_) (⟨by rw [e, ← h2]; rfl, rfl⟩) rfl rfl rfl (by repeat' (first | exact trivial | exact rfl | (refine And.intro ?_ ?_) | omega)) (by repeat' (first | exact trivial | exact rfl | (refine And.intro ?_ ?_) | omega))
      · rw [bandGo_cons] at h2
        rw [show decide ((sh.getD ((fnd sh a).toNat + (x.1 : Int).toNat) encShelf.d).top ≥ b) = false from c2] at h2
        (refine xcall (t64 x.2.1 x.2.2 _ _) rfl rfl rfl (by repeat (first | exact trivial | refine ⟨rfl, ?_⟩)) ?_; (conv => whnf); repeat ((first | (refine cnd (by first | assumption | omega | decide) ?_) | (refine cnd0 ?_) | (refine Chk.mk (by kernel_rfl) ?_) | (refine xdraw_rule tabOK ?_) | (refine xdraw_rule (tabLOK _) ?_)); (conv => whnf)))
        exact rnd ((x.1 + 1, max x.2.1 _, min x.2.2 _)) [0, 1, 2, 3, 4] (⟨by show x.1 + 1 ≤ _; omega, h2⟩) (by show sh.length - (fnd sh a).toNat - (x.1 + 1) < _; omega) rfl rfl rfl (by repeat' (first | exact trivial | exact rfl | (refine And.intro ?_ ?_) | omega | (show IntKind.i64.wrap _ = ((x.1 + 1 : Nat) : Int); rw [W_id (by omega) (by omega)]; rfl))) (by repeat' (first | exact trivial | exact rfl | (refine And.intro ?_ ?_) | omega | (show IntKind.i64.wrap _ = ((x.1 + 1 : Nat) : Int); rw [W_id (by omega) (by omega)]; rfl)))
    · have hi : x.1 = sh.length - (fnd sh a).toNat := by have := of_decide_eq_false c1; omega
      have e2 : sh.drop ((fnd sh a).toNat + x.1) = [] := by apply List.drop_eq_nil_of_le; omega
      rw [e2] at h2
      exact xend [0, 1] (.v (sp x.2.1 x.2.2)) (_) (⟨by rw [e, ← h2]; rfl, rfl⟩) rfl rfl rfl (by repeat' (first | exact trivial | exact rfl | (refine And.intro ?_ ?_) | omega)) (by repeat' (first | exact trivial | exact rfl | (refine And.intro ?_ ?_) | omega))
end Go.Proofs.Ytcmedheeafiogaa

namespace Go.Proofs.Ytcmedheeafiogaa
open Go.Sy
set_option linter.unusedVariables false
set_option linter.unusedSimpArgs false
def same (a b : Shelf) : Bool := decide (a.left = b.left) && decide (a.right = b.right)
def cm (p : Shelf) : List Shelf → List Shelf
  | [] => []
  | s :: r => bif same s p then cm s r else s :: cm s r
def compact : List Shelf → List Shelf
  | [] => []
  | s :: r => s :: cm s r
def shA (s : Shelf) : PV := shf s.top s.left s.right
theorem t119' (a b : Shelf) : Tri Try.prog 119 [shA a, shA b] [] (fun x post => x = .v (.one (.bool (.X (same a b)))) ∧ post = []) := t119 a.top a.left a.right b.top b.left b.right
def gN (xs : List Shelf) (i : Nat) : Shelf := xs.getD i encShelf.d
theorem cm_step (sh : List Shelf) (m : Nat) (h : m < sh.length) (p : Shelf) : cm p (sh.drop m) = bif same (gN sh m) p then cm (gN sh m) (sh.drop (m + 1)) else gN sh m :: cm (gN sh m) (sh.drop (m + 1)) := by
  have e : gN sh m = sh[m] := by simp [gN, h]
  rw [List.drop_eq_getElem_cons h, e]; rfl
theorem clr_len {α : Type} (l n : Nat) (z : α) (xs : List α) (h : l + n ≤ xs.length) : (clr l n z xs).length = xs.length := by unfold clr; simp; omega
theorem set_take {α : Type} (xs : List α) (k : Nat) (v : α) (h : k < xs.length) : (xs.set k v).take (k + 1) = xs.take k ++ [v] := by
  apply List.ext_getElem?
  intro j
  rw [List.getElem?_take]
  by_cases c : j < k
  · rw [if_pos (by omega), List.getElem?_append_left (by rw [List.length_take]; omega), List.getElem?_take, if_pos c, List.getElem?_set_ne (by omega)]
  · rw [List.getElem?_append_right (by rw [List.length_take]; omega), List.length_take, Nat.min_eq_left (by omega)]
    by_cases c2 : j = k
    · subst c2; simp [h]
    · rw [if_neg (by omega), List.getElem?_eq_none (by simp; omega)]

theorem t118a (sh : List Shelf) (hb : sh.length < 2 ^ 40) :
    Tri Try.prog 118 [.one (.slice 0 0 3 sh.length), .one (.fn 119 [])] [some (.rows 161 encShelf sh)]
      (fun x post => ∃ ys, (x = .v (.one (.slice 0 0 3 (compact sh).length)) ∧ post = [some (.rows 161 encShelf ys)]) ∧ ys.take (compact sh).length = compact sh) := by
  (refine tri_x tabOK Try.func118 rfl rfl Try.ntmps118 (by simp) fun C => ?_; (conv => whnf); repeat ((first | (refine cnd (by first | assumption | omega | decide) ?_) | (refine cnd0 ?_) | (refine Chk.mk (by kernel_rfl) ?_) | (refine xdraw_rule tabOK ?_) | (refine xdraw_rule (tabLOK _) ?_)); (conv => whnf)))
  (refine Br.mk (fun c => ?_) (fun c => ?_) <;> ((conv => whnf); repeat ((first | (refine cnd (by first | assumption | omega | decide) ?_) | (refine cnd0 ?_) | (refine Chk.mk (by kernel_rfl) ?_) | (refine xdraw_rule tabOK ?_) | (refine xdraw_rule (tabLOK _) ?_)); (conv => whnf))))
  · have hn : sh.length < 2 := by have := of_decide_eq_true c; omega
    have e : compact sh = sh := by
      match sh, hn with
      | [], _ => rfl
      | [s], _ => rfl
      | _ :: _ :: _, h => simp at h; omega
    exact xend [0] (_) (_) (⟨sh, ⟨by rw [e], rfl⟩, by rw [e]; simp⟩) rfl rfl rfl (by repeat' (first | exact trivial | exact rfl | (refine And.intro ?_ ?_) | omega)) (by repeat' (first | exact trivial | exact rfl | (refine And.intro ?_ ?_) | omega))
  · have hn : 2 ≤ sh.length := by have := of_decide_eq_false c; omega
    refine xloop tabOK (fun x : Nat => 1 ≤ x ∧ x ≤ sh.length ∧ compact sh = sh.take x ++ cm (gN sh (x - 1)) (sh.drop x)) (fun x => [(0, .v (.one (.slice 0 0 3 sh.length))), (1, .v (.one (.fn 119 []))), (5, .v (iv x))]) (fun x => [some (.rows 161 encShelf sh)]) (fun x => sh.length - x) (1) [0] (⟨by omega, by omega, by cases sh with
      | nil => simp at hn
      | cons s r => rfl⟩) rfl rfl rfl (by repeat' (first | exact trivial | exact rfl | (refine And.intro ?_ ?_) | omega)) (by repeat' (first | exact trivial | exact rfl | (refine And.intro ?_ ?_) | omega)) ?_
    rintro x ⟨h1, h2, h3⟩
    ((conv => whnf); repeat ((first | (refine cnd (by first | assumption | omega | decide) ?_) | (refine cnd0 ?_) | (refine Chk.mk (by kernel_rfl) ?_) | (refine xdraw_rule tabOK ?_) | (refine xdraw_rule (tabLOK _) ?_)); (conv => whnf)))
    (refine Br.mk (fun c1 => ?_) (fun c1 => ?_) <;> ((conv => whnf); repeat ((first | (refine cnd (by first | assumption | omega | decide) ?_) | (refine cnd0 ?_) | (refine Chk.mk (by kernel_rfl) ?_) | (refine xdraw_rule tabOK ?_) | (refine xdraw_rule (tabLOK _) ?_)); (conv => whnf))))
    · have hx : x < sh.length := by have := of_decide_eq_true c1; omega
      have hw : IntKind.i64.wrap ((x : Int) - 1) = (x - 1 : Nat) := by rw [W_id (by omega) (by omega)]; omega
      (repeat ((first | (refine cnd (by first | assumption | omega | decide) ?_) | (refine cnd0 ?_) | (refine Chk.mk (by kernel_rfl) ?_) | (refine xdraw_rule tabOK ?_) | (refine xdraw_rule (tabLOK _) ?_)); (conv => whnf)))
      (refine dcallR (t119' (sh.getD (0 + (x : Int).toNat) encShelf.d) (sh.getD (0 + (IntKind.i64.wrap ((x : Int) - 1)).toNat) encShelf.d)) rfl fun hT_ => ?_; (conv => whnf); refine cnd hT_ (cnd rfl (cnd (by repeat (first | exact trivial | refine ⟨rfl, ?_⟩)) (cnd rfl (cnd0 ?_)))); clear hT_; (conv => whnf); repeat ((first | (refine cnd (by first | assumption | omega | decide) ?_) | (refine cnd0 ?_) | (refine Chk.mk (by kernel_rfl) ?_) | (refine xdraw_rule tabOK ?_) | (refine xdraw_rule (tabLOK _) ?_)); (conv => whnf)))
      have hs1 : sh.getD (0 + (x : Int).toNat) encShelf.d = gN sh x := by simp [gN]
      have hs2 : sh.getD (0 + (IntKind.i64.wrap ((x : Int) - 1)).toNat) encShelf.d = gN sh (x - 1) := by rw [hw]; simp [gN]
      rw [cm_step sh x hx] at h3
      (refine Br.mk (fun c2 => ?_) (fun c2 => ?_) <;> ((conv => whnf); repeat ((first | (refine cnd (by first | assumption | omega | decide) ?_) | (refine cnd0 ?_) | (refine Chk.mk (by kernel_rfl) ?_) | (refine xdraw_rule tabOK ?_) | (refine xdraw_rule (tabLOK _) ?_)); (conv => whnf))))
      · rw [hs1, hs2] at c2
        rw [c2, cond_true] at h3
        (repeat ((first | (refine cnd (by first | assumption | omega | decide) ?_) | (refine cnd0 ?_) | (refine Chk.mk (by kernel_rfl) ?_) | (refine xdraw_rule tabOK ?_) | (refine xdraw_rule (tabLOK _) ?_)); (conv => whnf)))
        refine xloop tabOK (fun y : Nat × Nat × List Shelf => x ≤ y.1 ∧ y.1 + 1 ≤ x + y.2.1 ∧ x + y.2.1 ≤ sh.length ∧ y.2.2.length = sh.length ∧ (∀ j, x + y.2.1 - 1 ≤ j → y.2.2[j]? = sh[j]?) ∧ compact sh = y.2.2.take y.1 ++ cm (gN sh (x + y.2.1 - 1)) (sh.drop (x + y.2.1))) (fun y => [(0, .v (.one (.slice 0 0 3 sh.length))), (1, .v (.one (.fn 119 []))), (5, .v (iv y.1)), (6, .v (.one (.slice 0 x 3 (sh.length - x)))), (7, .v (iv y.2.1))]) (fun y => [some (.rows 161 encShelf y.2.2)]) (fun y => sh.length - x - y.2.1) ((x, 1, sh)) [0] (⟨by show x ≤ x; omega, by show x + 1 ≤ x + 1; omega, by show x + 1 ≤ sh.length; omega, rfl, fun _ _ => rfl, h3⟩) rfl rfl rfl (by repeat' (first | exact trivial | exact rfl | (refine And.intro ?_ ?_) | omega)) (by repeat' (first | exact trivial | exact rfl | (refine And.intro ?_ ?_) | omega)) ?_
        rintro y ⟨g1, g2, g3, g4, g5, g6⟩
        ((conv => whnf); repeat ((first | (refine cnd (by first | assumption | omega | decide) ?_) | (refine cnd0 ?_) | (refine Chk.mk (by kernel_rfl) ?_) | (refine xdraw_rule tabOK ?_) | (refine xdraw_rule (tabLOK _) ?_)); (conv => whnf)))
        (refine Br.mk (fun d1 => ?_) (fun d1 => ?_) <;> ((conv => whnf); repeat ((first | (refine cnd (by first | assumption | omega | decide) ?_) | (refine cnd0 ?_) | (refine Chk.mk (by kernel_rfl) ?_) | (refine xdraw_rule tabOK ?_) | (refine xdraw_rule (tabLOK _) ?_)); (conv => whnf))))
        · have hy : x + y.2.1 < sh.length := by have := of_decide_eq_true d1; omega
          have hw2 : IntKind.i64.wrap ((y.2.1 : Int) - 1) = (y.2.1 - 1 : Nat) := by rw [W_id (by omega) (by omega)]; omega
          (repeat ((first | (refine cnd (by first | assumption | omega | decide) ?_) | (refine cnd0 ?_) | (refine Chk.mk (by kernel_rfl) ?_) | (refine xdraw_rule tabOK ?_) | (refine xdraw_rule (tabLOK _) ?_)); (conv => whnf)))
          (refine dcallR (t119' (y.2.2.getD (x + (y.2.1 : Int).toNat) encShelf.d) (y.2.2.getD (x + (IntKind.i64.wrap ((y.2.1 : Int) - 1)).toNat) encShelf.d)) rfl fun hT_ => ?_; (conv => whnf); refine cnd hT_ (cnd rfl (cnd (by repeat (first | exact trivial | refine ⟨rfl, ?_⟩)) (cnd rfl (cnd0 ?_)))); clear hT_; (conv => whnf); repeat ((first | (refine cnd (by first | assumption | omega | decide) ?_) | (refine cnd0 ?_) | (refine Chk.mk (by kernel_rfl) ?_) | (refine xdraw_rule tabOK ?_) | (refine xdraw_rule (tabLOK _) ?_)); (conv => whnf)))
          have hgy : ∀ m, x + y.2.1 - 1 ≤ m → y.2.2.getD m encShelf.d = gN sh m := fun m hm => by simp only [gN, List.getD_eq_getElem?_getD, g5 m hm]
          have hs3 : y.2.2.getD (x + (y.2.1 : Int).toNat) encShelf.d = gN sh (x + y.2.1) := hgy _ (by omega)
          have hs4 : y.2.2.getD (x + (IntKind.i64.wrap ((y.2.1 : Int) - 1)).toNat) encShelf.d = gN sh (x + y.2.1 - 1) := by
            rw [hgy _ (by rw [hw2]; omega), hw2]; congr 1; omega
          rw [cm_step sh (x + y.2.1) hy] at g6
          (refine Br.mk (fun d2 => ?_) (fun d2 => ?_) <;> ((conv => whnf); repeat ((first | (refine cnd (by first | assumption | omega | decide) ?_) | (refine cnd0 ?_) | (refine Chk.mk (by kernel_rfl) ?_) | (refine xdraw_rule tabOK ?_) | (refine xdraw_rule (tabLOK _) ?_)); (conv => whnf))))
          · have d2 : same (gN sh (x + y.2.1)) (gN sh (x + y.2.1 - 1)) = false := by rw [← hs3, ← hs4]; simpa using d2
            rw [d2, cond_false] at g6
            (repeat ((first | (refine cnd (by first | assumption | omega | decide) ?_) | (refine cnd0 ?_) | (refine Chk.mk (by kernel_rfl) ?_) | (refine xdraw_rule tabOK ?_) | (refine xdraw_rule (tabLOK _) ?_)); (conv => whnf)))
            refine rnd (y.1 + 1, y.2.1 + 1, y.2.2.set (0 + (y.1 : Int).toNat) ⟨(y.2.2.getD (x + (y.2.1 : Int).toNat) encShelf.d).top, (y.2.2.getD (x + (y.2.1 : Int).toNat) encShelf.d).left, (y.2.2.getD (x + (y.2.1 : Int).toNat) encShelf.d).right⟩) [0] ⟨?_, ?_, ?_, ?_, ?_, ?_⟩ ?_ rfl rfl rfl (by repeat' (first | exact trivial | exact rfl | (refine And.intro ?_ ?_) | omega | (show IntKind.i64.wrap _ = (_ : Int); rw [W_id (by omega) (by omega)]; rfl))) (by repeat' (first | exact trivial | exact rfl | (refine And.intro ?_ ?_) | omega))
            · show x ≤ y.1 + 1; omega
            · show y.1 + 1 + 1 ≤ x + (y.2.1 + 1); omega
            · show x + (y.2.1 + 1) ≤ sh.length; omega
            · show (y.2.2.set _ _).length = _; rw [List.length_set]; exact g4
            · intro j hj
              have hj : x + (y.2.1 + 1) - 1 ≤ j := hj
              show (y.2.2.set _ _)[j]? = _
              rw [List.getElem?_set_ne (by simp; omega)]
              exact g5 j (by omega)
            · show compact sh = (y.2.2.set (0 + (y.1 : Int).toNat) (y.2.2.getD (x + (y.2.1 : Int).toNat) encShelf.d)).take (y.1 + 1) ++ cm (gN sh (x + (y.2.1 + 1) - 1)) (sh.drop (x + (y.2.1 + 1)))
              have e1 : 0 + (y.1 : Int).toNat = y.1 := by omega
              rw [e1, set_take _ _ _ (by omega), hs3, g6, List.append_assoc]
              rfl
            · show sh.length - x - (y.2.1 + 1) < sh.length - x - y.2.1; omega
          · have d2 : same (gN sh (x + y.2.1)) (gN sh (x + y.2.1 - 1)) = true := by rw [← hs3, ← hs4]; simpa using d2
            rw [d2, cond_true] at g6
            refine rnd (y.1, y.2.1 + 1, y.2.2) [0] ⟨g1, ?_, ?_, g4, fun j hj => g5 j ?_, g6⟩ ?_ rfl rfl rfl (by repeat' (first | exact trivial | exact rfl | (refine And.intro ?_ ?_) | omega | (show IntKind.i64.wrap _ = (_ : Int); rw [W_id (by omega) (by omega)]; rfl))) (by repeat' (first | exact trivial | exact rfl | (refine And.intro ?_ ?_) | omega))
            · show y.1 + 1 ≤ x + (y.2.1 + 1); omega
            · show x + (y.2.1 + 1) ≤ sh.length; omega
            · have hj : x + (y.2.1 + 1) - 1 ≤ j := hj
              omega
            · show sh.length - x - (y.2.1 + 1) < sh.length - x - y.2.1; omega
        · have hy : x + y.2.1 = sh.length := by have := of_decide_eq_false d1; omega
          have hdn : sh.drop (x + y.2.1) = [] := List.drop_eq_nil_of_le (by omega)
          rw [hdn] at g6
          have g6 : compact sh = y.2.2.take y.1 := by rw [g6]; exact List.append_nil _
          have hcl := clr_len (y.1 : Int).toNat (sh.length - (y.1 : Int).toNat) (⟨0, 0, 0⟩ : Shelf) y.2.2 (by omega)
          (repeat ((first | (refine cnd (by first | assumption | omega | decide) ?_) | (refine cnd0 ?_) | (refine Chk.mk (by kernel_rfl) ?_) | (refine xdraw_rule tabOK ?_) | (refine xdraw_rule (tabLOK _) ?_)); (conv => whnf)))
          have hk : (y.1 : Int).toNat = (compact sh).length := by rw [g6, List.length_take]; omega
          refine xend [0] (.v (.one (.slice 0 0 3 (y.1 : Int).toNat))) _ ⟨_, ⟨by rw [hk], rfl⟩, ?_⟩ rfl rfl rfl (by repeat' (first | exact trivial | exact rfl | (refine And.intro ?_ ?_) | omega)) (by repeat' (first | exact trivial | exact rfl | (refine And.intro ?_ ?_) | omega))
          rw [← hk]
          unfold clr
          rw [List.take_append_of_le_length (by rw [List.length_take]; omega), List.take_take, g6]
          simp
      · rw [hs1, hs2] at c2
        rw [c2, cond_false] at h3
        refine rnd (x + 1) [0] ⟨by omega, by omega, ?_⟩ (by omega) rfl rfl rfl (by repeat' (first | exact trivial | exact rfl | (refine And.intro ?_ ?_) | omega | (show IntKind.i64.wrap _ = (_ : Int); rw [W_id (by omega) (by omega)]; rfl))) (by repeat' (first | exact trivial | exact rfl | (refine And.intro ?_ ?_) | omega))
        rw [h3]
        have e : gN sh x = sh[x] := by simp [gN, hx]
        have : sh.take (x + 1) = sh.take x ++ [gN sh x] := by rw [e]; exact (List.take_append_getElem hx).symm
        rw [this, List.append_assoc]; rfl
    · have hx : x = sh.length := by have := of_decide_eq_false c1; omega
      have e : compact sh = sh := by
        rw [h3, hx, List.drop_length, List.take_length]; exact List.append_nil _
      exact xend [0] (_) (_) (⟨sh, ⟨by rw [e], rfl⟩, by rw [e]; simp⟩) rfl rfl rfl (by repeat' (first | exact trivial | exact rfl | (refine And.intro ?_ ?_) | omega)) (by repeat' (first | exact trivial | exact rfl | (refine And.intro ?_ ?_) | omega))
theorem t118 (sh : List Shelf) (hb : sh.length < 2 ^ 40) :
    Tri Try.prog 118 [.one (.slice 0 0 3 sh.length), .one (.fn 119 [])] [some (.rows 161 encShelf sh)]
      (fun x post => x = .v (.one (.slice 0 0 3 (compact sh).length)) ∧ post = [some (.rows 161 encShelf (compact sh))]) := by
  refine tri_post (t118a sh hb) ?_
  rintro r post ⟨ys, ⟨rfl, rfl⟩, h⟩
  refine ⟨_, ⟨rfl, rfl⟩, ?_⟩
  have := hent_chunk (l := [some (.rows 161 encShelf ys)]) 0 (c' := .rows 161 encShelf (ys.take (compact sh).length)) rfl (fun ν V p w F hh => sat_take _ ν V p w F hh)
  rw [h] at this
  exact this
end Go.Proofs.Ytcmedheeafiogaa

set_option linter.unusedVariables false
set_option linter.unusedSimpArgs false
namespace Go.Proofs.Ytcmedheeafiogaa
open Go.Shelf Go.RowKit Go.Lib Go.Proofs

theorem wp_copy_runJ {P : Program} (w : World) {o : Oper} {a : Act} {K : Act → World → Prop} {Q : Exit → Act → World → Prop} (d s : Operand) (t t' : TypeId)
    (ho : o.op = .call { callee := .builtin .copy, args := #[d, s], argTypes := #[t, t'] }) (v u : Value) (hd : a.eval d = v) (hs : a.eval s = u) {v' : Value} {w' : World}
    (hr : (Builtin.copy_ #[t, t'] o.type #[v, u]).run P w = .ok v' w') (h : K (a.put o.dst v') w') : o.wp P a w K Q := by
  unfold Oper.wp execOp
  simp only [ho, resolve, invoke, builtin, Sem.run_bind, Sem.run_pure, Result.andThen_ok, List.map_toArray, List.map_cons, List.map_nil, hd, hs, hr]
  exact h
theorem wpList_copy_runJ {P : Program} (w : World) {ops : Array Oper} {rest : List Oper} {o : Oper} {a : Act} {Q : Exit → Act → World → Prop} (hgd : o.guard = none) (d s : Operand) (t t' : TypeId)
    (ho : o.op = .call { callee := .builtin .copy, args := #[d, s], argTypes := #[t, t'] }) (v u : Value) (hd : a.eval d = v) (hs : a.eval s = u) {v' : Value} {w' : World}
    (hr : (Builtin.copy_ #[t, t'] o.type #[v, u]).run P w = .ok v' w') (h : wpList P ops Q rest (a.put o.dst v') w') : wpList P ops Q (o :: rest) a w :=
  wpList_plain hgd fun _ hK => wp_copy_runJ w d s t t' ho v u hd hs hr (hK _ _ h)
theorem step_copy_runJ {P : Program} {ops : Array Oper} {o : Oper} {a : Act} {w : World} {K : Act → World → Prop} {Q : Exit → Act → World → Prop} {E : Prop}
    (hg : o.guard = none) (d x : Operand) (dT sT : TypeId) (hop : o.op = Op.call { callee := Callee.builtin Builtin.copy, args := #[d, x], argTypes := #[dT, sT] })
    (v u : Value) (hd : a.eval d = v) (hx : a.eval x = u) {v' : Value} {w' : World} (hr : (Builtin.copy_ #[dT, sT] o.type #[v, u]).run P w = .ok v' w') (hK : K (a.put o.dst v') w') :
    if Region.wanted o (yielded ops a.tmps) = true then Oper.wp P o a w K Q else E := by
  have hw : Region.wanted o (yielded ops a.tmps) = true := by simp [Region.wanted, hg]
  rw [if_pos hw]
  unfold Oper.wp
  simp [execOp, hop, resolve, invoke, builtin, hd, hx, hr, Result.andThen]
  exact hK
theorem isSome_setCellsJ (b : Nat) (vs : List Value) (o : Nat) (w : World) (h : ∀ j, j < vs.length → (w.cell? ⟨b, o + j, none⟩).isSome = true) (k : Nat) (hk : (w.cell? ⟨b, k, none⟩).isSome = true) : ((w.setCells b o vs).cell? ⟨b, k, none⟩).isSome = true := by
  by_cases hin : o ≤ k ∧ k < o + vs.length
  · have := World.cell?_setCells_in b vs o w h (k - o) (by omega)
    rw [show o + (k - o) = k by omega] at this
    rw [this]; rfl
  · rw [World.cell?_setCells_out b vs o w ⟨b, k, none⟩ (fun _ _ => by show k < o ∨ o + vs.length ≤ k; omega)]
    exact hk
/-- 'copy' of elements of any size. -/
theorem run_copy_k {P : Program} (w : World) (dT sT ty elem : TypeId) (size : Nat) (b o dLen dCap : Nat) (a : Addr) (sLen sCap : Nat) (cs : List Value)
    (hu : P.underlying dT = some (.slice elem)) (hs : (P.info? elem).map (·.size) = some size) (hn : cs.length = Nat.min sLen dLen * size)
    (hsrc : ∀ j v, cs[j]? = some v → w.cell? (a.add j) = some v) (hc : ∀ j, j < cs.length → (w.cell? ⟨b, o + j, none⟩).isSome = true) (hf : ∀ j, j < cs.length → w.frozen? ⟨b, o + j, none⟩ = false) (h1 : ∀ v ∈ cs, v.oneCell' = true) :
    (Builtin.copy_ #[dT, sT] ty #[.slice (some ⟨b, o, none⟩) dLen dCap, .slice (some a) sLen sCap]).run P w = .ok (goInt (Nat.min sLen dLen)) (w.setCells b o cs) := by
  have hl := run_loadCells_list (P := P) w a cs hsrc
  have hst := run_storeCells_cells (P := P) b o cs 0 w (by simpa using hc) (by simpa using hf) h1
  cases hq : P.info? elem with
  | none => simp [hq] at hs
  | some i =>
    have hi : i.size = size := by simpa [hq] using hs
    simp [Builtin.copy_, run_underlying hu, Builtin.lenOf, Builtin.firstCells, sizeOf, typeInfo, hq, hi, ← hn, hl, hst]

theorem iinfo161 : (Try.prog.info? 161).map (fun i => (i.zero, i.size, i.bytes)) = some (some (.agg #[(.int .i64 0), (.int .i64 0), (.int .i64 0)]), 3, 24) := by kernel_rfl
theorem isz161 : (Try.prog.info? 161).map (·.size) = some 3 := by kernel_rfl
theorem izz161 (w : World) : (Go.sizeOf 161).run Try.prog w = .ok 3 w := by
  obtain ⟨i, hi, h⟩ := Option.map_eq_some_iff.1 isz161
  simp [sizeOf, typeInfo, hi, h]

set_option maxHeartbeats 4000000 in
set_option maxRecDepth 100000 in
theorem ins_shift (b n c i vb vc : Nat) (cs vs : List Value) (w : World) (hi : i < n) (hroom : n + 1 ≤ c) (hc63 : c ≤ 9223372036854775807) (hvb : vb ≠ b)
    (hcl : cs.length = n * 3) (hvl : vs.length = 3)
    (hcs : ∀ j v, cs[j]? = some v → w.cell? ⟨b, j, none⟩ = some v) (hsp : ∀ j, j < (n + 1) * 3 → (w.cell? ⟨b, j, none⟩).isSome = true) (hfz : ∀ j, j < (n + 1) * 3 → w.frozen? ⟨b, j, none⟩ = false)
    (hvs : ∀ j v, vs[j]? = some v → w.cell? ⟨vb, j, none⟩ = some v) (h1c : ∀ v ∈ cs, v.oneCell' = true) (h1v : ∀ v ∈ vs, v.oneCell' = true)
    (tA tB : TypeId) (kA kB : Nat) (hsa : w.shape? vb = some (tA, kA)) (hsb : w.shape? b = some (tB, kB)) (hkB : kB ≠ 0) (hfa : w.frozen? ⟨vb, 0, none⟩ = false) (hfe : w.frozen? ⟨vb, kA, none⟩ = false) :
    Calls Try.prog 121 #[.slice (some ⟨b, 0, none⟩) n c, .int .i64 i, .slice (some ⟨vb, 0, none⟩) 1 vc] w fun e w' =>
      e = .returned (.slice (some ⟨b, 0, none⟩) (n + 1) c) ∧ w' = (w.drew.setCells b ((i + 1) * 3) (cs.drop (i * 3))).setCells b (i * 3) vs := by
  have hz2 : ¬ ((i : Int) = (n : Int)) := by omega
  have hov : ∀ lb cb, (callFunc 122 #[.slice (some ⟨vb, 0, none⟩) 1 vc, .slice (some ⟨b, (i + 1) * 3, none⟩) lb cb]).run Try.prog w = .ok (.value (.bool false)) w := fun lb cb => by
    rw [run_callFunc_extern Try.func122 (by kernel_rfl) (by kernel_rfl) (by kernel_rfl) (e := Extern.SlicesOverlaps.overlaps #[156, 156] #[4]) (by kernel_rfl),
      Lib.run_overlaps_apart w 156 4 161 Try.underlying156 3 izz161 ⟨vb, 0, none⟩ ⟨b, (i + 1) * 3, none⟩ 1 vc lb cb hvb tA tB kA kB hsa hsb hkB hfa hfe]
    rfl
  have hdl : (cs.drop (i * 3)).length = (n - i) * 3 := by rw [List.length_drop, hcl]; omega
  have hcp1 : ∀ ty dc sc, (Builtin.copy_ #[156, 156] ty #[.slice (some ⟨b, (i + 1) * 3, none⟩) (n - i) dc, .slice (some ⟨b, i * 3, none⟩) (n + 1 - i) sc]).run Try.prog w.drew = .ok (goInt (Nat.min (n + 1 - i) (n - i) : Nat)) (w.drew.setCells b ((i + 1) * 3) (cs.drop (i * 3))) := fun ty dc sc =>
    run_copy_k w.drew _ _ ty 161 3 b ((i + 1) * 3) (n - i) dc ⟨b, i * 3, none⟩ (n + 1 - i) sc (cs.drop (i * 3)) Try.underlying156 isz161 (by rw [hdl]; simp only [Nat.min_def]; split <;> omega)
      (fun j v hj => by rw [Addr.add_lit]; exact hcs (i * 3 + j) v (by rwa [List.getElem?_drop] at hj))
      (fun j hj => hsp _ (by omega)) (fun j hj => hfz _ (by omega)) (fun v hv => h1c v (List.mem_of_mem_drop hv))
  obtain ⟨W1, hW1⟩ : ∃ W1, W1 = w.drew.setCells b ((i + 1) * 3) (cs.drop (i * 3)) := ⟨_, rfl⟩
  have hsp1 : ∀ k, k < (n + 1) * 3 → (W1.cell? ⟨b, k, none⟩).isSome = true := fun k hk => by
    rw [hW1]
    exact isSome_setCellsJ b (cs.drop (i * 3)) ((i + 1) * 3) w.drew (fun j hj => hsp _ (by rw [hdl] at hj; omega)) _ (hsp k hk)
  have hcp2 : ∀ (W : World), (∀ x, W.cell? x = W1.cell? x) → (∀ x, W.frozen? x = W1.frozen? x) → ∀ ty dc, (Builtin.copy_ #[156, 156] ty #[.slice (some ⟨b, i * 3, none⟩) (n + 1 - i) dc, .slice (some ⟨vb, 0, none⟩) 1 vc]).run Try.prog W = .ok (goInt (Nat.min 1 (n + 1 - i) : Nat)) (W.setCells b (i * 3) vs) := fun W hWc hWf ty dc =>
    run_copy_k W _ _ ty 161 3 b (i * 3) (n + 1 - i) dc ⟨vb, 0, none⟩ 1 vc vs Try.underlying156 isz161 (by rw [hvl]; simp only [Nat.min_def]; split <;> omega)
      (fun j v hj => by
        rw [Addr.add_lit, hWc, hW1, World.cell?_setCells_out b _ _ _ _ (fun h _ => absurd h hvb)]
        rw [Nat.zero_add]; exact hvs j v hj)
      (fun j hj => by rw [hWc]; exact hsp1 _ (by omega)) (fun j hj => by rw [hWf, hW1, World.frozen?_setCells]; exact hfz _ (by omega)) h1v
  rw [← hW1] at hcp1
  have hw1 : IntKind.i64.wrap ((i : Int) + 1) = (i : Int) + 1 := by rw [IntKind.wrap_i64]; omega
  have hw2 : IntKind.i64.wrap ((n : Int) + 1) = (n : Int) + 1 := by rw [IntKind.wrap_i64]; omega
  have hin : i ≤ n := by omega
  have htn : ((i : Int) + 1).toNat = i + 1 := by omega
  have hb2 : ¬ (c = i + 1) := by omega
  have hb3 : (i : Int) ≤ (n : Int) + 1 := by omega
  have hb4 : ¬ (c = i) := by omega
  have hb1 : (0 : Int) ≤ (i : Int) + 1 := by omega
  have mixed := tabOK.mixed
  go_enter Try.func121, Try.ntmps121
  go_wp2
  go_region_law_o (refine step_copy_runJ rfl _ _ 156 156 rfl _ _ (by simp [Act.eval, Act.put]) (by simp [Act.eval, Act.put]) (hcp1 _ _ _) ?_)
  go_wp2_with (at_builtin; refine wpList_copy_runJ _ rfl _ _ 156 156 rfl _ _ rfl rfl (hcp2 _ (fun _ => rfl) (fun _ => rfl) _ _) ?_)
  go_ret
  first | exact ⟨rfl, rfl⟩ | exact ⟨rfl, by rw [hW1]⟩

def zsh : Value := .agg #[(.int .i64 0), (.int .i64 0), (.int .i64 0)]
theorem isz161' : ∃ i0, Try.prog.info? 161 = some i0 ∧ i0.zero = some zsh ∧ i0.size = 3 ∧ i0.bytes = 24 := by
  obtain ⟨i, hi, h⟩ := Option.map_eq_some_iff.1 iinfo161
  simp only [Prod.mk.injEq] at h
  exact ⟨i, hi, h.1, h.2.1, h.2.2⟩

set_option maxHeartbeats 4000000 in
set_option maxRecDepth 100000 in
theorem ins_end_room (b n c vb vc : Nat) (vs : List Value) (w : World) (hroom : n + 1 ≤ c) (hc63 : c ≤ 9223372036854775807)
    (hvl : vs.length = 3) (hsp : ∀ j, j < 3 → (w.cell? ⟨b, n * 3 + j, none⟩).isSome = true) (hfz : ∀ j, j < 3 → w.frozen? ⟨b, n * 3 + j, none⟩ = false)
    (hvs : ∀ j v, vs[j]? = some v → w.cell? ⟨vb, j, none⟩ = some v) (h1v : ∀ v ∈ vs, v.oneCell' = true) :
    Calls Try.prog 121 #[.slice (some ⟨b, 0, none⟩) n c, .int .i64 n, .slice (some ⟨vb, 0, none⟩) 1 vc] w fun e w' =>
      e = .returned (.slice (some ⟨b, 0, none⟩) (n + 1) c) ∧ w' = w.setCells b (n * 3) vs := by
  have mixed := tabOK.mixed
  obtain ⟨i0, hi0, hz0, hzs, hzb⟩ := isz161'
  have hsrc : Src Try.prog i0.size 156 (.slice (some ⟨vb, 0, none⟩) 1 vc) 1 vs w := Src.ofSlice w Try.underlying156 ⟨vb, 0, none⟩ 1 vc vs (by rw [hzs]; omega) (fun j u hj => by rw [Addr.add_lit, Nat.zero_add]; exact hvs j u hj) h1v
  have hrun : ∀ ty, (Builtin.append_ #[156, 156] ty #[.slice (some ⟨b, 0, none⟩) n c, .slice (some ⟨vb, 0, none⟩) 1 vc]).run Try.prog w = .ok (.slice (some ⟨b, 0, none⟩) (n + 1) c) (w.setCells b (n * 3) vs) := fun ty => by
    have h := run_append_room_src w 156 156 ty 161 i0 Try.underlying156 hi0 b 0 n c _ 1 vs hsrc hroom (by rw [hvl, hzs, Nat.zero_add]; exact hsp) (by rw [hvl, hzs, Nat.zero_add]; exact hfz)
    rw [hzs, Nat.zero_add] at h
    exact h
  go_enter Try.func121, Try.ntmps121
  go_wp2_with (at_builtin; refine Lib.wpList_append_run _ rfl _ _ _ _ rfl _ _ rfl rfl _ _ (hrun _) ?_)
  go_ret
  exact ⟨rfl, rfl⟩

set_option maxHeartbeats 4000000 in
set_option maxRecDepth 100000 in
theorem ins_end_grow (b n c vb vc : Nat) (cs vs : List Value) (w : World) (hnc : n ≤ c) (hroom : c < n + 1) (hbig : (n + 1) * 24 ≤ 140737488355328)
    (hcl : cs.length = n * 3) (hvl : vs.length = 3)
    (hcs : ∀ j v, cs[j]? = some v → w.cell? ⟨b, j, none⟩ = some v)
    (hvs : ∀ j v, vs[j]? = some v → w.cell? ⟨vb, j, none⟩ = some v) (h1v : ∀ v ∈ vs, v.oneCell' = true) :
    Calls Try.prog 121 #[.slice (some ⟨b, 0, none⟩) n c, .int .i64 n, .slice (some ⟨vb, 0, none⟩) 1 vc] w fun e w' =>
      e = .returned (.slice (some ⟨w.heap.size, 0, none⟩) (n + 1) (grownCap w (n + 1) c 161)) ∧
      w' = w.drew.alloc (.cells ((cs ++ vs).toArray ++ Builtin.zeroCells zsh.cells (grownCap w (n + 1) c 161 - (n + 1))) 161) := by
  have mixed := tabOK.mixed
  obtain ⟨i0, hi0, hz0, hzs, hzb⟩ := isz161'
  have hsrc : Src Try.prog i0.size 156 (.slice (some ⟨vb, 0, none⟩) 1 vc) 1 vs w := Src.ofSlice w Try.underlying156 ⟨vb, 0, none⟩ 1 vc vs (by rw [hzs]; omega) (fun j u hj => by rw [Addr.add_lit, Nat.zero_add]; exact hvs j u hj) h1v
  have hold : (Builtin.firstCells i0.size n (.slice (some ⟨b, 0, none⟩) n c)).run Try.prog w.drew = .ok cs.toArray w.drew := by
    rw [hzs]
    exact run_firstCells_some w.drew 3 n ⟨b, 0, none⟩ n c cs (by omega) (fun j v hj => by rw [Addr.add_lit, Nat.zero_add]; exact hcs j v hj)
  have hrun : ∀ ty, (Builtin.append_ #[156, 156] ty #[.slice (some ⟨b, 0, none⟩) n c, .slice (some ⟨vb, 0, none⟩) 1 vc]).run Try.prog w = .ok (.slice (some ⟨w.heap.size, 0, none⟩) (n + 1) (grownCap w (n + 1) c 161)) (w.drew.alloc (.cells ((cs ++ vs).toArray ++ Builtin.zeroCells zsh.cells (grownCap w (n + 1) c 161 - (n + 1))) 161)) := fun ty =>
    run_append_grow_src w 156 156 ty 161 i0 zsh Try.underlying156 hi0 hz0 (some ⟨b, 0, none⟩) n c cs hold _ 1 vs hsrc hroom (by omega) (by rw [hzb]; exact growslice_fits hroom hbig)
  obtain ⟨G, hG⟩ : ∃ G, G = grownCap w (n + 1) c 161 := ⟨_, rfl⟩
  rw [← hG] at hrun ⊢
  obtain ⟨ROW, hROW⟩ : ∃ ROW : Array Value, ROW = (cs ++ vs).toArray ++ Builtin.zeroCells zsh.cells (G - (n + 1)) := ⟨_, rfl⟩
  rw [← hROW] at hrun ⊢
  clear hROW hG
  go_enter Try.func121, Try.ntmps121
  go_wp2_with (at_builtin; refine Lib.wpList_append_run _ rfl _ _ _ _ rfl _ _ rfl rfl _ _ (hrun _) ?_)
  all_goals (go_ret; exact ⟨rfl, rfl⟩)

set_option maxHeartbeats 4000000 in
set_option maxRecDepth 100000 in
theorem ins_grow (b n c i vb vc : Nat) (cs vs : List Value) (w : World) (hi : i < n) (hnc : n ≤ c) (hroom : c < n + 1) (hbig : (n + 1) * 24 ≤ 140737488355328)
    (hcl : cs.length = n * 3) (hvl : vs.length = 3)
    (hcs : ∀ j v, cs[j]? = some v → w.cell? ⟨b, j, none⟩ = some v)
    (hvs : ∀ j v, vs[j]? = some v → w.cell? ⟨vb, j, none⟩ = some v) (h1c : ∀ v ∈ cs, v.oneCell' = true) (h1v : ∀ v ∈ vs, v.oneCell' = true) :
    Calls Try.prog 121 #[.slice (some ⟨b, 0, none⟩) n c, .int .i64 i, .slice (some ⟨vb, 0, none⟩) 1 vc] w fun e w' =>
      e = .returned (.slice (some ⟨w.heap.size, 0, none⟩) (n + 1) (grownCap w (n + 1) c 161)) ∧
      w' = (((w.alloc (.cells ((cs.take (i * 3)).toArray ++ Builtin.zeroCells zsh.cells (n + 1 - i) ++ Builtin.zeroCells zsh.cells (grownCap w (n + 1) c 161 - (n + 1))) 161)).drew.setCells w.heap.size (i * 3) vs).drew).setCells w.heap.size ((i + 1) * 3) (cs.drop (i * 3)) := by
  have mixed := tabOK.mixed
  obtain ⟨i0, hi0, hz0, hzs, hzb⟩ := isz161'
  have hz2 : ¬ ((i : Int) = (n : Int)) := by omega
  have hz3 : (c : Int) < (n : Int) + 1 := by omega
  have hbw : b < w.heap.size := block_lt_of_cell (hcs 0 _ (List.getElem?_eq_getElem (by omega)))
  have hvw : vb < w.heap.size := block_lt_of_cell (hvs 0 _ (List.getElem?_eq_getElem (by omega)))
  have hkk : (n : Int) + 1 - (i : Int) = ((n + 1 - i : Nat) : Int) := by omega
  have hik : i + (n + 1 - i) = n + 1 := by omega
  have hold : (Builtin.firstCells i0.size i (.slice (some ⟨b, 0, none⟩) i c)).run Try.prog w.drew = .ok (cs.take (i * 3)).toArray w.drew := by
    rw [hzs]
    exact run_firstCells_some w.drew 3 i ⟨b, 0, none⟩ i c (cs.take (i * 3)) (by rw [List.length_take]; omega) (fun j v hj => by
      rw [Addr.add_lit, Nat.zero_add]
      rw [List.getElem?_take] at hj
      split at hj
      · exact hcs j v hj
      · cases hj)
  have hrz : ∀ ty, (Builtin.append_ #[156, 3] ty #[.slice (some ⟨b, 0, none⟩) i c, .int .i64 ((n : Int) + 1 - (i : Int))]).run Try.prog w =
      .ok (.slice (some ⟨w.heap.size, 0, none⟩) (n + 1) (grownCap w (n + 1) c 161)) (w.drew.alloc (.cells ((cs.take (i * 3)).toArray ++ Builtin.zeroCells zsh.cells (n + 1 - i) ++ Builtin.zeroCells zsh.cells (grownCap w (n + 1) c 161 - (n + 1))) 161)) := fun ty => by
    have h := Lib.run_append_grow_zeros w 156 3 ty 161 i0 _ .i64 .i64 Try.underlying156 Try.underlying3 hi0 hz0 (some ⟨b, 0, none⟩) i c (cs.take (i * 3)) hold (n + 1 - i) (by omega) (by omega) (by omega) (by omega) (by rw [hzb]; omega) (by rw [hzb, hik]; exact growslice_fits hroom hbig)
    rw [hik] at h
    rw [hkk]
    exact h
  obtain ⟨G, hG⟩ : ∃ G, G = grownCap w (n + 1) c 161 := ⟨_, rfl⟩
  obtain ⟨ROW, hROW⟩ : ∃ ROW : Array Value, ROW = (cs.take (i * 3)).toArray ++ Builtin.zeroCells zsh.cells (n + 1 - i) ++ Builtin.zeroCells zsh.cells (G - (n + 1)) := ⟨_, rfl⟩
  rw [← hG] at hrz ⊢
  rw [← hROW] at hrz ⊢
  have hRl : (n + 1) * 3 ≤ ROW.size := by
    rw [hROW]
    have hz : ∀ k, (Builtin.zeroCells zsh.cells k).size = k * 3 := fun k => by simp [Builtin.zeroCells, Value.cells, zsh]
    simp only [Array.size_append, hz, List.size_toArray, List.length_take]
    omega
  obtain ⟨W1, hW1⟩ : ∃ W1, W1 = w.drew.alloc (.cells ROW 161) := ⟨_, rfl⟩
  rw [← hW1] at hrz
  have hN : ∀ j, j < (n + 1) * 3 → (W1.cell? ⟨w.heap.size, j, none⟩).isSome = true := fun j hj => by
    rw [hW1, World.cell?_alloc_at (w := w.drew) ROW _ w.heap.size j rfl, Array.getElem?_eq_getElem (by omega)]; rfl
  have hNf : ∀ j, W1.frozen? ⟨w.heap.size, j, none⟩ = false := fun j => by rw [hW1]; exact World.frozen?_alloc_at (w := w.drew) ROW _ w.heap.size j rfl
  have hOb : ∀ j v, w.cell? ⟨b, j, none⟩ = some v → W1.cell? ⟨b, j, none⟩ = some v := fun j v h => by rw [hW1, World.cell?_alloc_past (w := w.drew) _ b j hbw]; exact h
  have hOv : ∀ j v, w.cell? ⟨vb, j, none⟩ = some v → W1.cell? ⟨vb, j, none⟩ = some v := fun j v h => by rw [hW1, World.cell?_alloc_past (w := w.drew) _ vb j hvw]; exact h
  have hcpA : ∀ (W : World), (∀ x, W.cell? x = W1.cell? x) → (∀ x, W.frozen? x = W1.frozen? x) → ∀ ty dc, (Builtin.copy_ #[156, 156] ty #[.slice (some ⟨w.heap.size, i * 3, none⟩) (n + 1 - i) dc, .slice (some ⟨vb, 0, none⟩) 1 vc]).run Try.prog W = .ok (goInt (Nat.min 1 (n + 1 - i) : Nat)) (W.setCells w.heap.size (i * 3) vs) := fun W hWc hWf ty dc =>
    run_copy_k W _ _ ty 161 3 w.heap.size (i * 3) (n + 1 - i) dc ⟨vb, 0, none⟩ 1 vc vs Try.underlying156 isz161 (by rw [hvl]; simp only [Nat.min_def]; split <;> omega)
      (fun j v hj => by rw [Addr.add_lit, Nat.zero_add, hWc]; exact hOv _ v (hvs j v hj))
      (fun j hj => by rw [hWc]; exact hN _ (by omega)) (fun j hj => by rw [hWf]; exact hNf _) h1v
  have hGn : n + 1 ≤ G := by rw [hG]; exact grownCap_ge w _ _ _
  have hG63 : G ≤ 9223372036854775807 := by
    have := grownCap_le_maxLen w (n + 1) c 161 (by unfold maxLen; omega)
    rw [← hG] at this
    unfold maxLen at this
    omega
  have hGi : ¬ (G = i) := by omega
  have hGim : ¬ (G = i + 1) := by omega
  have hbN : b ≠ w.heap.size := by omega
  have hdl : (cs.drop (i * 3)).length = (n - i) * 3 := by rw [List.length_drop, hcl]; omega
  have hcpB : ∀ (W : World), (∀ x, W.cell? x = (W1.setCells w.heap.size (i * 3) vs).cell? x) → (∀ x, W.frozen? x = (W1.setCells w.heap.size (i * 3) vs).frozen? x) → ∀ ty dc sc, (Builtin.copy_ #[156, 156] ty #[.slice (some ⟨w.heap.size, (i + 1) * 3, none⟩) (n - i) dc, .slice (some ⟨b, i * 3, none⟩) (n - i) sc]).run Try.prog W = .ok (goInt (Nat.min (n - i) (n - i) : Nat)) (W.setCells w.heap.size ((i + 1) * 3) (cs.drop (i * 3))) := fun W hWc hWf ty dc sc =>
    run_copy_k W _ _ ty 161 3 w.heap.size ((i + 1) * 3) (n - i) dc ⟨b, i * 3, none⟩ (n - i) sc (cs.drop (i * 3)) Try.underlying156 isz161 (by rw [hdl]; simp only [Nat.min_def]; split <;> omega)
      (fun j v hj => by
        rw [Addr.add_lit, hWc, World.cell?_setCells_out _ _ _ _ _ (fun h _ => absurd h hbN)]
        exact hOb _ v (hcs (i * 3 + j) v (by rwa [List.getElem?_drop] at hj)))
      (fun j hj => by rw [hWc]; exact isSome_setCellsJ w.heap.size vs (i * 3) W1 (fun t ht => hN _ (by omega)) _ (hN _ (by omega)))
      (fun j hj => by rw [hWf, World.frozen?_setCells]; exact hNf _) (fun v hv => h1c v (List.mem_of_mem_drop hv))
  subst hW1
  have hE1 : ∀ x, ((w.alloc (.cells ROW 161)).drew).cell? x = (w.drew.alloc (.cells ROW 161)).cell? x := fun x => rfl
  have hE2 : ∀ x, ((w.alloc (.cells ROW 161)).drew).frozen? x = (w.drew.alloc (.cells ROW 161)).frozen? x := fun x => rfl
  have hF1 : ∀ x, (((w.alloc (.cells ROW 161)).drew.setCells w.heap.size (i * 3) vs).drew).cell? x = ((w.drew.alloc (.cells ROW 161)).setCells w.heap.size (i * 3) vs).cell? x := fun x => rfl
  have hF2 : ∀ x, (((w.alloc (.cells ROW 161)).drew.setCells w.heap.size (i * 3) vs).drew).frozen? x = ((w.drew.alloc (.cells ROW 161)).setCells w.heap.size (i * 3) vs).frozen? x := fun x => rfl
  have hw1 : IntKind.i64.wrap ((i : Int) + 1) = (i : Int) + 1 := by rw [IntKind.wrap_i64]; omega
  have hw2 : IntKind.i64.wrap ((n : Int) + 1) = (n : Int) + 1 := by rw [IntKind.wrap_i64]; omega
  have hw3 : IntKind.i64.wrap ((n : Int) + 1 - i) = (n : Int) + 1 - i := by rw [IntKind.wrap_i64]; omega
  have hb1 : (0 : Int) ≤ (i : Int) + 1 := by omega
  have hin : i ≤ n := by omega
  have htn : ((i : Int) + 1).toNat = i + 1 := by omega
  have hb3 : (i : Int) ≤ (n : Int) := by omega
  have hci : ¬ (c = i) := by omega
  clear hkk hik hold hROW hG hRl
  go_enter Try.func121, Try.ntmps121
  go_wp2_with (first
    | (at_builtin; refine Lib.wpList_append_run _ rfl _ _ _ _ rfl _ _ rfl rfl _ _ (hrz _) ?_)
    | (at_builtin; refine wpList_copy_runJ _ rfl _ _ 156 156 rfl _ _ rfl rfl (hcpA _ hE1 hE2 _ _) ?_)
    | (at_builtin; refine wpList_copy_runJ _ rfl _ _ 156 156 rfl _ _ rfl rfl (hcpB _ (fun _ => rfl) (fun _ => rfl) _ _ _) ?_))
  go_region_law_o (refine step_copy_runJ rfl _ _ 156 156 rfl (.slice (some ⟨w.heap.size, (i + 1) * 3, none⟩) (n - i) (G - (i + 1))) (.slice (some ⟨b, i * 3, none⟩) (n - i) (c - i)) (by simp [Act.eval, Act.put]) (by simp [Act.eval, Act.put]) (hcpB _ hF1 hF2 3 (G - (i + 1)) (c - i)) ?_)
  go_wp2
  go_ret
  exact ⟨rfl, rfl⟩
end Go.Proofs.Ytcmedheeafiogaa

namespace Go.Proofs.Ytcmedheeafiogaa
open Go.Sy

theorem heap_setCells (b : Nat) (t : TypeId) (f : Nat × Nat) : ∀ (vs : List Value) (o : Nat) (w : World) (cur : Array Value), w.heap[b]? = some (.cells cur t f) → o + vs.length ≤ cur.size →
    ∃ cs', (w.setCells b o vs).heap[b]? = some (.cells cs' t f) ∧ cs'.size = cur.size ∧ (∀ j, cs'[j]? = if o ≤ j ∧ j < o + vs.length then vs[j - o]? else cur[j]?) ∧
      (w.setCells b o vs).heap.size = w.heap.size ∧ (∀ g, g ≠ b → (w.setCells b o vs).heap[g]? = w.heap[g]?) ∧ (w.setCells b o vs).os = w.os ∧ (w.setCells b o vs).tape = w.tape ∧ (w.setCells b o vs).output = w.output
  | [], o, w, cur, h, _ => ⟨cur, h, rfl, fun j => by rw [if_neg (by simp)], rfl, fun _ _ => rfl, rfl, rfl, rfl⟩
  | v :: r, o, w, cur, h, hl => by
    have e := setCell_eq_setRow w b o cur t f v h
    have h1 : (w.setCell ⟨b, o, none⟩ v).heap[b]? = some (.cells (cur.setIfInBounds o v) t f) := by rw [e]; exact setRow_heap w b cur _ t f h
    obtain ⟨cs', k1, k2, k3, k4, k5, k6, k7, k8⟩ := heap_setCells b t f r (o + 1) (w.setCell ⟨b, o, none⟩ v) (cur.setIfInBounds o v) h1 (by simp at hl ⊢; omega)
    refine ⟨cs', k1, by rw [k2]; simp, fun j => ?_, by rw [World.setCells, k4, e]; simp, fun g hg => by rw [World.setCells, k5 g hg, e, setRow_other w b g _ hg], by rw [World.setCells, k6, e]; rfl, by rw [World.setCells, k7, e]; rfl, by rw [World.setCells, k8, e]; rfl⟩
    rw [k3 j]
    simp only [List.length_cons] at hl ⊢
    by_cases c0 : j = o
    · subst c0
      rw [if_neg (by omega), if_pos (by omega), Array.getElem?_setIfInBounds_self_of_lt (by omega)]
      simp
    · by_cases c1 : o + 1 ≤ j ∧ j < o + 1 + r.length
      · rw [if_pos c1, if_pos (by omega), show j - o = (j - (o + 1)) + 1 by omega]; rfl
      · rw [if_neg c1, if_neg (by omega), Array.getElem?_setIfInBounds_ne (by omega)]

/-- A shelf more, ahead of place k. -/
def insAt (sh : List Shelf) (k : Nat) (s : Shelf) : List Shelf := sh.take k ++ s :: sh.drop k

theorem flat_len (sh : List Shelf) : (sh.flatMap encShelf.E).length = sh.length * 3 := by
  induction sh with
  | nil => rfl
  | cons s r ih => rw [List.flatMap_cons, List.length_append, ih]; show 3 + _ = _; simp; omega
theorem flat_take (sh : List Shelf) (k : Nat) (hk : k ≤ sh.length) : (sh.take k).flatMap encShelf.E = (sh.flatMap encShelf.E).take (k * 3) := by
  have h : sh.flatMap encShelf.E = (sh.take k).flatMap encShelf.E ++ (sh.drop k).flatMap encShelf.E := by rw [← List.flatMap_append, List.take_append_drop]
  have hl : ((sh.take k).flatMap encShelf.E).length = k * 3 := by rw [flat_len, List.length_take]; omega
  rw [h, ← hl, List.take_left]
theorem flat_drop (sh : List Shelf) (k : Nat) (hk : k ≤ sh.length) : (sh.drop k).flatMap encShelf.E = (sh.flatMap encShelf.E).drop (k * 3) := by
  have h : sh.flatMap encShelf.E = (sh.take k).flatMap encShelf.E ++ (sh.drop k).flatMap encShelf.E := by rw [← List.flatMap_append, List.take_append_drop]
  have hl : ((sh.take k).flatMap encShelf.E).length = k * 3 := by rw [flat_len, List.length_take]; omega
  rw [h, ← hl, List.drop_left]
theorem ins_get (ν : Nat → Pl) (sh : List Shelf) (k : Nat) (s : Shelf) (hk : k ≤ sh.length) (j : Nat) :
    (((insAt sh k s).flatMap encShelf.E).map (CV.den ν))[j]? = if j < k * 3 then ((sh.flatMap encShelf.E).map (CV.den ν))[j]? else if j < k * 3 + 3 then ((encShelf.E s).map (CV.den ν))[j - k * 3]? else ((sh.flatMap encShelf.E).map (CV.den ν))[j - 3]? := by
  unfold insAt
  rw [List.flatMap_append, List.flatMap_cons, flat_take sh k hk, flat_drop sh k hk]
  simp only [List.map_append, List.map_take, List.map_drop]
  have hl : (((sh.flatMap encShelf.E).map (CV.den ν)).take (k * 3)).length = k * 3 := by rw [List.length_take, List.length_map, flat_len]; omega
  have hl2 : ((encShelf.E s).map (CV.den ν)).length = 3 := rfl
  by_cases c : j < k * 3
  · rw [if_pos c, List.getElem?_append_left (by rw [hl]; exact c), List.getElem?_take, if_pos c]
  · rw [if_neg c, List.getElem?_append_right (by rw [hl]; omega), hl]
    by_cases c2 : j < k * 3 + 3
    · rw [if_pos c2, List.getElem?_append_left (by rw [hl2]; omega)]
    · rw [if_neg c2, List.getElem?_append_right (by rw [hl2]; omega), hl2, List.getElem?_drop]
      congr 1; omega

/-- The end of each road. -/
theorem ins_fin {sh ys : List Shelf} {s : Shelf} {ν : Nat → Pl} {V : Nat → Prop} {w w' : World} {fp : Nat → Nat → Prop} (H : Holds (Lt 2) ν V (hpL [some (.rows 161 encShelf sh), some (.cells 161 (encShelf.E s))]) w fp)
    (gb cap : Nat) (cs' : Array Value) (hos : w'.os = w.os) (ht : w'.tape = w.tape) (ho : w'.output = w.output) (hsz : w.heap.size ≤ w'.heap.size) (hsame : ∀ b, b ≠ gb → b < w.heap.size → w'.heap[b]? = w.heap[b]?)
    (hgb : fp 0 gb ∨ gb = w.heap.size) (hrow : w'.heap[gb]? = some (.cells cs' 161 (0, 0))) (hcs : cs'.size = cap * 3) (hcap : ys.length ≤ cap ∧ cap ≤ maxLen)
    (hpre : ∀ (j : Nat) v, ((ys.flatMap encShelf.E).map (CV.den ν))[j]? = some v → cs'[j]? = some v) (e : Ending) (he : e = .returned (.slice (some ⟨gb, 0, none⟩) ys.length cap)) :
    ∃ res post ν' V' fp', e = .returned (res.den ν') ∧ (∀ ν'', Agree (Lt post.length) ν' ν'' → res.den ν'' = res.den ν') ∧ [some (Chunk.rows 161 encShelf sh), some (.cells 161 (encShelf.E s))].length ≤ post.length ∧ Agree (Lt 2) ν ν' ∧
      Holds (Lt post.length) ν' V' (hpL post) w' fp' ∧ Ext w V (Sy.foot fp) w' V' (Sy.foot fp') ∧ (res = SV.v (PV.one (.slice 2 0 3 ys.length)) ∧ post = [none, some (.cells 161 (encShelf.E s)), some (.rows 161 encShelf ys)]) := by
  have hlt : gb < w'.heap.size := (Array.getElem?_eq_some_iff.1 hrow).1
  have hden : ∀ ν', (ys.flatMap encShelf.E).map (CV.den ν') = (ys.flatMap encShelf.E).map (CV.den ν) := by
    intro ν'
    apply List.map_congr_left
    intro c hc
    obtain ⟨x, _, hx⟩ := List.mem_flatMap.1 hc
    exact CV.den_plain (List.all_eq_true.1 (encShelf.hP x) c hx) _ _
  have hD := H.drop 0
  have hA := hD.add (nm := 2) (w' := w') (fun h => by simp [Lt] at h) ⟨gb, 0, cap, false⟩ (.rows 161 encShelf ys) (fun b => b = gb) hsz
    (fun h b hb => by
      by_cases e0 : 0 = h
      · subst e0; rw [upd_same] at hb; exact hb.elim
      · rw [upd_other _ _ e0] at hb
        refine hsame b (fun e => ?_) (H.low h b hb)
        subst e
        rcases hgb with h1 | h1
        · exact e0 (H.disj _ _ _ h1 hb)
        · have := H.low h _ hb; omega)
    (fun b hb => hsame b (fun e => by
      subst e
      rcases hgb with h1 | h1
      · exact H.nv _ _ h1 hb
      · have := H.vlow _ hb; omega) (H.vlow b hb))
    (fun b hb => by
      subst hb
      refine ⟨hlt, fun hV => ?_, fun h hb => ?_⟩
      · rcases hgb with h1 | h1
        · exact H.nv _ _ h1 hV
        · have := H.vlow _ hV; omega
      · by_cases e0 : 0 = h
        · subst e0; rw [upd_same] at hb; exact hb
        · rw [upd_other _ _ e0] at hb
          rcases hgb with h1 | h1
          · exact e0 (H.disj _ _ _ h1 hb)
          · have := H.low h _ hb; omega)
    (fun ν' hν => .inr ⟨rfl, rfl, hcap, ⟨cs', hrow, hcs, fun j v hj => hpre j v (by rw [← hden ν']; exact hj)⟩, fun b => Iff.rfl⟩)
  have hag : Agree (Lt 2) ν (Sy.upd ν 2 ⟨gb, 0, cap, false⟩) := fun i hi => upd_other _ _ (Nat.ne_of_gt hi)
  have hhp : Sy.upd (Sy.upd (hpL [some (Chunk.rows 161 encShelf sh), some (.cells 161 (encShelf.E s))]) 0 none) 2 (some (.rows 161 encShelf ys)) = hpL [none, some (.cells 161 (encShelf.E s)), some (.rows 161 encShelf ys)] := by
    funext g
    match g with
    | 0 => rfl
    | 1 => rfl
    | 2 => rfl
    | n + 3 => rfl
  rw [hhp] at hA
  refine ⟨_, _, Sy.upd ν 2 ⟨gb, 0, cap, false⟩, V, _, ?_, ?_, by simp, hag, hA.mono (ins_lt 2), ⟨hos, ht, ho, hsz, ?_, ?_, fun _ h => h, fun _ h => .inl h⟩, rfl, rfl⟩
  · rw [he]
    simp [SV.den, PV.den, CV.den, upd_same]
  · intro ν'' hν
    have := hν 2 (by simp [Lt])
    simp [SV.den, PV.den, CV.den, this]
  · intro b hb hF
    refine hsame b (fun e => ?_) hb
    subst e
    rcases hgb with h1 | h1
    · exact hF ⟨0, h1⟩
    · omega
  · rintro b ⟨h, hb⟩
    by_cases e2 : 2 = h
    · subst e2
      rw [upd_same] at hb
      subst hb
      rcases hgb with h1 | h1
      · exact .inl ⟨0, h1⟩
      · right; omega
    · rw [upd_other _ _ e2] at hb
      by_cases e0 : 0 = h
      · subst e0; rw [upd_same] at hb; exact hb.elim
      · rw [upd_other _ _ e0] at hb; exact .inl ⟨h, hb⟩

theorem t121 (sh : List Shelf) (s : Shelf) (k : Nat) (hk : k ≤ sh.length) (h0 : 0 < sh.length) (hb : sh.length < 2 ^ 40) :
    Tri Try.prog 121 [.one (.slice 0 0 3 sh.length), .one (ci k), .one (.slice 1 0 3 1)] [some (.rows 161 encShelf sh), some (.cells 161 (encShelf.E s))]
      (fun r post => r = .v (.one (.slice 2 0 3 (insAt sh k s).length)) ∧ post = [none, some (.cells 161 (encShelf.E s)), some (.rows 161 encShelf (insAt sh k s))]) := by
  refine ⟨⟨Try.f121, Try.func121, rfl, rfl⟩, fun ν V fp w H hst => ?_⟩
  have hyl : (insAt sh k s).length = sh.length + 1 := by unfold insAt; simp; omega
  rcases H.sat ν (Agree.refl _ _) 0 _ rfl with ⟨_, _, h, _⟩ | ⟨hn, ho, ⟨hc1, hc2⟩, ⟨cs0, hh, hsz, hpre⟩, hF⟩
  · rw [h] at h0; simp at h0
  obtain ⟨n1, o1, h1h, h1F⟩ := H.sat ν (Agree.refl _ _) 1 _ rfl
  have hF0 : fp 0 (ν 0).b := (hF _).2 rfl
  have hF1 : fp 1 (ν 1).b := (h1F _).2 rfl
  have hne : (ν 1).b ≠ (ν 0).b := fun e => by
    rw [e] at hF1
    exact absurd (H.disj _ _ _ hF0 hF1) (by decide)
  have hlt0 := H.low _ _ hF0
  have hsz : cs0.size = (ν 0).cap * 3 := hsz
  have hzz : ∀ k, (Builtin.zeroCells zsh.cells k).size = k * 3 := fun k => by simp [Builtin.zeroCells, Value.cells, zsh]
  have hc63 : (ν 0).cap ≤ 9223372036854775807 := by unfold maxLen at hc2; omega
  have hargs : ([PV.one (.slice 0 0 3 sh.length), .one (ci k), .one (.slice 1 0 3 1)].map (PV.den ν)).toArray = #[.slice (some ⟨(ν 0).b, 0, none⟩) sh.length (ν 0).cap, .int .i64 k, .slice (some ⟨(ν 1).b, 0, none⟩) 1 (ν 1).cap] := by
    simp [PV.den, CV.den, hn, ho, n1, o1]
  rw [hargs]
  generalize hcs : (sh.flatMap encShelf.E).map (CV.den ν) = cs at hpre
  generalize hvs : (encShelf.E s).map (CV.den ν) = vs at h1h
  have hcl : cs.length = sh.length * 3 := by rw [← hcs, List.length_map, flat_len]
  have hvl : vs.length = 3 := by rw [← hvs]; rfl
  have h1c : ∀ v ∈ cs, v.oneCell' = true := by
    intro v hv; rw [← hcs] at hv
    obtain ⟨c, _, rfl⟩ := List.mem_map.1 hv
    exact CV.den_one ν c
  have h1v : ∀ v ∈ vs, v.oneCell' = true := by
    intro v hv; rw [← hvs] at hv
    obtain ⟨c, _, rfl⟩ := List.mem_map.1 hv
    exact CV.den_one ν c
  have hcc : ∀ j, w.cell? ⟨(ν 0).b, j, none⟩ = cs0[j]? := fun j => by simp [World.cell?, hh]
  have hvc : ∀ j, w.cell? ⟨(ν 1).b, j, none⟩ = vs[j]? := fun j => by simp [World.cell?, h1h]
  have hcf : ∀ j, w.frozen? ⟨(ν 0).b, j, none⟩ = false := fun j => by simp [World.frozen?, hh]
  have hvf : ∀ j, w.frozen? ⟨(ν 1).b, j, none⟩ = false := fun j => by simp [World.frozen?, h1h]
  have hget := ins_get ν sh k s hk
  rw [hcs, hvs] at hget
  rcases Nat.lt_or_ge (ν 0).cap (sh.length + 1) with hg | hg
  · -- a new row
    have hbig : (sh.length + 1) * 24 ≤ 140737488355328 := by omega
    rcases Nat.lt_or_ge k sh.length with hkn | hkn
    · refine (ins_grow (ν 0).b sh.length (ν 0).cap k (ν 1).b (ν 1).cap cs vs w hkn hc1 hg hbig hcl hvl (fun j v h => by rw [hcc]; exact hpre j v h) (fun j v h => by rw [hvc]; exact h) h1c h1v).mono ?_
      rintro e w' ⟨he, hw⟩
      obtain ⟨G, hG⟩ : ∃ G, G = grownCap w (sh.length + 1) (ν 0).cap 161 := ⟨_, rfl⟩
      have hG1 : sh.length + 1 ≤ G := by rw [hG]; exact grownCap_ge w _ _ _
      have hG2 : G ≤ maxLen := by rw [hG]; exact grownCap_le_maxLen w _ _ _ (by unfold maxLen; omega)
      rw [← hG] at he hw
      obtain ⟨ROW, hROW⟩ : ∃ ROW : Array Value, ROW = (cs.take (k * 3)).toArray ++ Builtin.zeroCells zsh.cells (sh.length + 1 - k) ++ Builtin.zeroCells zsh.cells (G - (sh.length + 1)) := ⟨_, rfl⟩
      rw [← hROW] at hw
      have hRs : ROW.size = G * 3 := by
        rw [hROW]
        simp only [Array.size_append, hzz, List.size_toArray, List.length_take]
        omega
      have hR0 : ∀ j, j < k * 3 → ROW[j]? = cs[j]? := fun j hj => by
        rw [hROW, Array.getElem?_append_left (by simp only [Array.size_append, hzz, List.size_toArray, List.length_take]; omega), Array.getElem?_append_left (by simp only [List.size_toArray, List.length_take]; omega)]
        rw [List.getElem?_toArray, List.getElem?_take, if_pos hj]
      obtain ⟨c1, k1, k2, k3, k4, k5, k6, k7, k8⟩ := heap_setCells w.heap.size 161 (0, 0) vs (k * 3) ((w.alloc (.cells ROW 161)).drew) ROW (heap_alloc_new w _) (by omega)
      obtain ⟨c2, l1, l2, l3, l4, l5, l6, l7, l8⟩ := heap_setCells w.heap.size 161 (0, 0) (cs.drop (k * 3)) ((k + 1) * 3) (((w.alloc (.cells ROW 161)).drew.setCells w.heap.size (k * 3) vs).drew) c1 k1 (by rw [List.length_drop]; omega)
      have hsz1 : (w.alloc (.cells ROW 161)).heap.size = w.heap.size + 1 := by simp
      have hdr : ∀ u : World, u.drew.heap = u.heap ∧ u.drew.os = u.os ∧ u.drew.tape = u.tape ∧ u.drew.output = u.output := fun u => ⟨rfl, rfl, rfl, rfl⟩
      subst hw
      refine ins_fin H w.heap.size G c2 (by rw [l6, (hdr _).2.1, k6]; rfl) (by rw [l7, (hdr _).2.2.1, k7]; rfl) (by rw [l8, (hdr _).2.2.2, k8]; rfl) (by rw [l4, (hdr _).1, k4, (hdr _).1, hsz1]; omega)
        (fun b hb hlt => by rw [l5 b hb, (hdr _).1, k5 b hb, (hdr _).1]; exact heap_alloc_lt w _ b hlt) (.inr rfl) l1 (by omega) ⟨by omega, hG2⟩ (fun j v hj => ?_) e (by rw [he, hyl])
      rw [hget] at hj
      rw [l3, k3]
      split at hj
      · rw [if_neg (by omega), if_neg (by omega), hR0 j (by omega)]
        exact hj
      · split at hj
        · rw [if_neg (by omega), if_pos (by omega)]; exact hj
        · have hjl := (List.getElem?_eq_some_iff.1 hj).1
          rw [if_pos (by rw [List.length_drop]; omega), List.getElem?_drop, show k * 3 + (j - (k + 1) * 3) = j - 3 by omega]
          exact hj
    · have hkn : k = sh.length := by omega
      subst hkn
      refine (ins_end_grow (ν 0).b sh.length (ν 0).cap (ν 1).b (ν 1).cap cs vs w hc1 hg hbig hcl hvl (fun j v h => by rw [hcc]; exact hpre j v h) (fun j v h => by rw [hvc]; exact h) h1v).mono ?_
      rintro e w' ⟨he, hw⟩
      obtain ⟨G, hG⟩ : ∃ G, G = grownCap w (sh.length + 1) (ν 0).cap 161 := ⟨_, rfl⟩
      have hG1 : sh.length + 1 ≤ G := by rw [hG]; exact grownCap_ge w _ _ _
      have hG2 : G ≤ maxLen := by rw [hG]; exact grownCap_le_maxLen w _ _ _ (by unfold maxLen; omega)
      rw [← hG] at he hw
      subst hw
      refine ins_fin (w' := w.drew.alloc (.cells ((cs ++ vs).toArray ++ Builtin.zeroCells zsh.cells (G - (sh.length + 1))) 161)) H w.heap.size G ((cs ++ vs).toArray ++ Builtin.zeroCells zsh.cells (G - (sh.length + 1))) rfl rfl rfl (by simp) (fun b _ hlt => heap_alloc_lt w.drew _ b hlt) (.inr rfl) (heap_alloc_new w.drew _) ?_ ⟨by omega, hG2⟩ (fun j v hj => ?_) e (by rw [he, hyl])
      · simp only [Array.size_append, hzz, List.size_toArray, List.length_append]; omega
      · rw [hget] at hj
        have hjl : j < sh.length * 3 + 3 := by
          split at hj
          · omega
          · split at hj
            · omega
            · have := (List.getElem?_eq_some_iff.1 hj).1; omega
        rw [Array.getElem?_append_left (by simp only [List.size_toArray, List.length_append]; omega), List.getElem?_toArray]
        split at hj
        · rw [List.getElem?_append_left (by omega)]; exact hj
        · first | rw [if_pos hjl] at hj | skip
          rw [List.getElem?_append_right (by omega), hcl]; exact hj
  · rcases Nat.lt_or_ge k sh.length with hkn | hkn
    · refine (ins_shift (ν 0).b sh.length (ν 0).cap k (ν 1).b (ν 1).cap cs vs w hkn hg hc63 hne hcl hvl (fun j v h => by rw [hcc]; exact hpre j v h) (fun j hj => by rw [hcc, Array.getElem?_eq_getElem (by omega)]; rfl) (fun j _ => hcf j) (fun j v h => by rw [hvc]; exact h) h1c h1v 161 161 vs.length cs0.size (by simp [World.shape?, h1h]) (by simp [World.shape?, hh]) (by omega) (hvf _) (hvf _)).mono ?_
      rintro e w' ⟨he, hw⟩
      obtain ⟨c1, k1, k2, k3, k4, k5, k6, k7, k8⟩ := heap_setCells (ν 0).b 161 (0, 0) (cs.drop (k * 3)) ((k + 1) * 3) w.drew cs0 hh (by rw [List.length_drop]; omega)
      obtain ⟨c2, l1, l2, l3, l4, l5, l6, l7, l8⟩ := heap_setCells (ν 0).b 161 (0, 0) vs (k * 3) _ c1 k1 (by omega)
      subst hw
      refine ins_fin H (ν 0).b (ν 0).cap c2 (by rw [l6, k6]; rfl) (by rw [l7, k7]; rfl) (by rw [l8, k8]; rfl) (by rw [l4, k4]; exact Nat.le_refl _) (fun b hb _ => by rw [l5 b hb, k5 b hb]; rfl) (.inl hF0) l1 (by omega) ⟨by omega, hc2⟩ (fun j v hj => ?_) e (by rw [he, hyl])
      rw [hget] at hj
      rw [l3, k3]
      split at hj
      · rename_i hj1
        rw [if_neg (by omega), if_neg (by omega)]
        exact hpre j v hj
      · split at hj
        · rw [if_pos (by omega)]; exact hj
        · have hjl := (List.getElem?_eq_some_iff.1 hj).1
          rw [if_neg (by omega), if_pos (by rw [List.length_drop]; omega), List.getElem?_drop, show k * 3 + (j - (k + 1) * 3) = j - 3 by omega]
          exact hj
    · have hkn : k = sh.length := by omega
      subst hkn
      refine (ins_end_room (ν 0).b sh.length (ν 0).cap (ν 1).b (ν 1).cap vs w hg hc63 hvl (fun j hj => by rw [hcc, Array.getElem?_eq_getElem (by omega)]; rfl) (fun j _ => hcf _) (fun j v h => by rw [hvc]; exact h) h1v).mono ?_
      rintro e w' ⟨he, hw⟩
      obtain ⟨c2, l1, l2, l3, l4, l5, l6, l7, l8⟩ := heap_setCells (ν 0).b 161 (0, 0) vs (sh.length * 3) w cs0 hh (by omega)
      subst hw
      refine ins_fin H (ν 0).b (ν 0).cap c2 l6 l7 l8 (by rw [l4]; exact Nat.le_refl _) (fun b hb _ => l5 b hb) (.inl hF0) l1 (by omega) ⟨by omega, hc2⟩ (fun j v hj => ?_) e (by rw [he, hyl])
      rw [hget] at hj
      rw [l3]
      split at hj
      · rw [if_neg (by omega)]; exact hpre j v hj
      · split at hj
        · rw [if_pos (by omega)]; exact hj
        · have hjl := (List.getElem?_eq_some_iff.1 hj).1
          omega
end Go.Proofs.Ytcmedheeafiogaa

namespace Go.Proofs.Ytcmedheeafiogaa
open Go.Sy
set_option linter.unusedVariables false
set_option linter.unusedSimpArgs false
abbrev mem2 (sh : List Shelf) : List (Option Chunk) := [some (.cells 158 [.slice 2 0 3 sh.length]), none, some (.rows 161 encShelf sh)]
theorem mem12 (sh : List Shelf) : HEnt (mem1 sh) (mem2 sh) := hent_move (l := mem1 sh) 1 0 (by decide) (c1 := []) (c2 := []) rfl rfl
def fN (sh : List Shelf) (y : Int) : Nat := (fnd sh y).toNat
def cutB (sh : List Shelf) (y : Int) : Bool := decide ((gN sh (fN sh y)).top = y)
def cutL (sh : List Shelf) (y : Int) : List Shelf := bif cutB sh y then sh else insAt sh (fN sh y + 1) ⟨y, (gN sh (fN sh y)).left, (gN sh (fN sh y)).right⟩
def cutI (sh : List Shelf) (y : Int) : Nat := bif cutB sh y then fN sh y else fN sh y + 1

theorem t121' (sh : List Shelf) (s : Shelf) (k : Nat) (hk : k ≤ sh.length) (h0 : 0 < sh.length) (hb : sh.length < 2 ^ 40) (κ : Int) (e : κ = k) :
    Tri Try.prog 121 [.one (.slice 0 0 3 sh.length), iv κ, .one (.slice 1 0 3 1)] [some (.rows 161 encShelf sh), some (.cells 161 (encShelf.E s))]
      (fun r post => r = .v (.one (.slice 2 0 3 (insAt sh k s).length)) ∧ post = [none, some (.cells 161 (encShelf.E s)), some (.rows 161 encShelf (insAt sh k s))]) := by
  subst e; exact t121 sh s k hk h0 hb
theorem t117 (sh : List Shelf) (hs : Sorted sh) (h0 : 0 < sh.length) (hb : sh.length < 2 ^ 39) (y : Int) :
    Tri Try.prog 117 [pt 0, iv y] (mem1 sh) (fun x post => x = .v (iv (cutI sh y)) ∧ post = mem2 (cutL sh y)) := by
  refine tri_post (R := fun x post => x = .v (iv (cutI sh y)) ∧ (post = mem1 (cutL sh y) ∨ post = mem2 (cutL sh y))) ?_ ?_
  · have hf := fnd_lt h0 y
    have hn := fnd_nonneg sh y
    have hfN : (fN sh y : Int) = fnd sh y := by unfold fN; omega
    (refine tri_x tabOK Try.func117 rfl rfl Try.ntmps117 (by simp) fun C => ?_; (conv => whnf); repeat ((first | (refine cnd (by first | assumption | omega | decide) ?_) | (refine cnd0 ?_) | (refine Chk.mk (by kernel_rfl) ?_) | (refine xdraw_rule tabOK ?_) | (refine xdraw_rule (tabLOK _) ?_)); (conv => whnf)))
    (refine xcall (t96 sh hs (by omega) y) rfl rfl rfl (by repeat (first | exact trivial | refine ⟨rfl, ?_⟩)) ?_; (conv => whnf); repeat ((first | (refine cnd (by first | assumption | omega | decide) ?_) | (refine cnd0 ?_) | (refine Chk.mk (by kernel_rfl) ?_) | (refine xdraw_rule tabOK ?_) | (refine xdraw_rule (tabLOK _) ?_)); (conv => whnf)))
    (refine Br.mk (fun c => ?_) (fun c => ?_) <;> ((conv => whnf); repeat ((first | (refine cnd (by first | assumption | omega | decide) ?_) | (refine cnd0 ?_) | (refine Chk.mk (by kernel_rfl) ?_) | (refine xdraw_rule tabOK ?_) | (refine xdraw_rule (tabLOK _) ?_)); (conv => whnf))))
    · replace c : decide ((sh.getD (0 + (fnd sh y).toNat) encShelf.d).top = y) = true := c
      have e : cutB sh y = true := by rw [← c]; unfold cutB gN fN; simp
      have e2 : cutL sh y = sh := by unfold cutL; rw [e]; rfl
      have e3 : cutI sh y = fnd sh y := by unfold cutI; rw [e]; exact hfN
      exact xend [0, 1] (.v (iv (fnd sh y))) (mem1 sh) (⟨by rw [e3], .inl (by rw [e2])⟩) rfl rfl rfl (by repeat' (first | exact trivial | exact rfl | (refine And.intro ?_ ?_) | omega)) (by repeat' (first | exact trivial | exact rfl | (refine And.intro ?_ ?_) | omega))
    · replace c : decide ((sh.getD (0 + (fnd sh y).toNat) encShelf.d).top = y) = false := c
      have e : cutB sh y = false := by rw [← c]; unfold cutB gN fN; simp
      (refine dcall (t121' sh ⟨y, (sh.getD (0 + (fnd sh y).toNat) encShelf.d).left, (sh.getD (0 + (fnd sh y).toNat) encShelf.d).right⟩ (fN sh y + 1) (by omega) h0 (by omega) (IntKind.i64.wrap (fnd sh y + 1)) (by rw [W_id (by omega) (by omega)]; omega)) 0 rfl fun hT_ => ?_; (conv => whnf); refine cnd hT_ (cnd rfl (cnd (by repeat (first | exact trivial | refine ⟨rfl, ?_⟩)) (cnd rfl (cnd0 ?_)))); clear hT_; (conv => whnf); repeat ((first | (refine cnd (by first | assumption | omega | decide) ?_) | (refine cnd0 ?_) | (refine Chk.mk (by kernel_rfl) ?_) | (refine xdraw_rule tabOK ?_) | (refine xdraw_rule (tabLOK _) ?_)); (conv => whnf)))
      have e2 : cutL sh y = insAt sh (fN sh y + 1) ⟨y, (sh.getD (0 + (fnd sh y).toNat) encShelf.d).left, (sh.getD (0 + (fnd sh y).toNat) encShelf.d).right⟩ := by unfold cutL; rw [e]; simp [gN, fN]
      have e3 : (cutI sh y : Int) = IntKind.i64.wrap (fnd sh y + 1) := by rw [W_id (by omega) (by omega)]; unfold cutI; rw [e]; simp; omega
      exact xend [0, 1, 172] (.v (iv (IntKind.i64.wrap (fnd sh y + 1)))) (mem2 (insAt sh (fN sh y + 1) ⟨y, (sh.getD (0 + (fnd sh y).toNat) encShelf.d).left, (sh.getD (0 + (fnd sh y).toNat) encShelf.d).right⟩)) (⟨by rw [e3], .inr (by rw [e2])⟩) rfl rfl rfl (by repeat' (first | exact trivial | exact rfl | (refine And.intro ?_ ?_) | omega)) (by repeat' (first | exact trivial | exact rfl | (refine And.intro ?_ ?_) | omega))
  · rintro r post ⟨rfl, rfl | rfl⟩
    · exact ⟨_, ⟨rfl, rfl⟩, mem12 _⟩
    · exact ⟨_, ⟨rfl, rfl⟩, HEnt.refl _⟩
end Go.Proofs.Ytcmedheeafiogaa

namespace Go.Proofs.Ytcmedheeafiogaa
open Go.Sy
set_option linter.unusedVariables false
set_option linter.unusedSimpArgs false
/-! Shelves, plainly. -/
theorem gN_lt {sh : List Shelf} {i : Nat} (h : i < sh.length) : gN sh i = sh[i] := by simp [gN, h]
structure WF (sh : List Shelf) : Prop where
  sorted : Sorted sh
  ne : 0 < sh.length
  top0 : (gN sh 0).top = -far
theorem WF.lt {sh : List Shelf} (h : WF sh) {i j : Nat} (hj : j < sh.length) (hij : i < j) : (gN sh i).top < (gN sh j).top := by
  rw [gN_lt (by omega), gN_lt hj]; exact h.sorted i j _ hj hij
theorem WF.le {sh : List Shelf} (h : WF sh) {i j : Nat} (hj : j < sh.length) (hij : i ≤ j) : (gN sh i).top ≤ (gN sh j).top := by
  rcases Nat.lt_or_eq_of_le hij with h1 | h1
  · exact Int.le_of_lt (h.lt hj h1)
  · subst h1; exact Int.le_refl _
theorem wf_of {sh : List Shelf} (hs : ∀ i, i + 1 < sh.length → (gN sh i).top < (gN sh (i + 1)).top) (ne : 0 < sh.length) (top0 : (gN sh 0).top = -far) : WF sh := by
  refine ⟨fun i j hi hj hij => ?_, ne, top0⟩
  have : ∀ d i, i + d + 1 < sh.length → (gN sh i).top < (gN sh (i + d + 1)).top := by
    intro d
    induction d with
    | zero => intro i hi; exact hs i hi
    | succ d ih => intro i hi; have h1 := ih i (by omega); have h2 := hs (i + d + 1) (by omega); exact Int.lt_trans h1 h2
  have := this (j - i - 1) i (by omega)
  rw [show i + (j - i - 1) + 1 = j by omega, gN_lt hi, gN_lt hj] at this
  exact this
theorem fN_spec {sh : List Shelf} (h : WF sh) {y : Int} (hy : -far ≤ y) : fN sh y < sh.length ∧ (gN sh (fN sh y)).top ≤ y ∧ ∀ i, fN sh y < i → i < sh.length → y < (gN sh i).top := by
  have hle := lb_le sh y
  have h0 := h.ne
  have ht0 := h.top0
  unfold fN fnd
  cases c : hit sh y with
  | true =>
    have hlt := hit_lt c
    have e : (gN sh (lb sh y)).top = y := by
      unfold hit at c; simp at c
      rw [gN_lt hlt]; have := c.2; simpa [hlt] using this
    have e2 : (max (bif true then (lb sh y : Int) else (lb sh y : Int) - 1) 0).toNat = lb sh y := by simp
    rw [e2]
    refine ⟨hlt, by omega, fun i h1 h2 => ?_⟩
    have := h.lt h2 h1; omega
  | false =>
    have hpos : 0 < lb sh y := by
      rcases Nat.eq_zero_or_pos (lb sh y) with hz | hz
      · have h1 := lb_at sh y (by omega)
        have h2 : (gN sh 0).top = y := by
          have : y ≤ (gN sh 0).top := by rw [gN_lt h0]; simp only [hz] at h1; exact h1
          omega
        unfold hit at c
        simp [hz, h0] at c
        rw [gN_lt h0] at h2
        exact absurd h2 c
      · exact hz
    have e2 : (max (bif false then (lb sh y : Int) else (lb sh y : Int) - 1) 0).toNat = lb sh y - 1 := by simp; omega
    rw [e2]
    refine ⟨by omega, ?_, fun i h1 h2 => ?_⟩
    · rw [gN_lt (by omega)]; have := lb_lt sh y (lb sh y - 1) (by omega) (by omega); omega
    · have hlt : lb sh y < sh.length := by omega
      have h3 := lb_at sh y hlt
      have h4 : (gN sh (lb sh y)).top ≠ y := by
        rw [gN_lt hlt]
        unfold hit at c
        simp [hlt] at c
        exact c
      rw [← gN_lt hlt] at h3
      have := h.le h2 (show lb sh y ≤ i by omega)
      omega
theorem fN_uniq {sh : List Shelf} (h : WF sh) {y : Int} {k : Nat} (hk : k < sh.length) (h1 : (gN sh k).top ≤ y) (h2 : k + 1 < sh.length → y < (gN sh (k + 1)).top) : fN sh y = k := by
  have hy : -far ≤ y := by have := h.le hk (Nat.zero_le k); have := h.top0; omega
  obtain ⟨a, b, c⟩ := fN_spec h hy
  rcases Nat.lt_trichotomy (fN sh y) k with e | e | e
  · have := c k e hk; omega
  · exact e
  · have := h2 (by omega); have := h.le a (show k + 1 ≤ fN sh y by omega); omega
def Bd (sh : List Shelf) (y : Int) : Int × Int := ((gN sh (fN sh y)).left, (gN sh (fN sh y)).right)

theorem insAt_len (sh : List Shelf) (j : Nat) (s : Shelf) (hj : j ≤ sh.length) : (insAt sh j s).length = sh.length + 1 := by unfold insAt; simp; omega
theorem gN_insAt (sh : List Shelf) (j : Nat) (s : Shelf) (hj : j ≤ sh.length) (i : Nat) : gN (insAt sh j s) i = if i < j then gN sh i else if i = j then s else gN sh (i - 1) := by
  unfold gN insAt
  simp only [List.getD_eq_getElem?_getD]
  by_cases c : i < j
  · rw [if_pos c, List.getElem?_append_left (by rw [List.length_take]; omega), List.getElem?_take, if_pos c]
  · rw [if_neg c, List.getElem?_append_right (by rw [List.length_take]; omega), List.length_take, Nat.min_eq_left hj]
    by_cases e : i = j
    · rw [if_pos e, e, Nat.sub_self]; rfl
    · rw [if_neg e, show i - j = (i - 1 - j) + 1 by omega, List.getElem?_cons_succ, List.getElem?_drop, show j + (i - 1 - j) = i - 1 by omega]

theorem cutL_len (sh : List Shelf) (y : Int) (hw : WF sh) (hy : -far ≤ y) : (cutL sh y).length ≤ sh.length + 1 ∧ sh.length ≤ (cutL sh y).length := by
  unfold cutL
  have := fN_spec hw hy
  cases cutB sh y with
  | true => simp
  | false => simp only [cond_false]; rw [insAt_len _ _ _ (by omega)]; omega
theorem cut_ok {sh : List Shelf} (hw : WF sh) {y : Int} (hy : -far ≤ y) : WF (cutL sh y) ∧ cutI sh y < (cutL sh y).length ∧ (gN (cutL sh y) (cutI sh y)).top = y ∧ ∀ z, -far ≤ z → Bd (cutL sh y) z = Bd sh z := by
  obtain ⟨h1, h2, h3⟩ := fN_spec hw hy
  cases c : cutB sh y with
  | true =>
    have e1 : cutL sh y = sh := by unfold cutL; rw [c]; rfl
    have e2 : cutI sh y = fN sh y := by unfold cutI; rw [c]; rfl
    rw [e1, e2]
    exact ⟨hw, h1, by unfold cutB at c; simpa using c, fun _ _ => rfl⟩
  | false =>
    have e1 : cutL sh y = insAt sh (fN sh y + 1) ⟨y, (gN sh (fN sh y)).left, (gN sh (fN sh y)).right⟩ := by unfold cutL; rw [c]; rfl
    have e2 : cutI sh y = fN sh y + 1 := by unfold cutI; rw [c]; rfl
    have hne : (gN sh (fN sh y)).top ≠ y := by unfold cutB at c; simpa using c
    have hlen : (cutL sh y).length = sh.length + 1 := by rw [e1, insAt_len _ _ _ (by omega)]
    have hg : ∀ i, gN (cutL sh y) i = if i < fN sh y + 1 then gN sh i else if i = fN sh y + 1 then ⟨y, (gN sh (fN sh y)).left, (gN sh (fN sh y)).right⟩ else gN sh (i - 1) := fun i => by rw [e1, gN_insAt _ _ _ (by omega)]
    have hwf : WF (cutL sh y) := by
      refine wf_of (fun i hi => ?_) (by omega) ?_
      · rw [hg, hg]
        rw [hlen] at hi
        by_cases a1 : i + 1 < fN sh y + 1
        · rw [if_pos (by omega), if_pos a1]; exact hw.lt (by omega) (by omega)
        · by_cases a2 : i + 1 = fN sh y + 1
          · have : i = fN sh y := by omega
            subst this
            rw [if_pos (by omega), if_neg (by omega), if_pos rfl]; show _ < y; omega
          · rw [if_neg a1, if_neg a2]
            by_cases a3 : i = fN sh y + 1
            · rw [if_neg (by omega), if_pos a3]; exact h3 _ (by omega) (by omega)
            · rw [if_neg (by omega), if_neg a3]; exact hw.lt (by omega) (by omega)
      · rw [hg, if_pos (by omega)]; exact hw.top0
    refine ⟨hwf, by omega, by rw [e2, hg, if_neg (by omega), if_pos rfl], fun z hz => ?_⟩
    obtain ⟨g1, g2, g3⟩ := fN_spec hw hz
    by_cases a1 : fN sh z < fN sh y
    · have : fN (cutL sh y) z = fN sh z := by
        refine fN_uniq hwf (by omega) (by rw [hg, if_pos (by omega)]; exact g2) fun _ => ?_
        rw [hg, if_pos (by omega)]; exact g3 _ (by omega) (by omega)
      unfold Bd; rw [this, hg, if_pos (by omega)]
    · by_cases a2 : fN sh z = fN sh y
      · by_cases a3 : z < y
        · have : fN (cutL sh y) z = fN sh y := by
            refine fN_uniq hwf (by omega) (by rw [hg, if_pos (by omega), ← a2]; exact g2) fun _ => ?_
            rw [hg, if_neg (by omega), if_pos rfl]; exact a3
          unfold Bd; rw [this, hg, if_pos (by omega), a2]
        · have : fN (cutL sh y) z = fN sh y + 1 := by
            refine fN_uniq hwf (by omega) (by rw [hg, if_neg (by omega), if_pos rfl]; show y ≤ z; omega) fun hl => ?_
            rw [hg, if_neg (by omega), if_neg (by omega)]; exact g3 _ (by omega) (by omega)
          unfold Bd; rw [this, hg, if_neg (by omega), if_pos rfl, a2]
      · have : fN (cutL sh y) z = fN sh z + 1 := by
          refine fN_uniq hwf (by omega) (by rw [hg, if_neg (by omega), if_neg (by omega)]; exact g2) fun hl => ?_
          rw [hg, if_neg (by omega), if_neg (by omega)]; exact g3 _ (by omega) (by omega)
        unfold Bd; rw [this, hg, if_neg (by omega), if_neg (by omega)]; rfl
theorem cutI_lt {sh : List Shelf} (hw : WF sh) {y y' : Int} (hy : -far ≤ y) (hyy : y < y') : cutI sh y < cutI (cutL sh y) y' := by
  obtain ⟨a, b, c, _⟩ := cut_ok hw hy
  obtain ⟨a', b', c', _⟩ := cut_ok a (show -far ≤ y' by omega)
  have hf : fN (cutL sh y) y' < (cutL sh y).length ∧ (gN (cutL sh y) (fN (cutL sh y) y')).top ≤ y' ∧ _ := fN_spec a (by omega)
  have h1 : cutI sh y ≤ fN (cutL sh y) y' := by
    rcases Nat.lt_or_ge (fN (cutL sh y) y') (cutI sh y) with h | h
    · have := hf.2.2 _ h b; omega
    · exact h
  unfold cutI at *
  cases d : cutB (cutL sh y) y' with
  | false => simp only [cond_false] at *; omega
  | true =>
    simp only [cond_true] at *
    have d : (gN (cutL sh y) (fN (cutL sh y) y')).top = y' := by unfold cutB at d; simpa using d
    rcases Nat.lt_or_eq_of_le h1 with h | h
    · exact h
    · rw [← h] at d; omega

def mapR (i n : Nat) (f : Shelf → Shelf) (sh : List Shelf) : List Shelf := sh.mapIdx fun k s => if i ≤ k ∧ k < i + n then f s else s
theorem mapR_len (i n : Nat) (f : Shelf → Shelf) (sh : List Shelf) : (mapR i n f sh).length = sh.length := by unfold mapR; simp
theorem gN_mapR (i n : Nat) (f : Shelf → Shelf) (sh : List Shelf) (k : Nat) (hk : k < sh.length) : gN (mapR i n f sh) k = if i ≤ k ∧ k < i + n then f (gN sh k) else gN sh k := by
  rw [gN_lt (by rw [mapR_len]; exact hk), gN_lt hk]; unfold mapR; simp
theorem mapR_zero (i : Nat) (f : Shelf → Shelf) (sh : List Shelf) : mapR i 0 f sh = sh := by
  unfold mapR
  apply List.ext_getElem?
  intro j
  rw [List.getElem?_mapIdx]
  cases sh[j]? with
  | none => rfl
  | some s => simp only [Option.map_some]; rw [if_neg (by omega)]
theorem mapR_step (i n : Nat) (f : Shelf → Shelf) (sh : List Shelf) (h : i + n < sh.length) : (mapR i n f sh).set (i + n) (f (gN sh (i + n))) = mapR i (n + 1) f sh := by
  apply List.ext_getElem?
  intro j
  by_cases e : i + n = j
  · subst e
    rw [List.getElem?_set_self (by rw [mapR_len]; exact h)]
    unfold mapR
    rw [List.getElem?_mapIdx, List.getElem?_eq_getElem h]
    simp only [Option.map_some]
    rw [if_pos (by omega), gN_lt h]
  · rw [List.getElem?_set_ne e]
    unfold mapR
    rw [List.getElem?_mapIdx, List.getElem?_mapIdx]
    cases sh[j]? with
    | none => rfl
    | some s =>
      simp only [Option.map_some]
      by_cases c : i ≤ j ∧ j < i + n
      · rw [if_pos c, if_pos (by omega)]
      · rw [if_neg c, if_neg (by omega)]
theorem mapR_wf {i n : Nat} {f : Shelf → Shelf} {sh : List Shelf} (hf : ∀ s, (f s).top = s.top) (hw : WF sh) : WF (mapR i n f sh) ∧ ∀ z, -far ≤ z → fN (mapR i n f sh) z = fN sh z := by
  have ht : ∀ k, k < sh.length → (gN (mapR i n f sh) k).top = (gN sh k).top := by
    intro k hk
    rw [gN_mapR _ _ _ _ _ hk]
    split
    · exact hf _
    · rfl
  have hl := mapR_len i n f sh
  have hwf : WF (mapR i n f sh) := by
    refine wf_of (fun k hk => ?_) (by rw [hl]; exact hw.ne) ?_
    · rw [ht _ (by omega), ht _ (by omega)]; exact hw.lt (by omega) (by omega)
    · rw [ht _ hw.ne]; exact hw.top0
  refine ⟨hwf, fun z hz => ?_⟩
  obtain ⟨a, b, c⟩ := fN_spec hw hz
  refine fN_uniq hwf (by omega) (by rw [ht _ a]; exact b) fun h => ?_
  rw [ht _ (by omega)]; exact c _ (by omega) (by omega)

/-- Bounds by going through. -/
def bdL : List Shelf → Int → Int × Int → Int × Int
  | [], _, d => d
  | s :: r, z, d => if s.top ≤ z then bdL r z (s.left, s.right) else d
theorem bdL_gt : ∀ (r : List Shelf) (z : Int) (d : Int × Int), (∀ s ∈ r, z < s.top) → bdL r z d = d
  | [], _, _, _ => rfl
  | s :: r, z, d, h => by rw [bdL, if_neg (by have := h s (by simp); omega)]
theorem bdL_cm : ∀ (r : List Shelf) (p : Shelf) (z : Int), (p :: r).Pairwise (fun a b => a.top < b.top) → bdL (cm p r) z (p.left, p.right) = bdL r z (p.left, p.right)
  | [], p, z, _ => rfl
  | s :: r, p, z, hs => by
    have hs2 := (List.pairwise_cons.1 hs).2
    have hs3 := (List.pairwise_cons.1 hs2).1
    have ih := bdL_cm r s z hs2
    rw [cm]
    cases c : same s p with
    | true =>
      have c : s.left = p.left ∧ s.right = p.right := by unfold same at c; simpa using c
      rw [cond_true, bdL, ← c.1, ← c.2, ih]
      split
      · rfl
      · rename_i hz; exact bdL_gt r z _ fun t ht => by have := hs3 t ht; omega
    | false => rw [cond_false, bdL, bdL, ih]
theorem cm_mem : ∀ (r : List Shelf) (p s : Shelf), s ∈ cm p r → s ∈ r
  | [], _, _, h => by simp [cm] at h
  | t :: r, p, s, h => by
    rw [cm] at h
    cases c : same t p with
    | true => rw [c, cond_true] at h; exact List.mem_cons_of_mem _ (cm_mem r t s h)
    | false =>
      rw [c, cond_false] at h
      rcases List.mem_cons.1 h with rfl | h
      · simp
      · exact List.mem_cons_of_mem _ (cm_mem r t s h)
theorem cm_pw : ∀ (r : List Shelf) (p : Shelf), r.Pairwise (fun a b => a.top < b.top) → (cm p r).Pairwise (fun a b => a.top < b.top)
  | [], _, _ => by simp [cm]
  | t :: r, p, h => by
    obtain ⟨h1, h2⟩ := List.pairwise_cons.1 h
    rw [cm]
    cases c : same t p with
    | true => exact cm_pw r t h2
    | false => exact List.pairwise_cons.2 ⟨fun s hs => h1 s (cm_mem r t s hs), cm_pw r t h2⟩
theorem cm_len : ∀ (r : List Shelf) (p : Shelf), (cm p r).length ≤ r.length
  | [], _ => by simp [cm]
  | t :: r, p => by
    rw [cm]
    have := cm_len r t
    cases same t p <;> simp <;> omega
theorem sorted_pw {sh : List Shelf} : Sorted sh ↔ sh.Pairwise (fun a b => a.top < b.top) := by
  rw [List.pairwise_iff_getElem]; rfl
theorem bdL_last : ∀ (sh : List Shelf) (z : Int) (k : Nat) (d : Int × Int), sh.Pairwise (fun a b => a.top < b.top) → k < sh.length → (gN sh k).top ≤ z → (k + 1 < sh.length → z < (gN sh (k + 1)).top) → bdL sh z d = ((gN sh k).left, (gN sh k).right)
  | [], z, k, d, _, hk, _, _ => by simp at hk
  | s :: r, z, k, d, hp, hk, h1, h2 => by
    obtain ⟨p1, p2⟩ := List.pairwise_cons.1 hp
    cases k with
    | zero =>
      have h1 : s.top ≤ z := h1
      rw [bdL, if_pos h1]
      cases r with
      | nil => rfl
      | cons t r =>
        have : z < t.top := h2 (by simp)
        rw [bdL, if_neg (by omega)]; rfl
    | succ k =>
      have hk' : k < r.length := by simpa using hk
      have h1 : (gN r k).top ≤ z := h1
      have : s.top < (gN r k).top := by rw [gN_lt hk']; exact p1 _ (List.getElem_mem hk')
      rw [bdL, if_pos (by omega)]
      exact bdL_last r z k _ p2 hk' h1 fun h => h2 (by simpa using h)
theorem Bd_eq {sh : List Shelf} (hw : WF sh) {z : Int} (hz : -far ≤ z) (d : Int × Int) : bdL sh z d = Bd sh z := by
  obtain ⟨a, b, c⟩ := fN_spec hw hz
  exact bdL_last sh z _ d (sorted_pw.1 hw.sorted) a b fun h => c _ (by omega) h
theorem compact_wf {sh : List Shelf} (hw : WF sh) : WF (compact sh) ∧ (compact sh).length ≤ sh.length ∧ ∀ z, -far ≤ z → Bd (compact sh) z = Bd sh z := by
  cases sh with
  | nil => exact absurd hw.ne (by simp)
  | cons s r =>
    have hp := sorted_pw.1 hw.sorted
    obtain ⟨p1, p2⟩ := List.pairwise_cons.1 hp
    have hwf : WF (compact (s :: r)) := ⟨sorted_pw.2 (List.pairwise_cons.2 ⟨fun t ht => p1 t (cm_mem r s t ht), cm_pw r s p2⟩), by simp [compact], hw.top0⟩
    refine ⟨hwf, by have := cm_len r s; simp [compact]; omega, fun z hz => ?_⟩
    rw [← Bd_eq hwf hz (0, 0), ← Bd_eq hw hz (0, 0)]
    have : s.top ≤ z := by have := hw.top0; have : s.top = -far := hw.top0; omega
    rw [compact, bdL, if_pos this, bdL, if_pos this, bdL_cm r s z hp]
end Go.Proofs.Ytcmedheeafiogaa

namespace Go.Proofs.Ytcmedheeafiogaa
open Go.Sy
set_option linter.unusedVariables false
set_option linter.unusedSimpArgs false
def full (l t r b : Int) : Bool := decide (0 < IntKind.i64.wrap (r - l)) && decide (0 < IntKind.i64.wrap (b - t))
def upS (side l r : Int) (s : Shelf) : Shelf := bif decide (side = 1) then ⟨s.top, max s.left r, s.right⟩ else ⟨s.top, s.left, min s.right l⟩
def sideB (side : Int) : Bool := decide (side = 1) || decide (side = 2)
def addM (side l t r b : Int) (sh : List Shelf) : List Shelf := mapR (cutI sh t) (cutI (cutL sh t) b - cutI sh t) (upS side l r) (cutL (cutL sh t) b)
def addS (side l t r b : Int) (sh : List Shelf) : List Shelf := bif full l t r b && sideB side then compact (addM side l t r b sh) else sh
theorem upS_top (side l r : Int) (s : Shelf) : (upS side l r s).top = s.top := by unfold upS; cases decide (side = 1) <;> rfl
theorem full_lt {l t r b : Int} (ht : -far ≤ t ∧ t ≤ far) (hb : -far ≤ b ∧ b ≤ far) (h : full l t r b = true) : t < b := by
  unfold full at h
  have h2 : 0 < IntKind.i64.wrap (b - t) := by simpa using (Bool.and_eq_true_iff.1 h).2
  rw [W_id (by unfold far at *; omega) (by unfold far at *; omega)] at h2
  omega
theorem addM_ok {sh : List Shelf} (hw : WF sh) {side l t r b : Int} (ht : -far ≤ t) (htb : t < b) :
    WF (addM side l t r b sh) ∧ (addM side l t r b sh).length ≤ sh.length + 2 ∧ ∀ z, -far ≤ z → Bd (addM side l t r b sh) z = if t ≤ z ∧ z < b then ((upS side l r ⟨z, (Bd sh z).1, (Bd sh z).2⟩).left, (upS side l r ⟨z, (Bd sh z).1, (Bd sh z).2⟩).right) else Bd sh z := by
  obtain ⟨a1, a2, a3, a4⟩ := cut_ok hw ht
  obtain ⟨b1, b2, b3, b4⟩ := cut_ok a1 (show -far ≤ b by omega)
  have hl1 := cutL_len sh t hw ht
  have hl2 := cutL_len (cutL sh t) b a1 (by omega)
  have hlt := cutI_lt hw ht htb
  obtain ⟨m1, m2⟩ := mapR_wf (f := upS side l r) (i := cutI sh t) (n := cutI (cutL sh t) b - cutI sh t) (upS_top side l r) b1
  refine ⟨m1, by show (mapR _ _ _ _).length ≤ _; rw [mapR_len]; omega, fun z hz => ?_⟩
  obtain ⟨f1, f2, f3⟩ := fN_spec b1 hz
  have e0 : Bd (cutL (cutL sh t) b) z = Bd sh z := by rw [b4 z hz, a4 z hz]
  -- the first cut's shelf stays where it is
  have h5 : (gN (cutL (cutL sh t) b) (cutI sh t)).top = t := by
    have hc : cutI sh t ≤ fN (cutL sh t) b := by
      rcases Nat.lt_or_ge (fN (cutL sh t) b) (cutI sh t) with h | h
      · have := (fN_spec a1 (show -far ≤ b by omega)).2.2 _ h a2; omega
      · exact h
    unfold cutL at *
    cases c : cutB (bif cutB sh t then sh else insAt sh (fN sh t + 1) ⟨t, (gN sh (fN sh t)).left, (gN sh (fN sh t)).right⟩) b with
    | true => simp only [cond_true]; exact a3
    | false =>
      simp only [cond_false]
      rw [gN_insAt _ _ _ (by have := (fN_spec a1 (show -far ≤ b by omega)).1; omega), if_pos (by omega)]
      exact a3
  have hg := gN_mapR (cutI sh t) (cutI (cutL sh t) b - cutI sh t) (upS side l r) (cutL (cutL sh t) b) (fN (cutL (cutL sh t) b) z) f1
  have hB : Bd (addM side l t r b sh) z = ((gN (mapR (cutI sh t) (cutI (cutL sh t) b - cutI sh t) (upS side l r) (cutL (cutL sh t) b)) (fN (cutL (cutL sh t) b) z)).left, (gN (mapR (cutI sh t) (cutI (cutL sh t) b - cutI sh t) (upS side l r) (cutL (cutL sh t) b)) (fN (cutL (cutL sh t) b) z)).right) := by
    unfold Bd addM; rw [m2 z hz]
  have hiff : (cutI sh t ≤ fN (cutL (cutL sh t) b) z ∧ fN (cutL (cutL sh t) b) z < cutI sh t + (cutI (cutL sh t) b - cutI sh t)) ↔ (t ≤ z ∧ z < b) := by
    have hcl : cutI sh t < (cutL (cutL sh t) b).length := by omega
    constructor
    · rintro ⟨g1, g2⟩
      refine ⟨?_, ?_⟩
      · have := b1.le f1 g1; omega
      · have := f3 (cutI (cutL sh t) b) (by omega) b2; omega
    · rintro ⟨g1, g2⟩
      refine ⟨?_, ?_⟩
      · rcases Nat.lt_or_ge (fN (cutL (cutL sh t) b) z) (cutI sh t) with h | h
        · have := f3 _ h hcl; omega
        · exact h
      · rcases Nat.lt_or_ge (fN (cutL (cutL sh t) b) z) (cutI (cutL sh t) b) with h | h
        · omega
        · have := b1.le f1 h; omega
  rw [hB, hg]
  by_cases c : t ≤ z ∧ z < b
  · rw [if_pos (hiff.2 c), if_pos c, ← e0]
    unfold upS Bd
    cases decide (side = 1) <;> rfl
  · rw [if_neg (fun h => c (hiff.1 h)), if_neg c, ← e0]; rfl
theorem add_ok {sh : List Shelf} (hw : WF sh) {side l t r b : Int} (ht : -far ≤ t ∧ t ≤ far) (hb : -far ≤ b ∧ b ≤ far) :
    WF (addS side l t r b sh) ∧ (addS side l t r b sh).length ≤ sh.length + 2 ∧ ∀ z, -far ≤ z → Bd (addS side l t r b sh) z =
      if (full l t r b && sideB side) = true ∧ t ≤ z ∧ z < b then ((upS side l r ⟨z, (Bd sh z).1, (Bd sh z).2⟩).left, (upS side l r ⟨z, (Bd sh z).1, (Bd sh z).2⟩).right) else Bd sh z := by
  unfold addS
  cases c : full l t r b && sideB side with
  | false => exact ⟨hw, by simp, fun z _ => by simp⟩
  | true =>
    have hf : full l t r b = true := (Bool.and_eq_true_iff.1 c).1
    obtain ⟨a1, a2, a3⟩ := addM_ok (side := side) (l := l) (r := r) hw ht.1 (full_lt ht hb hf)
    obtain ⟨b1, b2, b3⟩ := compact_wf a1
    simp only [cond_true]
    refine ⟨b1, by omega, fun z hz => ?_⟩
    rw [b3 z hz, a3 z hz]
    by_cases d : t ≤ z ∧ z < b
    · rw [if_pos d, if_pos ⟨trivial, d⟩]
    · rw [if_neg d, if_neg (fun h => d h.2)]

theorem t118' (sh : List Shelf) (hb : sh.length < 2 ^ 40) (n : Nat) (hn : n = sh.length) :
    Tri Try.prog 118 [.one (.slice 0 0 3 n), .one (.fn 119 [])] [some (.rows 161 encShelf sh)]
      (fun x post => x = .v (.one (.slice 0 0 3 (compact sh).length)) ∧ post = [some (.rows 161 encShelf (compact sh))]) := by
  subst hn; exact t118 sh hb
-- List.Add
theorem t102 (sh : List Shelf) (hw : WF sh) (hb : sh.length < 2 ^ 38) (side l t r b : Int) (ht : -far ≤ t ∧ t ≤ far) (hbb : -far ≤ b ∧ b ≤ far) :
    Tri Try.prog 102 [pt 0, iv side, rc l t r b] (mem1 sh) (fun x post => x = .tup [] ∧ post = mem2 (addS side l t r b sh)) := by
  refine tri_post (R := fun x post => x = .tup [] ∧ (post = mem1 (addS side l t r b sh) ∨ post = mem2 (addS side l t r b sh))) ?_ ?_
  · (refine tri_x tabOK Try.func102 rfl rfl Try.ntmps102 (by simp) fun C => ?_; (conv => whnf); repeat ((first | (refine cnd (by first | assumption | omega | decide) ?_) | (refine cnd0 ?_) | (refine Chk.mk (by kernel_rfl) ?_) | (refine xdraw_rule tabOK ?_) | (refine xdraw_rule (tabLOK _) ?_)); (conv => whnf)))
    (refine xcall (t83 l t r b) rfl rfl rfl (by repeat (first | exact trivial | refine ⟨rfl, ?_⟩)) ?_; (conv => whnf); repeat ((first | (refine cnd (by first | assumption | omega | decide) ?_) | (refine cnd0 ?_) | (refine Chk.mk (by kernel_rfl) ?_) | (refine xdraw_rule tabOK ?_) | (refine xdraw_rule (tabLOK _) ?_)); (conv => whnf)))
    (refine Br.mk (fun h1 => ?_) (fun h1 => ?_) <;> ((conv => whnf); repeat ((first | (refine cnd (by first | assumption | omega | decide) ?_) | (refine cnd0 ?_) | (refine Chk.mk (by kernel_rfl) ?_) | (refine xdraw_rule tabOK ?_) | (refine xdraw_rule (tabLOK _) ?_)); (conv => whnf))))
    · have e : addS side l t r b sh = sh := by
        have : full l t r b = false := by rw [← Bool.not_eq_true']; exact h1
        unfold addS; rw [this]; rfl
      exact xend [0, 1] (_) (mem1 sh) (⟨rfl, .inl (by rw [e])⟩) rfl rfl rfl (by repeat' (first | exact trivial | exact rfl | (refine And.intro ?_ ?_) | omega)) (by repeat' (first | exact trivial | exact rfl | (refine And.intro ?_ ?_) | omega))
    · have hf : full l t r b = true := by rw [← Bool.not_eq_false']; exact h1
      have htb := full_lt ht hbb hf
      have key : ∀ C : Cx Try.prog tab 79 (mem1 sh).length, True := fun _ => trivial
      obtain ⟨a1, a2, a3, _⟩ := cut_ok hw ht.1
      obtain ⟨b1, b2, b3, _⟩ := cut_ok a1 hbb.1
      have hl1 := cutL_len sh t hw ht.1
      have hl2 := cutL_len (cutL sh t) b a1 hbb.1
      have hlt := cutI_lt hw ht.1 htb
      have hS : sideB side = true → addS side l t r b sh = compact (addM side l t r b sh) := fun h => by unfold addS; rw [hf, h]; rfl
      (refine Br.mk (fun h2 => ?_) (fun h2 => ?_) <;> ((conv => whnf); repeat ((first | (refine cnd (by first | assumption | omega | decide) ?_) | (refine cnd0 ?_) | (refine Chk.mk (by kernel_rfl) ?_) | (refine xdraw_rule tabOK ?_) | (refine xdraw_rule (tabLOK _) ?_)); (conv => whnf))))
      · (refine Br.mk (fun h3 => ?_) (fun h3 => ?_) <;> ((conv => whnf); repeat ((first | (refine cnd (by first | assumption | omega | decide) ?_) | (refine cnd0 ?_) | (refine Chk.mk (by kernel_rfl) ?_) | (refine xdraw_rule tabOK ?_) | (refine xdraw_rule (tabLOK _) ?_)); (conv => whnf))))
        · have e : addS side l t r b sh = sh := by
            have : sideB side = false := by unfold sideB; simp at h2 h3; simp [h2, h3]
            unfold addS; rw [this, Bool.and_false]; rfl
          exact xend [0, 1] (_) (mem1 sh) (⟨rfl, .inl (by rw [e])⟩) rfl rfl rfl (by repeat' (first | exact trivial | exact rfl | (refine And.intro ?_ ?_) | omega)) (by repeat' (first | exact trivial | exact rfl | (refine And.intro ?_ ?_) | omega))
        · replace hS := hS (by unfold sideB; simp at h3; simp [h3])
          (refine xcall (t117 sh hw.sorted hw.ne (by omega) t) rfl rfl rfl (by repeat (first | exact trivial | refine ⟨rfl, ?_⟩)) ?_; (conv => whnf); repeat ((first | (refine cnd (by first | assumption | omega | decide) ?_) | (refine cnd0 ?_) | (refine Chk.mk (by kernel_rfl) ?_) | (refine xdraw_rule tabOK ?_) | (refine xdraw_rule (tabLOK _) ?_)); (conv => whnf)))
          (refine xcall (t117 (cutL sh t) a1.sorted a1.ne (by omega) b) rfl rfl rfl (by repeat (first | exact trivial | refine ⟨rfl, ?_⟩)) ?_; (conv => whnf); repeat ((first | (refine cnd (by first | assumption | omega | decide) ?_) | (refine cnd0 ?_) | (refine Chk.mk (by kernel_rfl) ?_) | (refine xdraw_rule tabOK ?_) | (refine xdraw_rule (tabLOK _) ?_)); (conv => whnf)))
          refine xloop tabOK (fun x : Nat => x ≤ cutI (cutL sh t) b - cutI sh t) (fun x => [(0, .v (pt 0)), (1, .v (iv side)), (5, .v (pt 2)), (6, .v (iv (cutI sh t))), (36, .v (iv (cutI (cutL sh t) b - cutI sh t : Nat))), (37, .v (iv x))]) (fun x => [some (.cells 158 [.slice 3 0 3 (cutL (cutL sh t) b).length]), none, some (.cells 30 [ci l, ci t, ci r, ci b]), some (.rows 161 encShelf (mapR (cutI sh t) x (upS side l r) (cutL (cutL sh t) b)))]) (fun x => cutI (cutL sh t) b - cutI sh t - x) (0) [0, 1, 2, 21] (Nat.zero_le _) rfl rfl rfl (by repeat' (first | exact trivial | exact rfl | (refine And.intro ?_ ?_) | omega | (show Chunk.rows 161 encShelf (cutL (cutL sh t) b) = Chunk.rows 161 encShelf (mapR (cutI sh t) 0 (upS side l r) (cutL (cutL sh t) b)); rw [mapR_zero]))) (by repeat' (first | exact trivial | exact rfl | (refine And.intro ?_ ?_) | omega | (show Chunk.rows 161 encShelf (cutL (cutL sh t) b) = Chunk.rows 161 encShelf (mapR (cutI sh t) 0 (upS side l r) (cutL (cutL sh t) b)); rw [mapR_zero]))) ?_
          intro x hx
          have hml := mapR_len (cutI sh t) x (upS side l r) (cutL (cutL sh t) b)
          have hwx : IntKind.i64.wrap ((cutI sh t : Int) + x) = (cutI sh t + x : Nat) := by rw [W_id (by omega) (by omega)]; rfl
          ((conv => whnf); repeat ((first | (refine cnd (by first | assumption | omega | decide) ?_) | (refine cnd0 ?_) | (refine Chk.mk (by kernel_rfl) ?_) | (refine xdraw_rule tabOK ?_) | (refine xdraw_rule (tabLOK _) ?_)); (conv => whnf)))
          (refine Br.mk (fun c1 => ?_) (fun c1 => ?_) <;> ((conv => whnf); repeat ((first | (refine cnd (by first | assumption | omega | decide) ?_) | (refine cnd0 ?_) | (refine Chk.mk (by kernel_rfl) ?_) | (refine xdraw_rule tabOK ?_) | (refine xdraw_rule (tabLOK _) ?_)); (conv => whnf))))
          · have hx2 : x < cutI (cutL sh t) b - cutI sh t := by have := of_decide_eq_true c1; omega
            have hgx : (mapR (cutI sh t) x (upS side l r) (cutL (cutL sh t) b)).getD (0 + (IntKind.i64.wrap ((cutI sh t : Int) + x)).toNat) encShelf.d = gN (cutL (cutL sh t) b) (cutI sh t + x) := by
              rw [hwx, Nat.zero_add, Int.toNat_natCast]
              exact (gN_mapR _ _ _ _ _ (by omega)).trans (if_neg (by omega))
            have hix : 0 + (IntKind.i64.wrap ((cutI sh t : Int) + x)).toNat = cutI sh t + x := by rw [hwx]; omega
            have hst := mapR_step (cutI sh t) x (upS side l r) (cutL (cutL sh t) b) (by omega)
            (repeat ((first | (refine cnd (by first | assumption | omega | decide) ?_) | (refine cnd0 ?_) | (refine Chk.mk (by kernel_rfl) ?_) | (refine xdraw_rule tabOK ?_) | (refine xdraw_rule (tabLOK _) ?_)); (conv => whnf)))
            (refine Br.mk (fun c2 => ?_) (fun c2 => ?_) <;> ((conv => whnf); repeat ((first | (refine cnd (by first | assumption | omega | decide) ?_) | (refine cnd0 ?_) | (refine Chk.mk (by kernel_rfl) ?_) | (refine xdraw_rule tabOK ?_) | (refine xdraw_rule (tabLOK _) ?_)); (conv => whnf))))
            · have hu : upS side l r (gN (cutL (cutL sh t) b) (cutI sh t + x)) = ⟨(gN (cutL (cutL sh t) b) (cutI sh t + x)).top, max (gN (cutL (cutL sh t) b) (cutI sh t + x)).left r, (gN (cutL (cutL sh t) b) (cutI sh t + x)).right⟩ := by
                have : decide (side = 1) = true := c2
                unfold upS; rw [this]; rfl
              exact rnd (x + 1) [0, 1, 2, 3] (by omega) (by omega) rfl rfl rfl (by repeat' (first | exact trivial | exact rfl | (refine And.intro ?_ ?_) | omega | first | (show IntKind.i64.wrap _ = ((x + 1 : Nat) : Int); rw [W_id (by omega) (by omega)]; rfl) | (show Chunk.rows 161 encShelf (List.set _ _ _) = Chunk.rows 161 encShelf _; rw [← hst, hu, ← hgx, hix]) )) (by repeat' (first | exact trivial | exact rfl | (refine And.intro ?_ ?_) | omega | first | (show IntKind.i64.wrap _ = ((x + 1 : Nat) : Int); rw [W_id (by omega) (by omega)]; rfl) | (show Chunk.rows 161 encShelf (List.set _ _ _) = Chunk.rows 161 encShelf _; rw [← hst, hu, ← hgx, hix]) ))
            · have hu : upS side l r (gN (cutL (cutL sh t) b) (cutI sh t + x)) = ⟨(gN (cutL (cutL sh t) b) (cutI sh t + x)).top, (gN (cutL (cutL sh t) b) (cutI sh t + x)).left, min (gN (cutL (cutL sh t) b) (cutI sh t + x)).right l⟩ := by
                have : decide (side = 1) = false := c2
                unfold upS; rw [this]; rfl
              exact rnd (x + 1) [0, 1, 2, 3] (by omega) (by omega) rfl rfl rfl (by repeat' (first | exact trivial | exact rfl | (refine And.intro ?_ ?_) | omega | first | (show IntKind.i64.wrap _ = ((x + 1 : Nat) : Int); rw [W_id (by omega) (by omega)]; rfl) | (show Chunk.rows 161 encShelf (List.set _ _ _) = Chunk.rows 161 encShelf _; rw [← hst, hu, ← hgx, hix]) )) (by repeat' (first | exact trivial | exact rfl | (refine And.intro ?_ ?_) | omega | first | (show IntKind.i64.wrap _ = ((x + 1 : Nat) : Int); rw [W_id (by omega) (by omega)]; rfl) | (show Chunk.rows 161 encShelf (List.set _ _ _) = Chunk.rows 161 encShelf _; rw [← hst, hu, ← hgx, hix]) ))
          · have hx2 : x = cutI (cutL sh t) b - cutI sh t := by have := of_decide_eq_false c1; omega
            subst hx2
            (refine xcall (t118' (addM side l t r b sh) (by show (mapR _ _ _ _).length < _; rw [hml]; omega) (cutL (cutL sh t) b).length hml.symm) rfl rfl rfl (by repeat (first | exact trivial | refine ⟨rfl, ?_⟩)) ?_; (conv => whnf); repeat ((first | (refine cnd (by first | assumption | omega | decide) ?_) | (refine cnd0 ?_) | (refine Chk.mk (by kernel_rfl) ?_) | (refine xdraw_rule tabOK ?_) | (refine xdraw_rule (tabLOK _) ?_)); (conv => whnf)))
            exact xend [0, 1, 3] (.tup []) (mem2 (compact (addM side l t r b sh))) (⟨rfl, .inr (by rw [hS])⟩) rfl rfl rfl (by repeat' (first | exact trivial | exact rfl | (refine And.intro ?_ ?_) | omega)) (by repeat' (first | exact trivial | exact rfl | (refine And.intro ?_ ?_) | omega))
      · replace hS := hS (by unfold sideB; simp at h2; simp [h2])
        (refine xcall (t117 sh hw.sorted hw.ne (by omega) t) rfl rfl rfl (by repeat (first | exact trivial | refine ⟨rfl, ?_⟩)) ?_; (conv => whnf); repeat ((first | (refine cnd (by first | assumption | omega | decide) ?_) | (refine cnd0 ?_) | (refine Chk.mk (by kernel_rfl) ?_) | (refine xdraw_rule tabOK ?_) | (refine xdraw_rule (tabLOK _) ?_)); (conv => whnf)))
        (refine xcall (t117 (cutL sh t) a1.sorted a1.ne (by omega) b) rfl rfl rfl (by repeat (first | exact trivial | refine ⟨rfl, ?_⟩)) ?_; (conv => whnf); repeat ((first | (refine cnd (by first | assumption | omega | decide) ?_) | (refine cnd0 ?_) | (refine Chk.mk (by kernel_rfl) ?_) | (refine xdraw_rule tabOK ?_) | (refine xdraw_rule (tabLOK _) ?_)); (conv => whnf)))
        refine xloop tabOK (fun x : Nat => x ≤ cutI (cutL sh t) b - cutI sh t) (fun x => [(0, .v (pt 0)), (1, .v (iv side)), (5, .v (pt 2)), (6, .v (iv (cutI sh t))), (36, .v (iv (cutI (cutL sh t) b - cutI sh t : Nat))), (37, .v (iv x))]) (fun x => [some (.cells 158 [.slice 3 0 3 (cutL (cutL sh t) b).length]), none, some (.cells 30 [ci l, ci t, ci r, ci b]), some (.rows 161 encShelf (mapR (cutI sh t) x (upS side l r) (cutL (cutL sh t) b)))]) (fun x => cutI (cutL sh t) b - cutI sh t - x) (0) [0, 1, 2, 19] (Nat.zero_le _) rfl rfl rfl (by repeat' (first | exact trivial | exact rfl | (refine And.intro ?_ ?_) | omega | (show Chunk.rows 161 encShelf (cutL (cutL sh t) b) = Chunk.rows 161 encShelf (mapR (cutI sh t) 0 (upS side l r) (cutL (cutL sh t) b)); rw [mapR_zero]))) (by repeat' (first | exact trivial | exact rfl | (refine And.intro ?_ ?_) | omega | (show Chunk.rows 161 encShelf (cutL (cutL sh t) b) = Chunk.rows 161 encShelf (mapR (cutI sh t) 0 (upS side l r) (cutL (cutL sh t) b)); rw [mapR_zero]))) ?_
        intro x hx
        have hml := mapR_len (cutI sh t) x (upS side l r) (cutL (cutL sh t) b)
        have hwx : IntKind.i64.wrap ((cutI sh t : Int) + x) = (cutI sh t + x : Nat) := by rw [W_id (by omega) (by omega)]; rfl
        ((conv => whnf); repeat ((first | (refine cnd (by first | assumption | omega | decide) ?_) | (refine cnd0 ?_) | (refine Chk.mk (by kernel_rfl) ?_) | (refine xdraw_rule tabOK ?_) | (refine xdraw_rule (tabLOK _) ?_)); (conv => whnf)))
        (refine Br.mk (fun c1 => ?_) (fun c1 => ?_) <;> ((conv => whnf); repeat ((first | (refine cnd (by first | assumption | omega | decide) ?_) | (refine cnd0 ?_) | (refine Chk.mk (by kernel_rfl) ?_) | (refine xdraw_rule tabOK ?_) | (refine xdraw_rule (tabLOK _) ?_)); (conv => whnf))))
        · have hx2 : x < cutI (cutL sh t) b - cutI sh t := by have := of_decide_eq_true c1; omega
          have hgx : (mapR (cutI sh t) x (upS side l r) (cutL (cutL sh t) b)).getD (0 + (IntKind.i64.wrap ((cutI sh t : Int) + x)).toNat) encShelf.d = gN (cutL (cutL sh t) b) (cutI sh t + x) := by
            rw [hwx, Nat.zero_add, Int.toNat_natCast]
            exact (gN_mapR _ _ _ _ _ (by omega)).trans (if_neg (by omega))
          have hix : 0 + (IntKind.i64.wrap ((cutI sh t : Int) + x)).toNat = cutI sh t + x := by rw [hwx]; omega
          have hst := mapR_step (cutI sh t) x (upS side l r) (cutL (cutL sh t) b) (by omega)
          (repeat ((first | (refine cnd (by first | assumption | omega | decide) ?_) | (refine cnd0 ?_) | (refine Chk.mk (by kernel_rfl) ?_) | (refine xdraw_rule tabOK ?_) | (refine xdraw_rule (tabLOK _) ?_)); (conv => whnf)))
          (refine Br.mk (fun c2 => ?_) (fun c2 => ?_) <;> ((conv => whnf); repeat ((first | (refine cnd (by first | assumption | omega | decide) ?_) | (refine cnd0 ?_) | (refine Chk.mk (by kernel_rfl) ?_) | (refine xdraw_rule tabOK ?_) | (refine xdraw_rule (tabLOK _) ?_)); (conv => whnf))))
          · have hu : upS side l r (gN (cutL (cutL sh t) b) (cutI sh t + x)) = ⟨(gN (cutL (cutL sh t) b) (cutI sh t + x)).top, max (gN (cutL (cutL sh t) b) (cutI sh t + x)).left r, (gN (cutL (cutL sh t) b) (cutI sh t + x)).right⟩ := by
              have : decide (side = 1) = true := c2
              unfold upS; rw [this]; rfl
            exact rnd (x + 1) [0, 1, 2, 3] (by omega) (by omega) rfl rfl rfl (by repeat' (first | exact trivial | exact rfl | (refine And.intro ?_ ?_) | omega | first | (show IntKind.i64.wrap _ = ((x + 1 : Nat) : Int); rw [W_id (by omega) (by omega)]; rfl) | (show Chunk.rows 161 encShelf (List.set _ _ _) = Chunk.rows 161 encShelf _; rw [← hst, hu, ← hgx, hix]) )) (by repeat' (first | exact trivial | exact rfl | (refine And.intro ?_ ?_) | omega | first | (show IntKind.i64.wrap _ = ((x + 1 : Nat) : Int); rw [W_id (by omega) (by omega)]; rfl) | (show Chunk.rows 161 encShelf (List.set _ _ _) = Chunk.rows 161 encShelf _; rw [← hst, hu, ← hgx, hix]) ))
          · have hu : upS side l r (gN (cutL (cutL sh t) b) (cutI sh t + x)) = ⟨(gN (cutL (cutL sh t) b) (cutI sh t + x)).top, (gN (cutL (cutL sh t) b) (cutI sh t + x)).left, min (gN (cutL (cutL sh t) b) (cutI sh t + x)).right l⟩ := by
              have : decide (side = 1) = false := c2
              unfold upS; rw [this]; rfl
            exact rnd (x + 1) [0, 1, 2, 3] (by omega) (by omega) rfl rfl rfl (by repeat' (first | exact trivial | exact rfl | (refine And.intro ?_ ?_) | omega | first | (show IntKind.i64.wrap _ = ((x + 1 : Nat) : Int); rw [W_id (by omega) (by omega)]; rfl) | (show Chunk.rows 161 encShelf (List.set _ _ _) = Chunk.rows 161 encShelf _; rw [← hst, hu, ← hgx, hix]) )) (by repeat' (first | exact trivial | exact rfl | (refine And.intro ?_ ?_) | omega | first | (show IntKind.i64.wrap _ = ((x + 1 : Nat) : Int); rw [W_id (by omega) (by omega)]; rfl) | (show Chunk.rows 161 encShelf (List.set _ _ _) = Chunk.rows 161 encShelf _; rw [← hst, hu, ← hgx, hix]) ))
        · have hx2 : x = cutI (cutL sh t) b - cutI sh t := by have := of_decide_eq_false c1; omega
          subst hx2
          (refine xcall (t118' (addM side l t r b sh) (by show (mapR _ _ _ _).length < _; rw [hml]; omega) (cutL (cutL sh t) b).length hml.symm) rfl rfl rfl (by repeat (first | exact trivial | refine ⟨rfl, ?_⟩)) ?_; (conv => whnf); repeat ((first | (refine cnd (by first | assumption | omega | decide) ?_) | (refine cnd0 ?_) | (refine Chk.mk (by kernel_rfl) ?_) | (refine xdraw_rule tabOK ?_) | (refine xdraw_rule (tabLOK _) ?_)); (conv => whnf)))
          exact xend [0, 1, 3] (.tup []) (mem2 (compact (addM side l t r b sh))) (⟨rfl, .inr (by rw [hS])⟩) rfl rfl rfl (by repeat' (first | exact trivial | exact rfl | (refine And.intro ?_ ?_) | omega)) (by repeat' (first | exact trivial | exact rfl | (refine And.intro ?_ ?_) | omega))
  · rintro r post ⟨rfl, rfl | rfl⟩
    · exact ⟨_, ⟨rfl, rfl⟩, mem12 _⟩
    · exact ⟨_, ⟨rfl, rfl⟩, HEnt.refl _⟩
end Go.Proofs.Ytcmedheeafiogaa
