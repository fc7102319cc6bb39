/-
  Contracts of the space and of placing (layers 10 and 11).
-/
import Derived.Test.YtcmedheeafiogaaKe
namespace Go.Proofs.Ytcmedheeafiogaa
open Go.Sy
set_option linter.unusedVariables false
set_option linter.unusedSimpArgs false
/-! The space. -/
structure Ed where
  at_ : Int
  there : Bool
def Ed.reach (e : Ed) (n : Int) : Ed := bif !e.there || decide (n > e.at_) then ⟨n, true⟩ else e
abbrev edc (e : Ed) : List CV := [ci e.at_, .bool (.X e.there)]
abbrev spX (fl : List Flt) (sh : List Shelf) (n m : Nat) (e0 e1 e2 e3 e4 : Ed) : List (Option Chunk) :=
  [some (.cells 120 [.ptr ⟨1, 0, 0, 0⟩, .slice 2 0 5 n, ci e0.at_, .bool (.X e0.there), ci e1.at_, .bool (.X e1.there), ci e2.at_, .bool (.X e2.there), ci e3.at_, .bool (.X e3.there), ci e4.at_, .bool (.X e4.there)]),
   some (.cells 158 [.slice 3 0 3 m]), some (.rows 90 encFlt fl), some (.rows 161 encShelf sh)]
abbrev pf (h f : Nat) : PV := .one (.ptr ⟨h, 0, 0, f⟩)

theorem t81 (a : Int) (b : Bool) : Tri Try.prog 81 [.agg [ci a, .bool (.X b)]] [] (fun x post => x = .tup [iv a, bv b] ∧ post = []) := by
  (refine tri_x tabOK Try.func81 rfl rfl Try.ntmps81 (by simp) fun C => ?_; (conv => whnf); repeat ((first | (refine cnd (by first | assumption | omega | decide) ?_) | (refine cnd0 ?_) | (refine Chk.mk (by kernel_rfl) ?_) | (refine xdraw_rule tabOK ?_) | (refine xdraw_rule (tabLOK _) ?_)); (conv => whnf)))
  exact xend [] _ _ ⟨rfl, rfl⟩ rfl rfl rfl (by repeat' (first | exact trivial | exact rfl | (refine And.intro ?_ ?_) | omega)) (by repeat' (first | exact trivial | exact rfl | (refine And.intro ?_ ?_) | omega))
-- reach, at four places
theorem reach_t {e : Ed} {n : Int} (h : e.there = false ∨ n > e.at_) : e.reach n = ⟨n, true⟩ := by
  unfold Ed.reach
  have : (!e.there || decide (n > e.at_)) = true := by rcases h with h | h <;> simp [h]
  rw [this]; rfl
theorem reach_f {e : Ed} {n : Int} (h : e.there = true) (k : ¬ n > e.at_) : e.reach n = e := by
  unfold Ed.reach
  have : (!e.there || decide (n > e.at_)) = false := by rw [h]; simp; omega
  rw [this]; rfl
theorem t103a (fl : List Flt) (sh : List Shelf) (k m : Nat) (e0 e1 e2 e3 e4 : Ed) (n : Int) :
    Tri Try.prog 103 [pf 0 2, iv n] (spX fl sh k m e0 e1 e2 e3 e4) (fun x post => x = .tup [] ∧ post = spX fl sh k m (e0.reach n) e1 e2 e3 e4) := by
  (refine tri_x tabOK Try.func103 rfl rfl Try.ntmps103 (by simp) fun C => ?_; (conv => whnf); repeat ((first | (refine cnd (by first | assumption | omega | decide) ?_) | (refine cnd0 ?_) | (refine Chk.mk (by kernel_rfl) ?_) | (refine xdraw_rule tabOK ?_) | (refine xdraw_rule (tabLOK _) ?_)); (conv => whnf)))
  (refine Br.mk (fun h1 => ?_) (fun h1 => ?_) <;> ((conv => whnf); repeat ((first | (refine cnd (by first | assumption | omega | decide) ?_) | (refine cnd0 ?_) | (refine Chk.mk (by kernel_rfl) ?_) | (refine xdraw_rule tabOK ?_) | (refine xdraw_rule (tabLOK _) ?_)); (conv => whnf))))
  · exact xend [0, 1, 2, 3] (_) (spX fl sh k m ⟨n, true⟩ e1 e2 e3 e4) (⟨rfl, by rw [reach_t (.inl (by simpa using h1))]⟩) rfl rfl rfl (by repeat' (first | exact trivial | exact rfl | (refine And.intro ?_ ?_) | omega)) (by repeat' (first | exact trivial | exact rfl | (refine And.intro ?_ ?_) | omega))
  · (refine Br.mk (fun h2 => ?_) (fun h2 => ?_) <;> ((conv => whnf); repeat ((first | (refine cnd (by first | assumption | omega | decide) ?_) | (refine cnd0 ?_) | (refine Chk.mk (by kernel_rfl) ?_) | (refine xdraw_rule tabOK ?_) | (refine xdraw_rule (tabLOK _) ?_)); (conv => whnf))))
    · exact xend [0, 1, 2, 3] (_) (spX fl sh k m ⟨n, true⟩ e1 e2 e3 e4) (⟨rfl, by rw [reach_t (.inr (by simpa using h2))]⟩) rfl rfl rfl (by repeat' (first | exact trivial | exact rfl | (refine And.intro ?_ ?_) | omega)) (by repeat' (first | exact trivial | exact rfl | (refine And.intro ?_ ?_) | omega))
    · exact xend [0, 1, 2, 3] (_) (spX fl sh k m e0 e1 e2 e3 e4) (⟨rfl, by rw [reach_f (by simpa using h1) (by simpa using h2)]⟩) rfl rfl rfl (by repeat' (first | exact trivial | exact rfl | (refine And.intro ?_ ?_) | omega)) (by repeat' (first | exact trivial | exact rfl | (refine And.intro ?_ ?_) | omega))
theorem t103b (fl : List Flt) (sh : List Shelf) (k m : Nat) (e0 e1 e2 e3 e4 : Ed) (n : Int) :
    Tri Try.prog 103 [pf 0 6, iv n] (spX fl sh k m e0 e1 e2 e3 e4) (fun x post => x = .tup [] ∧ post = spX fl sh k m e0 e1 (e2.reach n) e3 e4) := by
  (refine tri_x tabOK Try.func103 rfl rfl Try.ntmps103 (by simp) fun C => ?_; (conv => whnf); repeat ((first | (refine cnd (by first | assumption | omega | decide) ?_) | (refine cnd0 ?_) | (refine Chk.mk (by kernel_rfl) ?_) | (refine xdraw_rule tabOK ?_) | (refine xdraw_rule (tabLOK _) ?_)); (conv => whnf)))
  (refine Br.mk (fun h1 => ?_) (fun h1 => ?_) <;> ((conv => whnf); repeat ((first | (refine cnd (by first | assumption | omega | decide) ?_) | (refine cnd0 ?_) | (refine Chk.mk (by kernel_rfl) ?_) | (refine xdraw_rule tabOK ?_) | (refine xdraw_rule (tabLOK _) ?_)); (conv => whnf))))
  · exact xend [0, 1, 2, 3] (_) (spX fl sh k m e0 e1 ⟨n, true⟩ e3 e4) (⟨rfl, by rw [reach_t (.inl (by simpa using h1))]⟩) rfl rfl rfl (by repeat' (first | exact trivial | exact rfl | (refine And.intro ?_ ?_) | omega)) (by repeat' (first | exact trivial | exact rfl | (refine And.intro ?_ ?_) | omega))
  · (refine Br.mk (fun h2 => ?_) (fun h2 => ?_) <;> ((conv => whnf); repeat ((first | (refine cnd (by first | assumption | omega | decide) ?_) | (refine cnd0 ?_) | (refine Chk.mk (by kernel_rfl) ?_) | (refine xdraw_rule tabOK ?_) | (refine xdraw_rule (tabLOK _) ?_)); (conv => whnf))))
    · exact xend [0, 1, 2, 3] (_) (spX fl sh k m e0 e1 ⟨n, true⟩ e3 e4) (⟨rfl, by rw [reach_t (.inr (by simpa using h2))]⟩) rfl rfl rfl (by repeat' (first | exact trivial | exact rfl | (refine And.intro ?_ ?_) | omega)) (by repeat' (first | exact trivial | exact rfl | (refine And.intro ?_ ?_) | omega))
    · exact xend [0, 1, 2, 3] (_) (spX fl sh k m e0 e1 e2 e3 e4) (⟨rfl, by rw [reach_f (by simpa using h1) (by simpa using h2)]⟩) rfl rfl rfl (by repeat' (first | exact trivial | exact rfl | (refine And.intro ?_ ?_) | omega)) (by repeat' (first | exact trivial | exact rfl | (refine And.intro ?_ ?_) | omega))
theorem t103c (fl : List Flt) (sh : List Shelf) (k m : Nat) (e0 e1 e2 e3 e4 : Ed) (n : Int) :
    Tri Try.prog 103 [pf 0 8, iv n] (spX fl sh k m e0 e1 e2 e3 e4) (fun x post => x = .tup [] ∧ post = spX fl sh k m e0 e1 e2 (e3.reach n) e4) := by
  (refine tri_x tabOK Try.func103 rfl rfl Try.ntmps103 (by simp) fun C => ?_; (conv => whnf); repeat ((first | (refine cnd (by first | assumption | omega | decide) ?_) | (refine cnd0 ?_) | (refine Chk.mk (by kernel_rfl) ?_) | (refine xdraw_rule tabOK ?_) | (refine xdraw_rule (tabLOK _) ?_)); (conv => whnf)))
  (refine Br.mk (fun h1 => ?_) (fun h1 => ?_) <;> ((conv => whnf); repeat ((first | (refine cnd (by first | assumption | omega | decide) ?_) | (refine cnd0 ?_) | (refine Chk.mk (by kernel_rfl) ?_) | (refine xdraw_rule tabOK ?_) | (refine xdraw_rule (tabLOK _) ?_)); (conv => whnf))))
  · exact xend [0, 1, 2, 3] (_) (spX fl sh k m e0 e1 e2 ⟨n, true⟩ e4) (⟨rfl, by rw [reach_t (.inl (by simpa using h1))]⟩) rfl rfl rfl (by repeat' (first | exact trivial | exact rfl | (refine And.intro ?_ ?_) | omega)) (by repeat' (first | exact trivial | exact rfl | (refine And.intro ?_ ?_) | omega))
  · (refine Br.mk (fun h2 => ?_) (fun h2 => ?_) <;> ((conv => whnf); repeat ((first | (refine cnd (by first | assumption | omega | decide) ?_) | (refine cnd0 ?_) | (refine Chk.mk (by kernel_rfl) ?_) | (refine xdraw_rule tabOK ?_) | (refine xdraw_rule (tabLOK _) ?_)); (conv => whnf))))
    · exact xend [0, 1, 2, 3] (_) (spX fl sh k m e0 e1 e2 ⟨n, true⟩ e4) (⟨rfl, by rw [reach_t (.inr (by simpa using h2))]⟩) rfl rfl rfl (by repeat' (first | exact trivial | exact rfl | (refine And.intro ?_ ?_) | omega)) (by repeat' (first | exact trivial | exact rfl | (refine And.intro ?_ ?_) | omega))
    · exact xend [0, 1, 2, 3] (_) (spX fl sh k m e0 e1 e2 e3 e4) (⟨rfl, by rw [reach_f (by simpa using h1) (by simpa using h2)]⟩) rfl rfl rfl (by repeat' (first | exact trivial | exact rfl | (refine And.intro ?_ ?_) | omega)) (by repeat' (first | exact trivial | exact rfl | (refine And.intro ?_ ?_) | omega))
theorem t103d (fl : List Flt) (sh : List Shelf) (k m : Nat) (e0 e1 e2 e3 e4 : Ed) (n : Int) :
    Tri Try.prog 103 [pf 0 10, iv n] (spX fl sh k m e0 e1 e2 e3 e4) (fun x post => x = .tup [] ∧ post = spX fl sh k m e0 e1 e2 e3 (e4.reach n)) := by
  (refine tri_x tabOK Try.func103 rfl rfl Try.ntmps103 (by simp) fun C => ?_; (conv => whnf); repeat ((first | (refine cnd (by first | assumption | omega | decide) ?_) | (refine cnd0 ?_) | (refine Chk.mk (by kernel_rfl) ?_) | (refine xdraw_rule tabOK ?_) | (refine xdraw_rule (tabLOK _) ?_)); (conv => whnf)))
  (refine Br.mk (fun h1 => ?_) (fun h1 => ?_) <;> ((conv => whnf); repeat ((first | (refine cnd (by first | assumption | omega | decide) ?_) | (refine cnd0 ?_) | (refine Chk.mk (by kernel_rfl) ?_) | (refine xdraw_rule tabOK ?_) | (refine xdraw_rule (tabLOK _) ?_)); (conv => whnf))))
  · exact xend [0, 1, 2, 3] (_) (spX fl sh k m e0 e1 e2 e3 ⟨n, true⟩) (⟨rfl, by rw [reach_t (.inl (by simpa using h1))]⟩) rfl rfl rfl (by repeat' (first | exact trivial | exact rfl | (refine And.intro ?_ ?_) | omega)) (by repeat' (first | exact trivial | exact rfl | (refine And.intro ?_ ?_) | omega))
  · (refine Br.mk (fun h2 => ?_) (fun h2 => ?_) <;> ((conv => whnf); repeat ((first | (refine cnd (by first | assumption | omega | decide) ?_) | (refine cnd0 ?_) | (refine Chk.mk (by kernel_rfl) ?_) | (refine xdraw_rule tabOK ?_) | (refine xdraw_rule (tabLOK _) ?_)); (conv => whnf))))
    · exact xend [0, 1, 2, 3] (_) (spX fl sh k m e0 e1 e2 e3 ⟨n, true⟩) (⟨rfl, by rw [reach_t (.inr (by simpa using h2))]⟩) rfl rfl rfl (by repeat' (first | exact trivial | exact rfl | (refine And.intro ?_ ?_) | omega)) (by repeat' (first | exact trivial | exact rfl | (refine And.intro ?_ ?_) | omega))
    · exact xend [0, 1, 2, 3] (_) (spX fl sh k m e0 e1 e2 e3 e4) (⟨rfl, by rw [reach_f (by simpa using h1) (by simpa using h2)]⟩) rfl rfl rfl (by repeat' (first | exact trivial | exact rfl | (refine And.intro ?_ ?_) | omega)) (by repeat' (first | exact trivial | exact rfl | (refine And.intro ?_ ?_) | omega))
-- shelf.New
theorem t80 : Tri Try.prog 80 [] [] (fun x post => x = .v (pt 0) ∧ post = mem1 [⟨-far, -far, far⟩]) := by
  (refine tri_x (tabLOK fun n => Nat.beq n 1) Try.func80 rfl rfl Try.ntmps80 (by simp) fun C => ?_; (conv => whnf))
  exact xend [4, 2] (_) (mem1 [⟨-far, -far, far⟩]) (⟨rfl, rfl⟩) rfl rfl rfl (by repeat' (first | exact trivial | exact rfl | (refine And.intro ?_ ?_) | omega)) (by repeat' (first | exact trivial | exact rfl | (refine And.intro ?_ ?_) | omega))
end Go.Proofs.Ytcmedheeafiogaa

namespace Go.Proofs.Ytcmedheeafiogaa
open Go.Sy
set_option linter.unusedVariables false
set_option linter.unusedSimpArgs false
def lastE (fl : List Flt) : Ed := fl.foldl (fun e f => e.reach f.box.t) ⟨0, false⟩
def botE (k : Int) (fl : List Flt) : Ed := fl.foldl (fun e f => bif decide (f.side = k) || decide (k = 3) then e.reach f.box.b else e) ⟨0, false⟩
def shOf (fl : List Flt) : List Shelf := fl.foldl (fun sh f => addS f.side f.box.l f.box.t f.box.r f.box.b sh) [⟨-far, -far, far⟩]
abbrev spM (fl : List Flt) : List (Option Chunk) := spX fl (shOf fl) fl.length (shOf fl).length (lastE fl) ⟨0, false⟩ (botE 1 fl) (botE 2 fl) (botE 3 fl)
def spC (fl : List Flt) : Chunk := packC (spM fl)
structure OKf (f : Flt) : Prop where
  side : f.side = 1 ∨ f.side = 2
  t : -far ≤ f.box.t ∧ f.box.t ≤ far
  b : -far ≤ f.box.b ∧ f.box.b ≤ far
structure OKl (fl : List Flt) : Prop where
  all : ∀ f ∈ fl, OKf f
  len : fl.length < 2 ^ 30
theorem shOf_snoc (fl : List Flt) (f : Flt) : shOf (fl ++ [f]) = addS f.side f.box.l f.box.t f.box.r f.box.b (shOf fl) := by simp [shOf, List.foldl_append]
theorem lastE_snoc (fl : List Flt) (f : Flt) : lastE (fl ++ [f]) = (lastE fl).reach f.box.t := by simp [lastE, List.foldl_append]
theorem botE_snoc (k : Int) (fl : List Flt) (f : Flt) : botE k (fl ++ [f]) = bif decide (f.side = k) || decide (k = 3) then (botE k fl).reach f.box.b else botE k fl := by simp [botE, List.foldl_append]
theorem wf0 : WF [⟨-far, -far, far⟩] := wf_of (fun i h => by simp at h) (by simp) rfl
theorem shOf_wf' : ∀ (n : Nat) (fl : List Flt), fl.length = n → (∀ f ∈ fl, OKf f) → WF (shOf fl) ∧ (shOf fl).length ≤ 2 * fl.length + 1
  | 0, fl, h, _ => by
    have : fl = [] := List.eq_nil_of_length_eq_zero h
    subst this; exact ⟨wf0, by simp [shOf]⟩
  | n + 1, fl, h, ho => by
    have hne : fl ≠ [] := fun e => by rw [e] at h; simp at h
    have e := List.dropLast_concat_getLast hne
    rw [← e, shOf_snoc]
    have ih := shOf_wf' n fl.dropLast (by rw [List.length_dropLast]; omega) (fun f hf => ho f (List.dropLast_subset fl hf))
    have hl := ho _ (List.getLast_mem hne)
    obtain ⟨a1, a2, a3⟩ := add_ok (side := (fl.getLast hne).side) (l := (fl.getLast hne).box.l) (r := (fl.getLast hne).box.r) ih.1 hl.t hl.b
    refine ⟨a1, ?_⟩
    simp only [List.length_append, List.length_dropLast, List.length_singleton] at ih ⊢
    omega
theorem shOf_wf {fl : List Flt} (h : OKl fl) : WF (shOf fl) := (shOf_wf' _ fl rfl h.all).1
theorem shOf_len {fl : List Flt} (h : OKl fl) : (shOf fl).length < 2 ^ 38 := by have := (shOf_wf' _ fl rfl h.all).2; have := h.len; omega

def edR (x k : Nat) (e : Ed) (n : Int) : Ed := match Nat.blt k x with
  | true => e.reach n
  | false => e
abbrev spR (fl : List Flt) (sh : List Shelf) (n m : Nat) (e0 e1 e2 e3 e4 : Ed) : List (Option Chunk) :=
  [some (.cells 120 [.ptr ⟨1, 0, 0, 0⟩, .slice 4 0 5 n, ci e0.at_, .bool (.X e0.there), ci e1.at_, .bool (.X e1.there), ci e2.at_, .bool (.X e2.there), ci e3.at_, .bool (.X e3.there), ci e4.at_, .bool (.X e4.there)]),
   some (.cells 158 [.slice 5 0 3 m]), none, none, some (.rows 90 encFlt fl), some (.rows 161 encShelf sh)]
abbrev spJ (fl : List Flt) (sh : List Shelf) (n m : Nat) (e0 e1 e2 e3 e4 : Ed) (l t r b s : Int) : List (Option Chunk) :=
  [some (.cells 120 [.ptr ⟨1, 0, 0, 0⟩, .slice 6 0 5 n, ci e0.at_, .bool (.X e0.there), ci e1.at_, .bool (.X e1.there), ci e2.at_, .bool (.X e2.there), ci e3.at_, .bool (.X e3.there), ci e4.at_, .bool (.X e4.there)]),
   some (.cells 158 [.slice 7 0 3 m]), none, none, some (.cells 30 [ci l, ci t, ci r, ci b]), some (.cells 3 [ci s, ci 3]), some (.rows 90 encFlt fl), some (.rows 161 encShelf sh)]
theorem b_and (b : Bool) : (true && b) = b := by cases b <;> rfl
theorem t82a (fl : List Flt) (ho : OKl fl) (l t r b : Int) (hf : OKf ⟨1, ⟨l, t, r, b⟩⟩) :
    Tri Try.prog 82 [pt 0, iv 1, rc l t r b] (spM fl) (fun x post => x = .tup [] ∧ post = spR (fl ++ [⟨1, ⟨l, t, r, b⟩⟩]) (addS 1 l t r b (shOf fl)) (fl.length + 1) (addS 1 l t r b (shOf fl)).length ((lastE fl).reach t) ⟨0, false⟩ (edR 2 0 (botE 1 fl) b) (botE 2 fl) (edR 2 1 (botE 3 fl) b)) := by
  have hw := shOf_wf ho
  have hln := ho.len
  have hsn := shOf_len ho
  (refine tri_x tabOK Try.func82 rfl rfl Try.ntmps82 (by simp) fun C => ?_; (conv => whnf); repeat ((first | (refine cnd (by first | assumption | omega | decide) ?_) | (refine cnd0 ?_) | (refine Chk.mk (by kernel_rfl) ?_) | (refine xdraw_rule tabOK ?_) | (refine xdraw_rule (tabLOK _) ?_)); (conv => whnf)))
  (repeat ((first | (refine cnd (by first | assumption | omega | decide | (show (fl.length + 1) * 40 ≤ 140737488355328; omega)) ?_) | (refine cnd0 ?_) | (refine Chk.mk (by kernel_rfl) ?_) | (refine xdraw_rule tabOK ?_) | (refine xdraw_rule (tabLOK _) ?_)); (conv => whnf)))
  (refine dcall (t102 (shOf fl) hw hsn 1 l t r b hf.t hf.b) 0 rfl fun hT_ => ?_; (conv => whnf); refine cnd hT_ (cnd rfl (cnd (by repeat (first | exact trivial | refine ⟨rfl, ?_⟩)) (cnd rfl (cnd0 ?_)))); clear hT_; (conv => whnf); repeat ((first | (refine cnd (by first | assumption | omega | decide) ?_) | (refine cnd0 ?_) | (refine Chk.mk (by kernel_rfl) ?_) | (refine xdraw_rule tabOK ?_) | (refine xdraw_rule (tabLOK _) ?_)); (conv => whnf)))
  (refine dcall (t103a (fl ++ [⟨1, ⟨l, t, r, b⟩⟩]) (addS 1 l t r b (shOf fl)) (fl.length + 1) (addS 1 l t r b (shOf fl)).length (lastE fl) ⟨0, false⟩ (botE 1 fl) (botE 2 fl) (botE 3 fl) t) 0 rfl fun hT_ => ?_; (conv => whnf); refine cnd hT_ (cnd rfl (cnd (by repeat (first | exact trivial | refine ⟨rfl, ?_⟩)) (cnd rfl (cnd0 ?_)))); clear hT_; (conv => whnf); repeat ((first | (refine cnd (by first | assumption | omega | decide) ?_) | (refine cnd0 ?_) | (refine Chk.mk (by kernel_rfl) ?_) | (refine xdraw_rule tabOK ?_) | (refine xdraw_rule (tabLOK _) ?_)); (conv => whnf)))
  refine xloop tabOK (fun x : Nat => x ≤ 2) (fun x => [(0, .v (pt 0)), (5, .v (pt 4)), (34, .v (.one (.slice 5 0 1 2))), (35, .v (iv 2)), (36, .v (iv x))]) (fun x => spJ (fl ++ [⟨1, ⟨l, t, r, b⟩⟩]) (addS 1 l t r b (shOf fl)) (fl.length + 1) (addS 1 l t r b (shOf fl)).length ((lastE fl).reach t) ⟨0, false⟩ (edR x 0 (botE 1 fl) b) (botE 2 fl) (edR x 1 (botE 3 fl) b) l t r b 1) (fun x => 2 - x) (0) [0, 1, 2, 3, 4, 422, 149, 309] (Nat.zero_le _) rfl rfl rfl (by repeat' (first | exact trivial | exact rfl | (refine And.intro ?_ ?_) | omega)) (by repeat' (first | exact trivial | exact rfl | (refine And.intro ?_ ?_) | omega)) ?_
  intro x hx
  match x, hx with
  | 0, _ =>
    ((conv => whnf); repeat ((first | (refine cnd (by first | assumption | omega | decide) ?_) | (refine cnd0 ?_) | (refine Chk.mk (by kernel_rfl) ?_) | (refine xdraw_rule tabOK ?_) | (refine xdraw_rule (tabLOK _) ?_)); (conv => whnf)))
    (refine Br.mk (fun c => ?_) (fun c => ?_) <;> ((conv => whnf); repeat ((first | (refine cnd (by first | assumption | omega | decide) ?_) | (refine cnd0 ?_) | (refine Chk.mk (by kernel_rfl) ?_) | (refine xdraw_rule tabOK ?_) | (refine xdraw_rule (tabLOK _) ?_)); (conv => whnf))))
    · (repeat ((first | (refine cnd (by first | assumption | omega | decide) ?_) | (refine cnd0 ?_) | (refine Chk.mk (by kernel_rfl) ?_) | (refine xdraw_rule tabOK ?_) | (refine xdraw_rule (tabLOK _) ?_)); (conv => whnf)))
      (refine dcall (t103b (fl ++ [⟨1, ⟨l, t, r, b⟩⟩]) (addS 1 l t r b (shOf fl)) (fl.length + 1) (addS 1 l t r b (shOf fl)).length ((lastE fl).reach t) ⟨0, false⟩ (edR 0 0 (botE 1 fl) b) (botE 2 fl) (edR 0 1 (botE 3 fl) b) b) 0 rfl fun hT_ => ?_; (conv => whnf); refine cnd hT_ (cnd rfl (cnd (by repeat (first | exact trivial | refine ⟨rfl, ?_⟩)) (cnd rfl (cnd0 ?_)))); clear hT_; (conv => whnf); repeat ((first | (refine cnd (by first | assumption | omega | decide) ?_) | (refine cnd0 ?_) | (refine Chk.mk (by kernel_rfl) ?_) | (refine xdraw_rule tabOK ?_) | (refine xdraw_rule (tabLOK _) ?_)); (conv => whnf)))
      exact rnd (1) [0, 1, 2, 3, 4, 5, 6, 7] (by omega) (by show 2 - 1 < 2 - 0; omega) rfl rfl rfl (by repeat' (first | exact trivial | exact rfl | (refine And.intro ?_ ?_) | omega)) (by repeat' (first | exact trivial | exact rfl | (refine And.intro ?_ ?_) | omega))
    · exact absurd c (by decide)
  | 1, _ =>
    ((conv => whnf); repeat ((first | (refine cnd (by first | assumption | omega | decide) ?_) | (refine cnd0 ?_) | (refine Chk.mk (by kernel_rfl) ?_) | (refine xdraw_rule tabOK ?_) | (refine xdraw_rule (tabLOK _) ?_)); (conv => whnf)))
    (refine Br.mk (fun c => ?_) (fun c => ?_) <;> ((conv => whnf); repeat ((first | (refine cnd (by first | assumption | omega | decide) ?_) | (refine cnd0 ?_) | (refine Chk.mk (by kernel_rfl) ?_) | (refine xdraw_rule tabOK ?_) | (refine xdraw_rule (tabLOK _) ?_)); (conv => whnf))))
    · (repeat ((first | (refine cnd (by first | assumption | omega | decide) ?_) | (refine cnd0 ?_) | (refine Chk.mk (by kernel_rfl) ?_) | (refine xdraw_rule tabOK ?_) | (refine xdraw_rule (tabLOK _) ?_)); (conv => whnf)))
      (refine dcall (t103d (fl ++ [⟨1, ⟨l, t, r, b⟩⟩]) (addS 1 l t r b (shOf fl)) (fl.length + 1) (addS 1 l t r b (shOf fl)).length ((lastE fl).reach t) ⟨0, false⟩ (edR 1 0 (botE 1 fl) b) (botE 2 fl) (edR 1 1 (botE 3 fl) b) b) 0 rfl fun hT_ => ?_; (conv => whnf); refine cnd hT_ (cnd rfl (cnd (by repeat (first | exact trivial | refine ⟨rfl, ?_⟩)) (cnd rfl (cnd0 ?_)))); clear hT_; (conv => whnf); repeat ((first | (refine cnd (by first | assumption | omega | decide) ?_) | (refine cnd0 ?_) | (refine Chk.mk (by kernel_rfl) ?_) | (refine xdraw_rule tabOK ?_) | (refine xdraw_rule (tabLOK _) ?_)); (conv => whnf)))
      exact rnd (2) [0, 1, 2, 3, 4, 5, 6, 7] (by omega) (by show 2 - 2 < 2 - 1; omega) rfl rfl rfl (by repeat' (first | exact trivial | exact rfl | (refine And.intro ?_ ?_) | omega)) (by repeat' (first | exact trivial | exact rfl | (refine And.intro ?_ ?_) | omega))
    · exact absurd c (by decide)
  | 2, _ =>
    ((conv => whnf); repeat ((first | (refine cnd (by first | assumption | omega | decide) ?_) | (refine cnd0 ?_) | (refine Chk.mk (by kernel_rfl) ?_) | (refine xdraw_rule tabOK ?_) | (refine xdraw_rule (tabLOK _) ?_)); (conv => whnf)))
    (refine Br.mk (fun c => ?_) (fun c => ?_) <;> ((conv => whnf); repeat ((first | (refine cnd (by first | assumption | omega | decide) ?_) | (refine cnd0 ?_) | (refine Chk.mk (by kernel_rfl) ?_) | (refine xdraw_rule tabOK ?_) | (refine xdraw_rule (tabLOK _) ?_)); (conv => whnf))))
    · exact absurd c (by decide)
    · exact xend [0, 1, 2, 3, 6, 7] (_) (spR (fl ++ [⟨1, ⟨l, t, r, b⟩⟩]) (addS 1 l t r b (shOf fl)) (fl.length + 1) (addS 1 l t r b (shOf fl)).length ((lastE fl).reach t) ⟨0, false⟩ (edR 2 0 (botE 1 fl) b) (botE 2 fl) (edR 2 1 (botE 3 fl) b)) (⟨rfl, rfl⟩) rfl rfl rfl (by repeat' (first | exact trivial | exact rfl | (refine And.intro ?_ ?_) | omega)) (by repeat' (first | exact trivial | exact rfl | (refine And.intro ?_ ?_) | omega))
  | x + 3, h => omega
theorem t82b (fl : List Flt) (ho : OKl fl) (l t r b : Int) (hf : OKf ⟨2, ⟨l, t, r, b⟩⟩) :
    Tri Try.prog 82 [pt 0, iv 2, rc l t r b] (spM fl) (fun x post => x = .tup [] ∧ post = spR (fl ++ [⟨2, ⟨l, t, r, b⟩⟩]) (addS 2 l t r b (shOf fl)) (fl.length + 1) (addS 2 l t r b (shOf fl)).length ((lastE fl).reach t) ⟨0, false⟩ (botE 1 fl) (edR 2 0 (botE 2 fl) b) (edR 2 1 (botE 3 fl) b)) := by
  have hw := shOf_wf ho
  have hln := ho.len
  have hsn := shOf_len ho
  (refine tri_x tabOK Try.func82 rfl rfl Try.ntmps82 (by simp) fun C => ?_; (conv => whnf); repeat ((first | (refine cnd (by first | assumption | omega | decide) ?_) | (refine cnd0 ?_) | (refine Chk.mk (by kernel_rfl) ?_) | (refine xdraw_rule tabOK ?_) | (refine xdraw_rule (tabLOK _) ?_)); (conv => whnf)))
  (repeat ((first | (refine cnd (by first | assumption | omega | decide | (show (fl.length + 1) * 40 ≤ 140737488355328; omega)) ?_) | (refine cnd0 ?_) | (refine Chk.mk (by kernel_rfl) ?_) | (refine xdraw_rule tabOK ?_) | (refine xdraw_rule (tabLOK _) ?_)); (conv => whnf)))
  (refine dcall (t102 (shOf fl) hw hsn 2 l t r b hf.t hf.b) 0 rfl fun hT_ => ?_; (conv => whnf); refine cnd hT_ (cnd rfl (cnd (by repeat (first | exact trivial | refine ⟨rfl, ?_⟩)) (cnd rfl (cnd0 ?_)))); clear hT_; (conv => whnf); repeat ((first | (refine cnd (by first | assumption | omega | decide) ?_) | (refine cnd0 ?_) | (refine Chk.mk (by kernel_rfl) ?_) | (refine xdraw_rule tabOK ?_) | (refine xdraw_rule (tabLOK _) ?_)); (conv => whnf)))
  (refine dcall (t103a (fl ++ [⟨2, ⟨l, t, r, b⟩⟩]) (addS 2 l t r b (shOf fl)) (fl.length + 1) (addS 2 l t r b (shOf fl)).length (lastE fl) ⟨0, false⟩ (botE 1 fl) (botE 2 fl) (botE 3 fl) t) 0 rfl fun hT_ => ?_; (conv => whnf); refine cnd hT_ (cnd rfl (cnd (by repeat (first | exact trivial | refine ⟨rfl, ?_⟩)) (cnd rfl (cnd0 ?_)))); clear hT_; (conv => whnf); repeat ((first | (refine cnd (by first | assumption | omega | decide) ?_) | (refine cnd0 ?_) | (refine Chk.mk (by kernel_rfl) ?_) | (refine xdraw_rule tabOK ?_) | (refine xdraw_rule (tabLOK _) ?_)); (conv => whnf)))
  refine xloop tabOK (fun x : Nat => x ≤ 2) (fun x => [(0, .v (pt 0)), (5, .v (pt 4)), (34, .v (.one (.slice 5 0 1 2))), (35, .v (iv 2)), (36, .v (iv x))]) (fun x => spJ (fl ++ [⟨2, ⟨l, t, r, b⟩⟩]) (addS 2 l t r b (shOf fl)) (fl.length + 1) (addS 2 l t r b (shOf fl)).length ((lastE fl).reach t) ⟨0, false⟩ (botE 1 fl) (edR x 0 (botE 2 fl) b) (edR x 1 (botE 3 fl) b) l t r b 2) (fun x => 2 - x) (0) [0, 1, 2, 3, 4, 422, 149, 309] (Nat.zero_le _) rfl rfl rfl (by repeat' (first | exact trivial | exact rfl | (refine And.intro ?_ ?_) | omega)) (by repeat' (first | exact trivial | exact rfl | (refine And.intro ?_ ?_) | omega)) ?_
  intro x hx
  match x, hx with
  | 0, _ =>
    ((conv => whnf); repeat ((first | (refine cnd (by first | assumption | omega | decide) ?_) | (refine cnd0 ?_) | (refine Chk.mk (by kernel_rfl) ?_) | (refine xdraw_rule tabOK ?_) | (refine xdraw_rule (tabLOK _) ?_)); (conv => whnf)))
    (refine Br.mk (fun c => ?_) (fun c => ?_) <;> ((conv => whnf); repeat ((first | (refine cnd (by first | assumption | omega | decide) ?_) | (refine cnd0 ?_) | (refine Chk.mk (by kernel_rfl) ?_) | (refine xdraw_rule tabOK ?_) | (refine xdraw_rule (tabLOK _) ?_)); (conv => whnf))))
    · (repeat ((first | (refine cnd (by first | assumption | omega | decide) ?_) | (refine cnd0 ?_) | (refine Chk.mk (by kernel_rfl) ?_) | (refine xdraw_rule tabOK ?_) | (refine xdraw_rule (tabLOK _) ?_)); (conv => whnf)))
      (refine dcall (t103c (fl ++ [⟨2, ⟨l, t, r, b⟩⟩]) (addS 2 l t r b (shOf fl)) (fl.length + 1) (addS 2 l t r b (shOf fl)).length ((lastE fl).reach t) ⟨0, false⟩ (botE 1 fl) (edR 0 0 (botE 2 fl) b) (edR 0 1 (botE 3 fl) b) b) 0 rfl fun hT_ => ?_; (conv => whnf); refine cnd hT_ (cnd rfl (cnd (by repeat (first | exact trivial | refine ⟨rfl, ?_⟩)) (cnd rfl (cnd0 ?_)))); clear hT_; (conv => whnf); repeat ((first | (refine cnd (by first | assumption | omega | decide) ?_) | (refine cnd0 ?_) | (refine Chk.mk (by kernel_rfl) ?_) | (refine xdraw_rule tabOK ?_) | (refine xdraw_rule (tabLOK _) ?_)); (conv => whnf)))
      exact rnd (1) [0, 1, 2, 3, 4, 5, 6, 7] (by omega) (by show 2 - 1 < 2 - 0; omega) rfl rfl rfl (by repeat' (first | exact trivial | exact rfl | (refine And.intro ?_ ?_) | omega)) (by repeat' (first | exact trivial | exact rfl | (refine And.intro ?_ ?_) | omega))
    · exact absurd c (by decide)
  | 1, _ =>
    ((conv => whnf); repeat ((first | (refine cnd (by first | assumption | omega | decide) ?_) | (refine cnd0 ?_) | (refine Chk.mk (by kernel_rfl) ?_) | (refine xdraw_rule tabOK ?_) | (refine xdraw_rule (tabLOK _) ?_)); (conv => whnf)))
    (refine Br.mk (fun c => ?_) (fun c => ?_) <;> ((conv => whnf); repeat ((first | (refine cnd (by first | assumption | omega | decide) ?_) | (refine cnd0 ?_) | (refine Chk.mk (by kernel_rfl) ?_) | (refine xdraw_rule tabOK ?_) | (refine xdraw_rule (tabLOK _) ?_)); (conv => whnf))))
    · (repeat ((first | (refine cnd (by first | assumption | omega | decide) ?_) | (refine cnd0 ?_) | (refine Chk.mk (by kernel_rfl) ?_) | (refine xdraw_rule tabOK ?_) | (refine xdraw_rule (tabLOK _) ?_)); (conv => whnf)))
      (refine dcall (t103d (fl ++ [⟨2, ⟨l, t, r, b⟩⟩]) (addS 2 l t r b (shOf fl)) (fl.length + 1) (addS 2 l t r b (shOf fl)).length ((lastE fl).reach t) ⟨0, false⟩ (botE 1 fl) (edR 1 0 (botE 2 fl) b) (edR 1 1 (botE 3 fl) b) b) 0 rfl fun hT_ => ?_; (conv => whnf); refine cnd hT_ (cnd rfl (cnd (by repeat (first | exact trivial | refine ⟨rfl, ?_⟩)) (cnd rfl (cnd0 ?_)))); clear hT_; (conv => whnf); repeat ((first | (refine cnd (by first | assumption | omega | decide) ?_) | (refine cnd0 ?_) | (refine Chk.mk (by kernel_rfl) ?_) | (refine xdraw_rule tabOK ?_) | (refine xdraw_rule (tabLOK _) ?_)); (conv => whnf)))
      exact rnd (2) [0, 1, 2, 3, 4, 5, 6, 7] (by omega) (by show 2 - 2 < 2 - 1; omega) rfl rfl rfl (by repeat' (first | exact trivial | exact rfl | (refine And.intro ?_ ?_) | omega)) (by repeat' (first | exact trivial | exact rfl | (refine And.intro ?_ ?_) | omega))
    · exact absurd c (by decide)
  | 2, _ =>
    ((conv => whnf); repeat ((first | (refine cnd (by first | assumption | omega | decide) ?_) | (refine cnd0 ?_) | (refine Chk.mk (by kernel_rfl) ?_) | (refine xdraw_rule tabOK ?_) | (refine xdraw_rule (tabLOK _) ?_)); (conv => whnf)))
    (refine Br.mk (fun c => ?_) (fun c => ?_) <;> ((conv => whnf); repeat ((first | (refine cnd (by first | assumption | omega | decide) ?_) | (refine cnd0 ?_) | (refine Chk.mk (by kernel_rfl) ?_) | (refine xdraw_rule tabOK ?_) | (refine xdraw_rule (tabLOK _) ?_)); (conv => whnf))))
    · exact absurd c (by decide)
    · exact xend [0, 1, 2, 3, 6, 7] (_) (spR (fl ++ [⟨2, ⟨l, t, r, b⟩⟩]) (addS 2 l t r b (shOf fl)) (fl.length + 1) (addS 2 l t r b (shOf fl)).length ((lastE fl).reach t) ⟨0, false⟩ (botE 1 fl) (edR 2 0 (botE 2 fl) b) (edR 2 1 (botE 3 fl) b)) (⟨rfl, rfl⟩) rfl rfl rfl (by repeat' (first | exact trivial | exact rfl | (refine And.intro ?_ ?_) | omega)) (by repeat' (first | exact trivial | exact rfl | (refine And.intro ?_ ?_) | omega))
  | x + 3, h => omega
-- Space.Put
theorem t82 (fl : List Flt) (ho : OKl fl) (side l t r b : Int) (hf : OKf ⟨side, ⟨l, t, r, b⟩⟩) :
    Tri Try.prog 82 [pt 0, iv side, rc l t r b] [some (spC fl)] (fun x post => x = .tup [] ∧ post = [some (spC (fl ++ [⟨side, ⟨l, t, r, b⟩⟩]))]) := by
  rcases hf.side with h | h
  · replace h : side = 1 := h
    subst h
    refine tri_pack (t82a fl ho l t r b hf) rfl ?_
    rintro x post ⟨rfl, rfl⟩
    have e : spM (fl ++ [⟨1, ⟨l, t, r, b⟩⟩]) = spX (fl ++ [⟨1, ⟨l, t, r, b⟩⟩]) (addS 1 l t r b (shOf fl)) (fl.length + 1) (addS 1 l t r b (shOf fl)).length ((lastE fl).reach t) ⟨0, false⟩ (edR 2 0 (botE 1 fl) b) (botE 2 fl) (edR 2 1 (botE 3 fl) b) := by
      simp [spX, shOf_snoc, lastE_snoc, botE_snoc, edR, Nat.blt]
    refine ⟨[1, 4, 5], spM (fl ++ [⟨1, ⟨l, t, r, b⟩⟩]), rfl, rfl, rfl, ?_, fun _ _ => rfl, fun _ => rfl, rfl, rfl⟩
    rw [e]
    repeat' (first | exact trivial | exact rfl | (refine And.intro ?_ ?_) | omega)
  · replace h : side = 2 := h
    subst h
    refine tri_pack (t82b fl ho l t r b hf) rfl ?_
    rintro x post ⟨rfl, rfl⟩
    have e : spM (fl ++ [⟨2, ⟨l, t, r, b⟩⟩]) = spX (fl ++ [⟨2, ⟨l, t, r, b⟩⟩]) (addS 2 l t r b (shOf fl)) (fl.length + 1) (addS 2 l t r b (shOf fl)).length ((lastE fl).reach t) ⟨0, false⟩ (botE 1 fl) (edR 2 0 (botE 2 fl) b) (edR 2 1 (botE 3 fl) b) := by
      simp [spX, shOf_snoc, lastE_snoc, botE_snoc, edR, Nat.blt]
    refine ⟨[1, 4, 5], spM (fl ++ [⟨2, ⟨l, t, r, b⟩⟩]), rfl, rfl, rfl, ?_, fun _ _ => rfl, fun _ => rfl, rfl, rfl⟩
    rw [e]
    repeat' (first | exact trivial | exact rfl | (refine And.intro ?_ ?_) | omega)
end Go.Proofs.Ytcmedheeafiogaa

namespace Go.Proofs.Ytcmedheeafiogaa
open Go.Sy
set_option linter.unusedVariables false
set_option linter.unusedSimpArgs false
theorem spRO {f : FuncId} {args : List PV} {v : SV} {fl : List Flt} (T : Tri Try.prog f args (spM fl) (fun r p => r = v ∧ p = spM fl)) (h1 : ∀ ν ν', v.den ν = v.den ν') (h2 : ∀ σ, v.ren σ = v) :
    Tri Try.prog f args [some (spC fl)] (fun r p => r = v ∧ p = [some (spC fl)]) := by
  refine tri_pack T rfl ?_
  rintro x post ⟨rfl, rfl⟩
  refine ⟨[1, 2, 3], spM fl, rfl, rfl, rfl, ?_, h1, h2, rfl, rfl⟩
  repeat' (first | exact trivial | exact rfl | (refine And.intro ?_ ?_) | omega)
-- space.New
theorem t42 : Tri Try.prog 42 [] [] (fun x post => x = .v (pt 0) ∧ post = [some (spC [])]) := by
  have T : Tri Try.prog 42 [] [] (fun x post => x = .v (pt 0) ∧ post = [some (.cells 120 [.ptr ⟨1, 0, 0, 0⟩, .nils, ci 0, .bool (.X false), ci 0, .bool (.X false), ci 0, .bool (.X false), ci 0, .bool (.X false), ci 0, .bool (.X false)]), some (.cells 158 [.slice 2 0 3 1]), some (.rows 161 encShelf [⟨-far, -far, far⟩])]) := by
    (refine tri_x tabOK Try.func42 rfl rfl Try.ntmps42 (by simp) fun C => ?_; (conv => whnf); repeat ((first | (refine cnd (by first | assumption | omega | decide) ?_) | (refine cnd0 ?_) | (refine Chk.mk (by kernel_rfl) ?_) | (refine xdraw_rule tabOK ?_) | (refine xdraw_rule (tabLOK _) ?_)); (conv => whnf)))
    (refine xcall (t80) rfl rfl rfl (by repeat (first | exact trivial | refine ⟨rfl, ?_⟩)) ?_; (conv => whnf); repeat ((first | (refine cnd (by first | assumption | omega | decide) ?_) | (refine cnd0 ?_) | (refine Chk.mk (by kernel_rfl) ?_) | (refine xdraw_rule tabOK ?_) | (refine xdraw_rule (tabLOK _) ?_)); (conv => whnf)))
    exact xend [4, 1, 2] (_) (_) (⟨rfl, rfl⟩) rfl rfl rfl (by repeat' (first | exact trivial | exact rfl | (refine And.intro ?_ ?_) | omega)) (by repeat' (first | exact trivial | exact rfl | (refine And.intro ?_ ?_) | omega))
  refine tri_conv T (HEnt.refl _) ?_
  rintro x post ⟨rfl, rfl⟩
  refine ⟨_, [0], .v (pt 0), [some (spC [])], (hent_nil (l := [some (.cells 120 [.ptr ⟨1, 0, 0, 0⟩, .nils, ci 0, .bool (.X false), ci 0, .bool (.X false), ci 0, .bool (.X false), ci 0, .bool (.X false), ci 0, .bool (.X false)]), some (.cells 158 [.slice 2 0 3 1]), some (.rows 161 encShelf [⟨-far, -far, far⟩])]) 0 [.ptr ⟨1, 0, 0, 0⟩] _ rfl 90 encFlt).trans (hent_close (m := spM []) 0 [1, 3, 2] rfl rfl rfl (by repeat' (first | exact trivial | exact rfl | (refine And.intro ?_ ?_) | omega))), rfl, rfl, rfl, ⟨ChEq.refl _, trivial⟩, fun _ => rfl, rfl, rfl⟩
-- Last
theorem t75 (fl : List Flt) : Tri Try.prog 75 [pt 0] [some (spC fl)] (fun x post => x = .tup [iv (lastE fl).at_, bv (lastE fl).there] ∧ post = [some (spC fl)]) := by
  refine spRO ?_ (fun _ _ => rfl) (fun _ => rfl)
  (refine tri_x tabOK Try.func75 rfl rfl Try.ntmps75 (by simp) fun C => ?_; (conv => whnf); repeat ((first | (refine cnd (by first | assumption | omega | decide) ?_) | (refine cnd0 ?_) | (refine Chk.mk (by kernel_rfl) ?_) | (refine xdraw_rule tabOK ?_) | (refine xdraw_rule (tabLOK _) ?_)); (conv => whnf)))
  (refine xcall (t81 (lastE fl).at_ (lastE fl).there) rfl rfl rfl (by repeat (first | exact trivial | refine ⟨rfl, ?_⟩)) ?_; (conv => whnf); repeat ((first | (refine cnd (by first | assumption | omega | decide) ?_) | (refine cnd0 ?_) | (refine Chk.mk (by kernel_rfl) ?_) | (refine xdraw_rule tabOK ?_) | (refine xdraw_rule (tabLOK _) ?_)); (conv => whnf)))
  exact xend [0, 1, 2, 3] _ _ ⟨rfl, rfl⟩ rfl rfl rfl (by repeat' (first | exact trivial | exact rfl | (refine And.intro ?_ ?_) | omega)) (by repeat' (first | exact trivial | exact rfl | (refine And.intro ?_ ?_) | omega))
def cRight (c : Int) : Bool := decide (0 < c) && decide (c ≤ 3)
/-- What is cleared: the lowest bottom. -/
def botS (fl : List Flt) (c : Int) : Ed := bif cRight c then botE c fl else ⟨0, false⟩
-- Bottom
theorem t43 (fl : List Flt) (c : Int) : Tri Try.prog 43 [pt 0, iv c] [some (spC fl)] (fun x post => x = .tup [iv (botS fl c).at_, bv (botS fl c).there] ∧ post = [some (spC fl)]) := by
  refine spRO ?_ (fun _ _ => rfl) (fun _ => rfl)
  by_cases h : 1 ≤ c ∧ c ≤ 3
  · have hb : botS fl c = botE c fl := by unfold botS cRight; simp [show 0 < c by omega, h.2]
    rw [hb]
    have : c = 1 ∨ c = 2 ∨ c = 3 := by omega
    rcases this with rfl | rfl | rfl
    · (refine tri_x tabOK Try.func43 rfl rfl Try.ntmps43 (by simp) fun C => ?_; (conv => whnf); repeat ((first | (refine cnd (by first | assumption | omega | decide) ?_) | (refine cnd0 ?_) | (refine Chk.mk (by kernel_rfl) ?_) | (refine xdraw_rule tabOK ?_) | (refine xdraw_rule (tabLOK _) ?_)); (conv => whnf)))
      (refine Br.mk (fun h1 => ?_) (fun h1 => ?_) <;> ((conv => whnf); repeat ((first | (refine cnd (by first | assumption | omega | decide) ?_) | (refine cnd0 ?_) | (refine Chk.mk (by kernel_rfl) ?_) | (refine xdraw_rule tabOK ?_) | (refine xdraw_rule (tabLOK _) ?_)); (conv => whnf))))
      · exact absurd h1 (by decide)
      · (refine Br.mk (fun h2 => ?_) (fun h2 => ?_) <;> ((conv => whnf); repeat ((first | (refine cnd (by first | assumption | omega | decide) ?_) | (refine cnd0 ?_) | (refine Chk.mk (by kernel_rfl) ?_) | (refine xdraw_rule tabOK ?_) | (refine xdraw_rule (tabLOK _) ?_)); (conv => whnf))))
        · exact absurd h2 (by decide)
        · (refine xcall (t81 (botE 1 fl).at_ (botE 1 fl).there) rfl rfl rfl (by repeat (first | exact trivial | refine ⟨rfl, ?_⟩)) ?_; (conv => whnf); repeat ((first | (refine cnd (by first | assumption | omega | decide) ?_) | (refine cnd0 ?_) | (refine Chk.mk (by kernel_rfl) ?_) | (refine xdraw_rule tabOK ?_) | (refine xdraw_rule (tabLOK _) ?_)); (conv => whnf)))
          exact xend [0, 1, 2, 3] _ _ ⟨rfl, rfl⟩ rfl rfl rfl (by repeat' (first | exact trivial | exact rfl | (refine And.intro ?_ ?_) | omega)) (by repeat' (first | exact trivial | exact rfl | (refine And.intro ?_ ?_) | omega))
    · (refine tri_x tabOK Try.func43 rfl rfl Try.ntmps43 (by simp) fun C => ?_; (conv => whnf); repeat ((first | (refine cnd (by first | assumption | omega | decide) ?_) | (refine cnd0 ?_) | (refine Chk.mk (by kernel_rfl) ?_) | (refine xdraw_rule tabOK ?_) | (refine xdraw_rule (tabLOK _) ?_)); (conv => whnf)))
      (refine Br.mk (fun h1 => ?_) (fun h1 => ?_) <;> ((conv => whnf); repeat ((first | (refine cnd (by first | assumption | omega | decide) ?_) | (refine cnd0 ?_) | (refine Chk.mk (by kernel_rfl) ?_) | (refine xdraw_rule tabOK ?_) | (refine xdraw_rule (tabLOK _) ?_)); (conv => whnf))))
      · exact absurd h1 (by decide)
      · (refine Br.mk (fun h2 => ?_) (fun h2 => ?_) <;> ((conv => whnf); repeat ((first | (refine cnd (by first | assumption | omega | decide) ?_) | (refine cnd0 ?_) | (refine Chk.mk (by kernel_rfl) ?_) | (refine xdraw_rule tabOK ?_) | (refine xdraw_rule (tabLOK _) ?_)); (conv => whnf))))
        · exact absurd h2 (by decide)
        · (refine xcall (t81 (botE 2 fl).at_ (botE 2 fl).there) rfl rfl rfl (by repeat (first | exact trivial | refine ⟨rfl, ?_⟩)) ?_; (conv => whnf); repeat ((first | (refine cnd (by first | assumption | omega | decide) ?_) | (refine cnd0 ?_) | (refine Chk.mk (by kernel_rfl) ?_) | (refine xdraw_rule tabOK ?_) | (refine xdraw_rule (tabLOK _) ?_)); (conv => whnf)))
          exact xend [0, 1, 2, 3] _ _ ⟨rfl, rfl⟩ rfl rfl rfl (by repeat' (first | exact trivial | exact rfl | (refine And.intro ?_ ?_) | omega)) (by repeat' (first | exact trivial | exact rfl | (refine And.intro ?_ ?_) | omega))
    · (refine tri_x tabOK Try.func43 rfl rfl Try.ntmps43 (by simp) fun C => ?_; (conv => whnf); repeat ((first | (refine cnd (by first | assumption | omega | decide) ?_) | (refine cnd0 ?_) | (refine Chk.mk (by kernel_rfl) ?_) | (refine xdraw_rule tabOK ?_) | (refine xdraw_rule (tabLOK _) ?_)); (conv => whnf)))
      (refine Br.mk (fun h1 => ?_) (fun h1 => ?_) <;> ((conv => whnf); repeat ((first | (refine cnd (by first | assumption | omega | decide) ?_) | (refine cnd0 ?_) | (refine Chk.mk (by kernel_rfl) ?_) | (refine xdraw_rule tabOK ?_) | (refine xdraw_rule (tabLOK _) ?_)); (conv => whnf))))
      · exact absurd h1 (by decide)
      · (refine Br.mk (fun h2 => ?_) (fun h2 => ?_) <;> ((conv => whnf); repeat ((first | (refine cnd (by first | assumption | omega | decide) ?_) | (refine cnd0 ?_) | (refine Chk.mk (by kernel_rfl) ?_) | (refine xdraw_rule tabOK ?_) | (refine xdraw_rule (tabLOK _) ?_)); (conv => whnf))))
        · exact absurd h2 (by decide)
        · (refine xcall (t81 (botE 3 fl).at_ (botE 3 fl).there) rfl rfl rfl (by repeat (first | exact trivial | refine ⟨rfl, ?_⟩)) ?_; (conv => whnf); repeat ((first | (refine cnd (by first | assumption | omega | decide) ?_) | (refine cnd0 ?_) | (refine Chk.mk (by kernel_rfl) ?_) | (refine xdraw_rule tabOK ?_) | (refine xdraw_rule (tabLOK _) ?_)); (conv => whnf)))
          exact xend [0, 1, 2, 3] _ _ ⟨rfl, rfl⟩ rfl rfl rfl (by repeat' (first | exact trivial | exact rfl | (refine And.intro ?_ ?_) | omega)) (by repeat' (first | exact trivial | exact rfl | (refine And.intro ?_ ?_) | omega))
  · have hb : botS fl c = ⟨0, false⟩ := by
      unfold botS cRight
      by_cases h1 : 0 < c
      · have : ¬ c ≤ 3 := by omega
        simp [this]
      · simp [h1]
    rw [hb]
    (refine tri_x tabOK Try.func43 rfl rfl Try.ntmps43 (by simp) fun C => ?_; (conv => whnf); repeat ((first | (refine cnd (by first | assumption | omega | decide) ?_) | (refine cnd0 ?_) | (refine Chk.mk (by kernel_rfl) ?_) | (refine xdraw_rule tabOK ?_) | (refine xdraw_rule (tabLOK _) ?_)); (conv => whnf)))
    (refine Br.mk (fun h1 => ?_) (fun h1 => ?_) <;> ((conv => whnf); repeat ((first | (refine cnd (by first | assumption | omega | decide) ?_) | (refine cnd0 ?_) | (refine Chk.mk (by kernel_rfl) ?_) | (refine xdraw_rule tabOK ?_) | (refine xdraw_rule (tabLOK _) ?_)); (conv => whnf))))
    · exact xend [0, 1, 2, 3] _ _ ⟨rfl, rfl⟩ rfl rfl rfl (by repeat' (first | exact trivial | exact rfl | (refine And.intro ?_ ?_) | omega)) (by repeat' (first | exact trivial | exact rfl | (refine And.intro ?_ ?_) | omega))
    · (refine Br.mk (fun h2 => ?_) (fun h2 => ?_) <;> ((conv => whnf); repeat ((first | (refine cnd (by first | assumption | omega | decide) ?_) | (refine cnd0 ?_) | (refine Chk.mk (by kernel_rfl) ?_) | (refine xdraw_rule tabOK ?_) | (refine xdraw_rule (tabLOK _) ?_)); (conv => whnf))))
      · exact xend [0, 1, 2, 3] _ _ ⟨rfl, rfl⟩ rfl rfl rfl (by repeat' (first | exact trivial | exact rfl | (refine And.intro ?_ ?_) | omega)) (by repeat' (first | exact trivial | exact rfl | (refine And.intro ?_ ?_) | omega))
      · exfalso
        have := of_decide_eq_false h1
        have := of_decide_eq_false h2
        omega
def clearF (fl : List Flt) (c y : Int) : Int := bif (botS fl c).there then max y (botS fl c).at_ else y
-- Clear
theorem t74 (fl : List Flt) (c y : Int) : Tri Try.prog 74 [pt 0, iv c, iv y] [some (spC fl)] (fun x post => x = .v (iv (clearF fl c y)) ∧ post = [some (spC fl)]) := by
  (refine tri_x tabOK Try.func74 rfl rfl Try.ntmps74 (by simp) fun C => ?_; (conv => whnf); repeat ((first | (refine cnd (by first | assumption | omega | decide) ?_) | (refine cnd0 ?_) | (refine Chk.mk (by kernel_rfl) ?_) | (refine xdraw_rule tabOK ?_) | (refine xdraw_rule (tabLOK _) ?_)); (conv => whnf)))
  (refine xcall (t43 fl c) rfl rfl rfl (by repeat (first | exact trivial | refine ⟨rfl, ?_⟩)) ?_; (conv => whnf); repeat ((first | (refine cnd (by first | assumption | omega | decide) ?_) | (refine cnd0 ?_) | (refine Chk.mk (by kernel_rfl) ?_) | (refine xdraw_rule tabOK ?_) | (refine xdraw_rule (tabLOK _) ?_)); (conv => whnf)))
  (refine Br.mk (fun h => ?_) (fun h => ?_) <;> ((conv => whnf); repeat ((first | (refine cnd (by first | assumption | omega | decide) ?_) | (refine cnd0 ?_) | (refine Chk.mk (by kernel_rfl) ?_) | (refine xdraw_rule tabOK ?_) | (refine xdraw_rule (tabLOK _) ?_)); (conv => whnf))))
  · exact xend [0] _ _ ⟨rfl, rfl⟩ rfl rfl rfl (by repeat' (first | exact trivial | exact rfl | (refine And.intro ?_ ?_) | omega | exact (show max y (botS fl c).at_ = clearF fl c y by unfold clearF; rw [h]; rfl))) (by repeat' (first | exact trivial | exact rfl | (refine And.intro ?_ ?_) | omega | exact (show max y (botS fl c).at_ = clearF fl c y by unfold clearF; rw [h]; rfl)))
  · exact xend [0] _ _ ⟨rfl, rfl⟩ rfl rfl rfl (by repeat' (first | exact trivial | exact rfl | (refine And.intro ?_ ?_) | omega | exact (show y = clearF fl c y by unfold clearF; rw [h]; rfl))) (by repeat' (first | exact trivial | exact rfl | (refine And.intro ?_ ?_) | omega | exact (show y = clearF fl c y by unfold clearF; rw [h]; rfl)))
-- Rows
theorem t28 (y h : Int) : Tri Try.prog 28 [iv y, iv h] [] (fun x post => x = .v (sp y (IntKind.i64.wrap (y + max h 1))) ∧ post = []) := by
  (refine tri_x tabOK Try.func28 rfl rfl Try.ntmps28 (by simp) fun C => ?_; (conv => whnf); repeat ((first | (refine cnd (by first | assumption | omega | decide) ?_) | (refine cnd0 ?_) | (refine Chk.mk (by kernel_rfl) ?_) | (refine xdraw_rule tabOK ?_) | (refine xdraw_rule (tabLOK _) ?_)); (conv => whnf)))
  exact xend [] _ _ ⟨rfl, rfl⟩ rfl rfl rfl (by repeat' (first | exact trivial | exact rfl | (refine And.intro ?_ ?_) | omega)) (by repeat' (first | exact trivial | exact rfl | (refine And.intro ?_ ?_) | omega))
abbrev bnd (fl : List Flt) (a b : Int) : Int × Int := band (shOf fl) a b
-- Bounds
theorem t34 (fl : List Flt) (ho : OKl fl) (a b : Int) : Tri Try.prog 34 [pt 0, sp a b] [some (spC fl)] (fun x post => x = .v (sp (bnd fl a b).1 (bnd fl a b).2) ∧ post = [some (spC fl)]) := by
  refine spRO ?_ (fun _ _ => rfl) (fun _ => rfl)
  have hw := shOf_wf ho
  have hsn := shOf_len ho
  (refine tri_x tabOK Try.func34 rfl rfl Try.ntmps34 (by simp) fun C => ?_; (conv => whnf); repeat ((first | (refine cnd (by first | assumption | omega | decide) ?_) | (refine cnd0 ?_) | (refine Chk.mk (by kernel_rfl) ?_) | (refine xdraw_rule tabOK ?_) | (refine xdraw_rule (tabLOK _) ?_)); (conv => whnf)))
  (refine dcallR (t65 (shOf fl) hw.sorted (by omega) hw.ne a b) rfl fun hT_ => ?_; (conv => whnf); refine cnd hT_ (cnd rfl (cnd (by repeat (first | exact trivial | refine ⟨rfl, ?_⟩)) (cnd rfl (cnd0 ?_)))); clear hT_; (conv => whnf); repeat ((first | (refine cnd (by first | assumption | omega | decide) ?_) | (refine cnd0 ?_) | (refine Chk.mk (by kernel_rfl) ?_) | (refine xdraw_rule tabOK ?_) | (refine xdraw_rule (tabLOK _) ?_)); (conv => whnf)))
  exact xend [0, 1, 2, 3] _ _ ⟨rfl, rfl⟩ rfl rfl rfl (by repeat' (first | exact trivial | exact rfl | (refine And.intro ?_ ?_) | omega)) (by repeat' (first | exact trivial | exact rfl | (refine And.intro ?_ ?_) | omega))
-- Free
theorem t27 (fl : List Flt) (ho : OKl fl) (c d a b : Int) : Tri Try.prog 27 [pt 0, sp c d, sp a b] [some (spC fl)] (fun x post => x = .v (sp (max c (bnd fl a b).1) (min d (bnd fl a b).2)) ∧ post = [some (spC fl)]) := by
  refine spRO ?_ (fun _ _ => rfl) (fun _ => rfl)
  have hw := shOf_wf ho
  have hsn := shOf_len ho
  (refine tri_x tabOK Try.func27 rfl rfl Try.ntmps27 (by simp) fun C => ?_; (conv => whnf); repeat ((first | (refine cnd (by first | assumption | omega | decide) ?_) | (refine cnd0 ?_) | (refine Chk.mk (by kernel_rfl) ?_) | (refine xdraw_rule tabOK ?_) | (refine xdraw_rule (tabLOK _) ?_)); (conv => whnf)))
  (refine dcallR (t65 (shOf fl) hw.sorted (by omega) hw.ne a b) rfl fun hT_ => ?_; (conv => whnf); refine cnd hT_ (cnd rfl (cnd (by repeat (first | exact trivial | refine ⟨rfl, ?_⟩)) (cnd rfl (cnd0 ?_)))); clear hT_; (conv => whnf); repeat ((first | (refine cnd (by first | assumption | omega | decide) ?_) | (refine cnd0 ?_) | (refine Chk.mk (by kernel_rfl) ?_) | (refine xdraw_rule tabOK ?_) | (refine xdraw_rule (tabLOK _) ?_)); (conv => whnf)))
  (refine dcallR (t64 c d (bnd fl a b).1 (bnd fl a b).2) rfl fun hT_ => ?_; (conv => whnf); refine cnd hT_ (cnd rfl (cnd (by repeat (first | exact trivial | refine ⟨rfl, ?_⟩)) (cnd rfl (cnd0 ?_)))); clear hT_; (conv => whnf); repeat ((first | (refine cnd (by first | assumption | omega | decide) ?_) | (refine cnd0 ?_) | (refine Chk.mk (by kernel_rfl) ?_) | (refine xdraw_rule tabOK ?_) | (refine xdraw_rule (tabLOK _) ?_)); (conv => whnf)))
  exact xend [0, 1, 2, 3] _ _ ⟨rfl, rfl⟩ rfl rfl rfl (by repeat' (first | exact trivial | exact rfl | (refine And.intro ?_ ?_) | omega)) (by repeat' (first | exact trivial | exact rfl | (refine And.intro ?_ ?_) | omega))
end Go.Proofs.Ytcmedheeafiogaa

namespace Go.Proofs.Ytcmedheeafiogaa
open Go.Sy
set_option linter.unusedVariables false
set_option linter.unusedSimpArgs false
/-! Where a float goes. -/
abbrev wnP (w : Wn) : PV := .agg [ci w.side, ci w.clear, ci w.from_, ci w.to, ci w.w, ci w.h, ci w.y]
def atP (w : Wn) (a b : Int) : Int × Int := bif decide (w.side = 1) then (a, IntKind.i64.wrap (a + w.w)) else (IntKind.i64.wrap (b - w.w), b)
-- Want.at
theorem t71 (w : Wn) (a b : Int) : Tri Try.prog 71 [wnP w, sp a b] [] (fun x post => x = .v (sp (atP w a b).1 (atP w a b).2) ∧ post = []) := by
  (refine tri_x tabOK Try.func71 rfl rfl Try.ntmps71 (by simp) fun C => ?_; (conv => whnf); repeat ((first | (refine cnd (by first | assumption | omega | decide) ?_) | (refine cnd0 ?_) | (refine Chk.mk (by kernel_rfl) ?_) | (refine xdraw_rule tabOK ?_) | (refine xdraw_rule (tabLOK _) ?_)); (conv => whnf)))
  (refine Br.mk (fun h => ?_) (fun h => ?_) <;> ((conv => whnf); repeat ((first | (refine cnd (by first | assumption | omega | decide) ?_) | (refine cnd0 ?_) | (refine Chk.mk (by kernel_rfl) ?_) | (refine xdraw_rule tabOK ?_) | (refine xdraw_rule (tabLOK _) ?_)); (conv => whnf))))
  · exact xend [] (.v (sp a (IntKind.i64.wrap (a + w.w)))) (_) (⟨by unfold atP; rw [h]; rfl, rfl⟩) rfl rfl rfl (by repeat' (first | exact trivial | exact rfl | (refine And.intro ?_ ?_) | omega)) (by repeat' (first | exact trivial | exact rfl | (refine And.intro ?_ ?_) | omega))
  · exact xend [] (.v (sp (IntKind.i64.wrap (b - w.w)) b)) (_) (⟨by unfold atP; rw [h]; rfl, rfl⟩) rfl rfl rfl (by repeat' (first | exact trivial | exact rfl | (refine And.intro ?_ ?_) | omega)) (by repeat' (first | exact trivial | exact rfl | (refine And.intro ?_ ?_) | omega))
def sticksB (w : Wn) (a b : Int) : Bool := decide (w.w > IntKind.i64.wrap (w.to - w.from_)) && (decide ((atP w w.from_ w.to).1 ≥ a) && decide ((atP w w.from_ w.to).2 ≤ b))
-- Want.sticks
theorem t70 (w : Wn) (a b : Int) : Tri Try.prog 70 [wnP w, sp a b] [] (fun x post => x = .v (bv (sticksB w a b)) ∧ post = []) := by
  (refine tri_x tabOK Try.func70 rfl rfl Try.ntmps70 (by simp) fun C => ?_; (conv => whnf); repeat ((first | (refine cnd (by first | assumption | omega | decide) ?_) | (refine cnd0 ?_) | (refine Chk.mk (by kernel_rfl) ?_) | (refine xdraw_rule tabOK ?_) | (refine xdraw_rule (tabLOK _) ?_)); (conv => whnf)))
  (refine xcall (t71 w w.from_ w.to) rfl rfl rfl (by repeat (first | exact trivial | refine ⟨rfl, ?_⟩)) ?_; (conv => whnf); repeat ((first | (refine cnd (by first | assumption | omega | decide) ?_) | (refine cnd0 ?_) | (refine Chk.mk (by kernel_rfl) ?_) | (refine xdraw_rule tabOK ?_) | (refine xdraw_rule (tabLOK _) ?_)); (conv => whnf)))
  (refine dcallR (t29 w.from_ w.to) rfl fun hT_ => ?_; (conv => whnf); refine cnd hT_ (cnd rfl (cnd (by repeat (first | exact trivial | refine ⟨rfl, ?_⟩)) (cnd rfl (cnd0 ?_)))); clear hT_; (conv => whnf); repeat ((first | (refine cnd (by first | assumption | omega | decide) ?_) | (refine cnd0 ?_) | (refine Chk.mk (by kernel_rfl) ?_) | (refine xdraw_rule tabOK ?_) | (refine xdraw_rule (tabLOK _) ?_)); (conv => whnf)))
  (refine Br.mk (fun h1 => ?_) (fun h1 => ?_) <;> ((conv => whnf); repeat ((first | (refine cnd (by first | assumption | omega | decide) ?_) | (refine cnd0 ?_) | (refine Chk.mk (by kernel_rfl) ?_) | (refine xdraw_rule tabOK ?_) | (refine xdraw_rule (tabLOK _) ?_)); (conv => whnf))))
  · (repeat ((first | (refine cnd (by first | assumption | omega | decide) ?_) | (refine cnd0 ?_) | (refine Chk.mk (by kernel_rfl) ?_) | (refine xdraw_rule tabOK ?_) | (refine xdraw_rule (tabLOK _) ?_)); (conv => whnf)))
    (refine Br.mk (fun h2 => ?_) (fun h2 => ?_) <;> ((conv => whnf); repeat ((first | (refine cnd (by first | assumption | omega | decide) ?_) | (refine cnd0 ?_) | (refine Chk.mk (by kernel_rfl) ?_) | (refine xdraw_rule tabOK ?_) | (refine xdraw_rule (tabLOK _) ?_)); (conv => whnf))))
    · (repeat ((first | (refine cnd (by first | assumption | omega | decide) ?_) | (refine cnd0 ?_) | (refine Chk.mk (by kernel_rfl) ?_) | (refine xdraw_rule tabOK ?_) | (refine xdraw_rule (tabLOK _) ?_)); (conv => whnf)))
      exact xend [] (.v (bv (decide ((atP w w.from_ w.to).2 ≤ b)))) (_) (⟨by unfold sticksB; rw [h1, h2]; rfl, rfl⟩) rfl rfl rfl (by repeat' (first | exact trivial | exact rfl | (refine And.intro ?_ ?_) | omega)) (by repeat' (first | exact trivial | exact rfl | (refine And.intro ?_ ?_) | omega))
    · (repeat ((first | (refine cnd (by first | assumption | omega | decide) ?_) | (refine cnd0 ?_) | (refine Chk.mk (by kernel_rfl) ?_) | (refine xdraw_rule tabOK ?_) | (refine xdraw_rule (tabLOK _) ?_)); (conv => whnf)))
      exact xend [] (.v (bv false)) (_) (⟨by unfold sticksB; rw [h1, h2]; rfl, rfl⟩) rfl rfl rfl (by repeat' (first | exact trivial | exact rfl | (refine And.intro ?_ ?_) | omega)) (by repeat' (first | exact trivial | exact rfl | (refine And.intro ?_ ?_) | omega))
  · (repeat ((first | (refine cnd (by first | assumption | omega | decide) ?_) | (refine cnd0 ?_) | (refine Chk.mk (by kernel_rfl) ?_) | (refine xdraw_rule tabOK ?_) | (refine xdraw_rule (tabLOK _) ?_)); (conv => whnf)))
    exact xend [] (.v (bv false)) (_) (⟨by unfold sticksB; rw [h1]; rfl, rfl⟩) rfl rfl rfl (by repeat' (first | exact trivial | exact rfl | (refine And.intro ?_ ?_) | omega)) (by repeat' (first | exact trivial | exact rfl | (refine And.intro ?_ ?_) | omega))
/-- The rows that a want takes at a height; what is free of them; the bounds. -/
def rowE (y h : Int) : Int := IntKind.i64.wrap (y + max h 1)
abbrev wB (fl : List Flt) (w : Wn) (y : Int) : Int × Int := bnd fl y (rowE y w.h)
def roomB (fl : List Flt) (w : Wn) (y : Int) : Bool := decide (w.w ≤ IntKind.i64.wrap (min w.to (wB fl w y).2 - max w.from_ (wB fl w y).1))
def atB (fl : List Flt) (w : Wn) (y : Int) : Bool := roomB fl w y || sticksB w (wB fl w y).1 (wB fl w y).2
def atX (fl : List Flt) (w : Wn) (y : Int) : Int := bif atB fl w y then (atP w (max w.from_ (wB fl w y).1) (min w.to (wB fl w y).2)).1 else 0
theorem t28' (y h : Int) : Tri Try.prog 28 [iv y, iv h] [] (fun x post => x = .v (sp y (rowE y h)) ∧ post = []) := t28 y h
-- At
theorem t35 (fl : List Flt) (ho : OKl fl) (w : Wn) (y : Int) : Tri Try.prog 35 [pt 0, wnP w, iv y] [some (spC fl)] (fun x post => x = .tup [iv (atX fl w y), bv (atB fl w y)] ∧ post = [some (spC fl)]) := by
  (refine tri_x tabOK Try.func35 rfl rfl Try.ntmps35 (by simp) fun C => ?_; (conv => whnf); repeat ((first | (refine cnd (by first | assumption | omega | decide) ?_) | (refine cnd0 ?_) | (refine Chk.mk (by kernel_rfl) ?_) | (refine xdraw_rule tabOK ?_) | (refine xdraw_rule (tabLOK _) ?_)); (conv => whnf)))
  (refine xcall (t28' y w.h) rfl rfl rfl (by repeat (first | exact trivial | refine ⟨rfl, ?_⟩)) ?_; (conv => whnf); repeat ((first | (refine cnd (by first | assumption | omega | decide) ?_) | (refine cnd0 ?_) | (refine Chk.mk (by kernel_rfl) ?_) | (refine xdraw_rule tabOK ?_) | (refine xdraw_rule (tabLOK _) ?_)); (conv => whnf)))
  (refine xcall (t27 fl ho w.from_ w.to y (rowE y w.h)) rfl rfl rfl (by repeat (first | exact trivial | refine ⟨rfl, ?_⟩)) ?_; (conv => whnf); repeat ((first | (refine cnd (by first | assumption | omega | decide) ?_) | (refine cnd0 ?_) | (refine Chk.mk (by kernel_rfl) ?_) | (refine xdraw_rule tabOK ?_) | (refine xdraw_rule (tabLOK _) ?_)); (conv => whnf)))
  (refine dcallR (t29 (max w.from_ (wB fl w y).1) (min w.to (wB fl w y).2)) rfl fun hT_ => ?_; (conv => whnf); refine cnd hT_ (cnd rfl (cnd (by repeat (first | exact trivial | refine ⟨rfl, ?_⟩)) (cnd rfl (cnd0 ?_)))); clear hT_; (conv => whnf); repeat ((first | (refine cnd (by first | assumption | omega | decide) ?_) | (refine cnd0 ?_) | (refine Chk.mk (by kernel_rfl) ?_) | (refine xdraw_rule tabOK ?_) | (refine xdraw_rule (tabLOK _) ?_)); (conv => whnf)))
  (refine Br.mk (fun h1 => ?_) (fun h1 => ?_) <;> ((conv => whnf); repeat ((first | (refine cnd (by first | assumption | omega | decide) ?_) | (refine cnd0 ?_) | (refine Chk.mk (by kernel_rfl) ?_) | (refine xdraw_rule tabOK ?_) | (refine xdraw_rule (tabLOK _) ?_)); (conv => whnf))))
  · (repeat ((first | (refine cnd (by first | assumption | omega | decide) ?_) | (refine cnd0 ?_) | (refine Chk.mk (by kernel_rfl) ?_) | (refine xdraw_rule tabOK ?_) | (refine xdraw_rule (tabLOK _) ?_)); (conv => whnf)))
    (refine xcall (t71 w (max w.from_ (wB fl w y).1) (min w.to (wB fl w y).2)) rfl rfl rfl (by repeat (first | exact trivial | refine ⟨rfl, ?_⟩)) ?_; (conv => whnf); repeat ((first | (refine cnd (by first | assumption | omega | decide) ?_) | (refine cnd0 ?_) | (refine Chk.mk (by kernel_rfl) ?_) | (refine xdraw_rule tabOK ?_) | (refine xdraw_rule (tabLOK _) ?_)); (conv => whnf)))
    have e : atB fl w y = true := by unfold atB roomB; rw [h1]; rfl
    exact xend [0] (.tup [iv (atP w (max w.from_ (wB fl w y).1) (min w.to (wB fl w y).2)).1, bv true]) (_) (⟨by unfold atX; rw [e]; rfl, rfl⟩) rfl rfl rfl (by repeat' (first | exact trivial | exact rfl | (refine And.intro ?_ ?_) | omega)) (by repeat' (first | exact trivial | exact rfl | (refine And.intro ?_ ?_) | omega))
  · (repeat ((first | (refine cnd (by first | assumption | omega | decide) ?_) | (refine cnd0 ?_) | (refine Chk.mk (by kernel_rfl) ?_) | (refine xdraw_rule tabOK ?_) | (refine xdraw_rule (tabLOK _) ?_)); (conv => whnf)))
    (refine dcallR (t34 fl ho y (rowE y w.h)) rfl fun hT_ => ?_; (conv => whnf); refine cnd hT_ (cnd rfl (cnd (by repeat (first | exact trivial | refine ⟨rfl, ?_⟩)) (cnd rfl (cnd0 ?_)))); clear hT_; (conv => whnf); repeat ((first | (refine cnd (by first | assumption | omega | decide) ?_) | (refine cnd0 ?_) | (refine Chk.mk (by kernel_rfl) ?_) | (refine xdraw_rule tabOK ?_) | (refine xdraw_rule (tabLOK _) ?_)); (conv => whnf)))
    (refine dcallR (t70 w (wB fl w y).1 (wB fl w y).2) rfl fun hT_ => ?_; (conv => whnf); refine cnd hT_ (cnd rfl (cnd (by repeat (first | exact trivial | refine ⟨rfl, ?_⟩)) (cnd rfl (cnd0 ?_)))); clear hT_; (conv => whnf); repeat ((first | (refine cnd (by first | assumption | omega | decide) ?_) | (refine cnd0 ?_) | (refine Chk.mk (by kernel_rfl) ?_) | (refine xdraw_rule tabOK ?_) | (refine xdraw_rule (tabLOK _) ?_)); (conv => whnf)))
    have e : atB fl w y = sticksB w (wB fl w y).1 (wB fl w y).2 := by unfold atB roomB; rw [h1]; rfl
    (refine Br.mk (fun h2 => ?_) (fun h2 => ?_) <;> ((conv => whnf); repeat ((first | (refine cnd (by first | assumption | omega | decide) ?_) | (refine cnd0 ?_) | (refine Chk.mk (by kernel_rfl) ?_) | (refine xdraw_rule tabOK ?_) | (refine xdraw_rule (tabLOK _) ?_)); (conv => whnf))))
    · (refine xcall (t71 w (max w.from_ (wB fl w y).1) (min w.to (wB fl w y).2)) rfl rfl rfl (by repeat (first | exact trivial | refine ⟨rfl, ?_⟩)) ?_; (conv => whnf); repeat ((first | (refine cnd (by first | assumption | omega | decide) ?_) | (refine cnd0 ?_) | (refine Chk.mk (by kernel_rfl) ?_) | (refine xdraw_rule tabOK ?_) | (refine xdraw_rule (tabLOK _) ?_)); (conv => whnf)))
      exact xend [0] (.tup [iv (atP w (max w.from_ (wB fl w y).1) (min w.to (wB fl w y).2)).1, bv true]) (_) (⟨by unfold atX; rw [e, h2]; rfl, rfl⟩) rfl rfl rfl (by repeat' (first | exact trivial | exact rfl | (refine And.intro ?_ ?_) | omega)) (by repeat' (first | exact trivial | exact rfl | (refine And.intro ?_ ?_) | omega))
    · exact xend [0] (.tup [iv 0, bv false]) (_) (⟨by unfold atX; rw [e, h2]; rfl, rfl⟩) rfl rfl rfl (by repeat' (first | exact trivial | exact rfl | (refine And.intro ?_ ?_) | omega)) (by repeat' (first | exact trivial | exact rfl | (refine And.intro ?_ ?_) | omega))
def startF (fl : List Flt) (w : Wn) : Int := bif (lastE fl).there then max (clearF fl w.clear w.y) (lastE fl).at_ else clearF fl w.clear w.y
-- Start
theorem t37 (fl : List Flt) (w : Wn) : Tri Try.prog 37 [pt 0, wnP w] [some (spC fl)] (fun x post => x = .v (iv (startF fl w)) ∧ post = [some (spC fl)]) := by
  (refine tri_x tabOK Try.func37 rfl rfl Try.ntmps37 (by simp) fun C => ?_; (conv => whnf); repeat ((first | (refine cnd (by first | assumption | omega | decide) ?_) | (refine cnd0 ?_) | (refine Chk.mk (by kernel_rfl) ?_) | (refine xdraw_rule tabOK ?_) | (refine xdraw_rule (tabLOK _) ?_)); (conv => whnf)))
  (refine xcall (t74 fl w.clear w.y) rfl rfl rfl (by repeat (first | exact trivial | refine ⟨rfl, ?_⟩)) ?_; (conv => whnf); repeat ((first | (refine cnd (by first | assumption | omega | decide) ?_) | (refine cnd0 ?_) | (refine Chk.mk (by kernel_rfl) ?_) | (refine xdraw_rule tabOK ?_) | (refine xdraw_rule (tabLOK _) ?_)); (conv => whnf)))
  (refine xcall (t75 fl) rfl rfl rfl (by repeat (first | exact trivial | refine ⟨rfl, ?_⟩)) ?_; (conv => whnf); repeat ((first | (refine cnd (by first | assumption | omega | decide) ?_) | (refine cnd0 ?_) | (refine Chk.mk (by kernel_rfl) ?_) | (refine xdraw_rule tabOK ?_) | (refine xdraw_rule (tabLOK _) ?_)); (conv => whnf)))
  (refine Br.mk (fun h => ?_) (fun h => ?_) <;> ((conv => whnf); repeat ((first | (refine cnd (by first | assumption | omega | decide) ?_) | (refine cnd0 ?_) | (refine Chk.mk (by kernel_rfl) ?_) | (refine xdraw_rule tabOK ?_) | (refine xdraw_rule (tabLOK _) ?_)); (conv => whnf))))
  · exact xend [0] _ _ ⟨rfl, rfl⟩ rfl rfl rfl (by repeat' (first | exact trivial | exact rfl | (refine And.intro ?_ ?_) | omega | exact (show max (clearF fl w.clear w.y) (lastE fl).at_ = startF fl w by unfold startF; rw [h]; rfl))) (by repeat' (first | exact trivial | exact rfl | (refine And.intro ?_ ?_) | omega | exact (show max (clearF fl w.clear w.y) (lastE fl).at_ = startF fl w by unfold startF; rw [h]; rfl)))
  · exact xend [0] _ _ ⟨rfl, rfl⟩ rfl rfl rfl (by repeat' (first | exact trivial | exact rfl | (refine And.intro ?_ ?_) | omega | exact (show clearF fl w.clear w.y = startF fl w by unfold startF; rw [h]; rfl))) (by repeat' (first | exact trivial | exact rfl | (refine And.intro ?_ ?_) | omega | exact (show clearF fl w.clear w.y = startF fl w by unfold startF; rw [h]; rfl)))
-- Find$1
theorem t59 (fl : List Flt) (ho : OKl fl) (w : Wn) (y v : Int) : Tri Try.prog 59 [iv y, pt 0, pt 1, pt 2] [some (.cells 25 [.ptr ⟨3, 0, 0, 0⟩]), some (.cells 35 [ci w.side, ci w.clear, ci w.from_, ci w.to, ci w.w, ci w.h, ci w.y]), some (.cells 3 [ci v]), some (spC fl)]
    (fun x post => x = .v (bv (atB fl w y)) ∧ post = [some (.cells 25 [.ptr ⟨3, 0, 0, 0⟩]), some (.cells 35 [ci w.side, ci w.clear, ci w.from_, ci w.to, ci w.w, ci w.h, ci w.y]), some (.cells 3 [ci (atX fl w y)]), some (spC fl)]) := by
  (refine tri_x tabOK Try.func59 rfl rfl Try.ntmps59 (by simp) fun C => ?_; (conv => whnf); repeat ((first | (refine cnd (by first | assumption | omega | decide) ?_) | (refine cnd0 ?_) | (refine Chk.mk (by kernel_rfl) ?_) | (refine xdraw_rule tabOK ?_) | (refine xdraw_rule (tabLOK _) ?_)); (conv => whnf)))
  (refine xcall (t35 fl ho w y) rfl rfl rfl (by repeat (first | exact trivial | refine ⟨rfl, ?_⟩)) ?_; (conv => whnf); repeat ((first | (refine cnd (by first | assumption | omega | decide) ?_) | (refine cnd0 ?_) | (refine Chk.mk (by kernel_rfl) ?_) | (refine xdraw_rule tabOK ?_) | (refine xdraw_rule (tabLOK _) ?_)); (conv => whnf)))
  exact xend [0, 1, 2, 3] _ _ ⟨rfl, rfl⟩ rfl rfl rfl (by repeat' (first | exact trivial | exact rfl | (refine And.intro ?_ ?_) | omega)) (by repeat' (first | exact trivial | exact rfl | (refine And.intro ?_ ?_) | omega))
end Go.Proofs.Ytcmedheeafiogaa

namespace Go.Proofs.Ytcmedheeafiogaa
open Go.Sy
set_option linter.unusedVariables false
set_option linter.unusedSimpArgs false
/-! First: from place to place. -/
def firstL (p : Int → Bool) : Int → List Int → Int
  | y, [] => y
  | y, t :: ts => bif p y then y else firstL p t ts
def tops (sh : List Shelf) (y : Int) : List Int := (sh.drop (aftAt sh y)).map (·.top)
def firstF (sh : List Shelf) (p : Int → Bool) (y : Int) : Int := firstL p y (tops sh y)
theorem aftAt_spec {sh : List Shelf} (hs : Sorted sh) (y : Int) : (∀ i (hi : i < sh.length), i < aftAt sh y → sh[i].top ≤ y) ∧ (∀ i (hi : i < sh.length), aftAt sh y ≤ i → y < sh[i].top) := by
  have hle := lb_le sh y
  unfold aftAt
  cases c : hit sh y with
  | true =>
    have hl := hit_lt c
    have e : sh[lb sh y].top = y := by unfold hit at c; simp [hl] at c; exact c
    simp only [cond_true]
    refine ⟨fun i hi h => ?_, fun i hi h => ?_⟩
    · rcases Nat.lt_or_eq_of_le (Nat.le_of_lt_succ h) with h | h
      · have := lb_lt sh y i hi h; omega
      · subst h; omega
    · have := hs (lb sh y) i hl hi (by omega); omega
  | false =>
    simp only [cond_false]
    refine ⟨fun i hi h => Int.le_of_lt (lb_lt sh y i hi h), fun i hi h => ?_⟩
    have h1 := lb_ge hs y i hi h
    have hl : lb sh y < sh.length := by omega
    have h2 := lb_ge hs y (lb sh y) hl (Nat.le_refl _)
    have h3 : sh[lb sh y].top ≠ y := by unfold hit at c; simp [hl] at c; exact c
    rcases Nat.lt_or_eq_of_le h with h | h
    · have := hs (lb sh y) i hl hi h; omega
    · subst h; omega
theorem aftAt_next {sh : List Shelf} (hs : Sorted sh) (y : Int) (h : aftAt sh y < sh.length) : aftAt sh (sh[aftAt sh y].top) = aftAt sh y + 1 := by
  obtain ⟨a1, a2⟩ := aftAt_spec hs (sh[aftAt sh y].top)
  have hle := aftAt_le sh (sh[aftAt sh y].top)
  rcases Nat.lt_trichotomy (aftAt sh (sh[aftAt sh y].top)) (aftAt sh y + 1) with c | c | c
  · have := a2 (aftAt sh y) h (by omega); omega
  · exact c
  · have h1 := a1 (aftAt sh y + 1) (by omega) c
    have := hs (aftAt sh y) (aftAt sh y + 1) h (by omega) (by omega); omega
theorem tops_cons {sh : List Shelf} (hs : Sorted sh) (y : Int) (h : aftB sh y = true) : tops sh y = aft sh y :: tops sh (aft sh y) := by
  have hl : aftAt sh y < sh.length := by
    have h1 : aftAt sh y ≠ sh.length := by unfold aftB at h; simpa using h
    have := aftAt_le sh y; omega
  have e : aft sh y = sh[aftAt sh y].top := by unfold aft; rw [h]; simp [hl]
  rw [e]
  unfold tops
  rw [aftAt_next hs y hl, List.drop_eq_getElem_cons hl]
  rfl
theorem tops_nil {sh : List Shelf} (y : Int) (h : aftB sh y = false) : tops sh y = [] := by
  have h1 : aftAt sh y = sh.length := by unfold aftB at h; simpa using h
  unfold tops; rw [h1]; simp
theorem firstF_stop {sh : List Shelf} {p : Int → Bool} {y : Int} (h : p y = true) : firstF sh p y = y := by
  unfold firstF
  cases tops sh y with
  | nil => rfl
  | cons t ts => rw [firstL, h]; rfl
theorem firstF_end {sh : List Shelf} {p : Int → Bool} {y : Int} (h : aftB sh y = false) : firstF sh p y = y := by
  unfold firstF; rw [tops_nil y h]; rfl
theorem firstF_next {sh : List Shelf} (hs : Sorted sh) {p : Int → Bool} {y : Int} (h : p y = false) (h2 : aftB sh y = true) : firstF sh p y = firstF sh p (aft sh y) := by
  unfold firstF; rw [tops_cons hs y h2, firstL, h]; rfl
theorem tops_len {sh : List Shelf} (y : Int) : (tops sh y).length ≤ sh.length := by unfold tops; simp

abbrev spO (fl : List Flt) (a b c d : Nat) : List (Option Chunk) :=
  [some (.cells 120 [.ptr ⟨a, 0, 0, 0⟩, .slice b 0 5 fl.length, ci (lastE fl).at_, .bool (.X (lastE fl).there), ci 0, .bool (.X false), ci (botE 1 fl).at_, .bool (.X (botE 1 fl).there), ci (botE 2 fl).at_, .bool (.X (botE 2 fl).there), ci (botE 3 fl).at_, .bool (.X (botE 3 fl).there)])]
abbrev spT (fl : List Flt) (c : Nat) : List (Option Chunk) := [some (.cells 158 [.slice c 0 3 (shOf fl).length]), some (.rows 90 encFlt fl), some (.rows 161 encShelf (shOf fl))]
abbrev wnC (w : Wn) : Option Chunk := some (.cells 35 [ci w.side, ci w.clear, ci w.from_, ci w.to, ci w.w, ci w.h, ci w.y])
abbrev ptC (T h : Nat) : Option Chunk := some (.cells T [.ptr ⟨h, 0, 0, 0⟩])
theorem t59o (fl : List Flt) (ho : OKl fl) (w : Wn) (y v : Int) : Tri Try.prog 59 [iv y, pt 0, pt 1, pt 2] [ptC 25 3, wnC w, some (.cells 3 [ci v]), some (spC fl)]
    (fun x post => x = .v (bv (atB fl w y)) ∧ post = [ptC 25 3, wnC w, some (.cells 3 [ci (atX fl w y)])] ++ spO fl 4 5 6 0 ++ spT fl 6) := by
  refine tri_post (t59 fl ho w y v) ?_
  rintro r post ⟨rfl, rfl⟩
  have := hent_open (l := [ptC 25 3, wnC w, some (.cells 3 [ci (atX fl w y)]), some (spC fl)]) 3 (c0 := (spO fl 1 2 3 0).head (by simp)) (rest := spT fl 3) rfl
  exact ⟨_, ⟨rfl, rfl⟩, this⟩
-- First, of Find
theorem t58a' (fl : List Flt) (ho : OKl fl) (w : Wn) (y v : Int) : Tri Try.prog 58 [pt 0, iv y, .one (.fn 59 [⟨1, 0, 0, 0⟩, ⟨2, 0, 0, 0⟩, ⟨3, 0, 0, 0⟩])] [some (spC fl), ptC 25 0, wnC w, some (.cells 3 [ci v])]
    (fun x post => x = .v (iv (firstF (shOf fl) (atB fl w) y)) ∧ post = spO fl 4 5 6 0 ++ [ptC 25 0, wnC w, some (.cells 3 [ci (atX fl w (firstF (shOf fl) (atB fl w) y))])] ++ spT fl 6) := by
  have hw := shOf_wf ho
  have hsn := shOf_len ho
  (refine tri_x tabOK Try.func58 rfl rfl Try.ntmps58 (by simp) fun C => ?_; (conv => whnf); repeat ((first | (refine cnd (by first | assumption | omega | decide) ?_) | (refine cnd0 ?_) | (refine Chk.mk (by kernel_rfl) ?_) | (refine xdraw_rule tabOK ?_) | (refine xdraw_rule (tabLOK _) ?_)); (conv => whnf)))
  refine xloop tabOK (fun x : Int × Int => firstF (shOf fl) (atB fl w) x.1 = firstF (shOf fl) (atB fl w) y) (fun x => [(0, .v (pt 0)), (1, .v (iv x.1)), (2, .v (.one (.fn 59 [⟨1, 0, 0, 0⟩, ⟨2, 0, 0, 0⟩, ⟨3, 0, 0, 0⟩])))]) (fun x => [some (spC fl), ptC 25 0, wnC w, some (.cells 3 [ci x.2])]) (fun x => (tops (shOf fl) x.1).length) ((y, v)) [0, 1, 2, 3] (rfl) rfl rfl rfl (by repeat' (first | exact trivial | exact rfl | (refine And.intro ?_ ?_) | omega)) (by repeat' (first | exact trivial | exact rfl | (refine And.intro ?_ ?_) | omega)) ?_
  rintro ⟨z, u⟩ hz
  replace hz : firstF (shOf fl) (atB fl w) z = firstF (shOf fl) (atB fl w) y := hz
  ((conv => whnf); repeat ((first | (refine cnd (by first | assumption | omega | decide) ?_) | (refine cnd0 ?_) | (refine Chk.mk (by kernel_rfl) ?_) | (refine xdraw_rule tabOK ?_) | (refine xdraw_rule (tabLOK _) ?_)); (conv => whnf)))
  (refine xcall (t59o fl ho w z u) rfl rfl rfl (by repeat (first | exact trivial | refine ⟨rfl, ?_⟩)) ?_; (conv => whnf); repeat ((first | (refine cnd (by first | assumption | omega | decide) ?_) | (refine cnd0 ?_) | (refine Chk.mk (by kernel_rfl) ?_) | (refine xdraw_rule tabOK ?_) | (refine xdraw_rule (tabLOK _) ?_)); (conv => whnf)))
  (refine Br.mk (fun h1 => ?_) (fun h1 => ?_) <;> ((conv => whnf); repeat ((first | (refine cnd (by first | assumption | omega | decide) ?_) | (refine cnd0 ?_) | (refine Chk.mk (by kernel_rfl) ?_) | (refine xdraw_rule tabOK ?_) | (refine xdraw_rule (tabLOK _) ?_)); (conv => whnf))))
  · have h1' : atB fl w z = false := by simpa using h1
    (refine xcall (t95 (shOf fl) hw.sorted (by omega) z) rfl rfl rfl (by repeat (first | exact trivial | refine ⟨rfl, ?_⟩)) ?_; (conv => whnf); repeat ((first | (refine cnd (by first | assumption | omega | decide) ?_) | (refine cnd0 ?_) | (refine Chk.mk (by kernel_rfl) ?_) | (refine xdraw_rule tabOK ?_) | (refine xdraw_rule (tabLOK _) ?_)); (conv => whnf)))
    (refine Br.mk (fun h2 => ?_) (fun h2 => ?_) <;> ((conv => whnf); repeat ((first | (refine cnd (by first | assumption | omega | decide) ?_) | (refine cnd0 ?_) | (refine Chk.mk (by kernel_rfl) ?_) | (refine xdraw_rule tabOK ?_) | (refine xdraw_rule (tabLOK _) ?_)); (conv => whnf))))
    · have h2' : aftB (shOf fl) z = false := by simpa using h2
      have e : firstF (shOf fl) (atB fl w) y = z := by rw [← hz]; exact firstF_end h2'
      exact xend [0, 1, 2, 3, 6, 7, 8] (.v (iv z)) (spO fl 4 5 6 0 ++ [ptC 25 0, wnC w, some (.cells 3 [ci (atX fl w z)])] ++ spT fl 6) (⟨by rw [e], by rw [e]⟩) rfl rfl rfl (by repeat' (first | exact trivial | exact rfl | (refine And.intro ?_ ?_) | omega)) (by repeat' (first | exact trivial | exact rfl | (refine And.intro ?_ ?_) | omega))
    · have h2' : aftB (shOf fl) z = true := by simpa using h2
      have htc := tops_cons hw.sorted z h2'
      have e : firstF (shOf fl) (atB fl w) (aft (shOf fl) z) = firstF (shOf fl) (atB fl w) y := by rw [← hz]; exact (firstF_next hw.sorted h1' h2').symm
      refine rndH (aft (shOf fl) z, atX fl w z) [0, 1, 2, 3, 6, 7, 8] (spO fl 4 5 6 0 ++ [ptC 25 0, wnC w, some (.cells 3 [ci (atX fl w z)])] ++ spT fl 6) _ [0, 1, 2, 3] e (by show (tops _ _).length < (tops _ _).length; rw [htc]; simp) rfl rfl rfl (by repeat' (first | exact trivial | exact rfl | (refine And.intro ?_ ?_) | omega)) (by repeat' (first | exact trivial | exact rfl | (refine And.intro ?_ ?_) | omega))
        (hent_close (m := spM fl) 0 [4, 5, 6] rfl rfl rfl (by repeat' (first | exact trivial | exact rfl | (refine And.intro ?_ ?_) | omega))) rfl rfl rfl (by repeat' (first | exact trivial | exact rfl | (refine And.intro ?_ ?_) | omega)) (by repeat' (first | exact trivial | exact rfl | (refine And.intro ?_ ?_) | omega))
  · have h1' : atB fl w z = true := by simpa using h1
    have e : firstF (shOf fl) (atB fl w) y = z := by rw [← hz]; exact firstF_stop h1'
    exact xend [0, 1, 2, 3, 6, 7, 8] (.v (iv z)) (spO fl 4 5 6 0 ++ [ptC 25 0, wnC w, some (.cells 3 [ci (atX fl w z)])] ++ spT fl 6) (⟨by rw [e], by rw [e]⟩) rfl rfl rfl (by repeat' (first | exact trivial | exact rfl | (refine And.intro ?_ ?_) | omega)) (by repeat' (first | exact trivial | exact rfl | (refine And.intro ?_ ?_) | omega))
theorem t58a (fl : List Flt) (ho : OKl fl) (w : Wn) (y v : Int) : Tri Try.prog 58 [pt 0, iv y, .one (.fn 59 [⟨1, 0, 0, 0⟩, ⟨2, 0, 0, 0⟩, ⟨3, 0, 0, 0⟩])] [some (spC fl), ptC 25 0, wnC w, some (.cells 3 [ci v])]
    (fun x post => x = .v (iv (firstF (shOf fl) (atB fl w) y)) ∧ post = [some (spC fl), ptC 25 0, wnC w, some (.cells 3 [ci (atX fl w (firstF (shOf fl) (atB fl w) y))])]) := by
  refine tri_conv (t58a' fl ho w y v) (HEnt.refl _) ?_
  rintro r post ⟨rfl, rfl⟩
  exact ⟨_, [0, 1, 2, 3], _, _, hent_close (m := spM fl) 0 [4, 5, 6] rfl rfl rfl (by repeat' (first | exact trivial | exact rfl | (refine And.intro ?_ ?_) | omega)), rfl, rfl, rfl, by repeat' (first | exact trivial | exact rfl | (refine And.intro ?_ ?_) | omega), fun _ => rfl, rfl, rfl⟩
/-- The place that a float gets. -/
def findY (fl : List Flt) (w : Wn) : Int := firstF (shOf fl) (atB fl w) (startF fl w)
def findR (fl : List Flt) (w : Wn) : Rc := ⟨atX fl w (findY fl w), findY fl w, IntKind.i64.wrap (atX fl w (findY fl w) + w.w), IntKind.i64.wrap (findY fl w + w.h)⟩
abbrev rcP (r : Rc) : PV := rc r.l r.t r.r r.b
-- Find
theorem t20 (fl : List Flt) (ho : OKl fl) (w : Wn) : Tri Try.prog 20 [pt 0, wnP w] [some (spC fl)] (fun x post => x = .v (rcP (findR fl w)) ∧ post = [some (spC fl)]) := by
  (refine tri_x tabOK Try.func20 rfl rfl Try.ntmps20 (by simp) fun C => ?_; (conv => whnf); repeat ((first | (refine cnd (by first | assumption | omega | decide) ?_) | (refine cnd0 ?_) | (refine Chk.mk (by kernel_rfl) ?_) | (refine xdraw_rule tabOK ?_) | (refine xdraw_rule (tabLOK _) ?_)); (conv => whnf)))
  (refine dcallR (t37 fl w) rfl fun hT_ => ?_; (conv => whnf); refine cnd hT_ (cnd rfl (cnd (by repeat (first | exact trivial | refine ⟨rfl, ?_⟩)) (cnd rfl (cnd0 ?_)))); clear hT_; (conv => whnf); repeat ((first | (refine cnd (by first | assumption | omega | decide) ?_) | (refine cnd0 ?_) | (refine Chk.mk (by kernel_rfl) ?_) | (refine xdraw_rule tabOK ?_) | (refine xdraw_rule (tabLOK _) ?_)); (conv => whnf)))
  (refine dcall (t58a fl ho w (startF fl w) 0) 0 rfl fun hT_ => ?_; (conv => whnf); refine cnd hT_ (cnd rfl (cnd (by repeat (first | exact trivial | refine ⟨rfl, ?_⟩)) (cnd rfl (cnd0 ?_)))); clear hT_; (conv => whnf); repeat ((first | (refine cnd (by first | assumption | omega | decide) ?_) | (refine cnd0 ?_) | (refine Chk.mk (by kernel_rfl) ?_) | (refine xdraw_rule tabOK ?_) | (refine xdraw_rule (tabLOK _) ?_)); (conv => whnf)))
  (refine xcall (t60 (atX fl w (findY fl w)) (IntKind.i64.wrap (atX fl w (findY fl w) + w.w)) (findY fl w) (IntKind.i64.wrap (findY fl w + w.h))) rfl rfl rfl (by repeat (first | exact trivial | refine ⟨rfl, ?_⟩)) ?_; (conv => whnf); repeat ((first | (refine cnd (by first | assumption | omega | decide) ?_) | (refine cnd0 ?_) | (refine Chk.mk (by kernel_rfl) ?_) | (refine xdraw_rule tabOK ?_) | (refine xdraw_rule (tabLOK _) ?_)); (conv => whnf)))
  exact xend [0] _ _ ⟨rfl, rfl⟩ rfl rfl rfl (by repeat' (first | exact trivial | exact rfl | (refine And.intro ?_ ?_) | omega)) (by repeat' (first | exact trivial | exact rfl | (refine And.intro ?_ ?_) | omega))
-- place.Put
theorem t44 (fl : List Flt) (ho : OKl fl) (w : Wn) (hf : OKf ⟨w.side, findR fl w⟩) : Tri Try.prog 44 [pt 0, wnP w] [some (spC fl)] (fun x post => x = .v (rcP (findR fl w)) ∧ post = [some (spC (fl ++ [⟨w.side, findR fl w⟩]))]) := by
  (refine tri_x tabOK Try.func44 rfl rfl Try.ntmps44 (by simp) fun C => ?_; (conv => whnf); repeat ((first | (refine cnd (by first | assumption | omega | decide) ?_) | (refine cnd0 ?_) | (refine Chk.mk (by kernel_rfl) ?_) | (refine xdraw_rule tabOK ?_) | (refine xdraw_rule (tabLOK _) ?_)); (conv => whnf)))
  (refine xcall (t20 fl ho w) rfl rfl rfl (by repeat (first | exact trivial | refine ⟨rfl, ?_⟩)) ?_; (conv => whnf); repeat ((first | (refine cnd (by first | assumption | omega | decide) ?_) | (refine cnd0 ?_) | (refine Chk.mk (by kernel_rfl) ?_) | (refine xdraw_rule tabOK ?_) | (refine xdraw_rule (tabLOK _) ?_)); (conv => whnf)))
  (refine xcall (t82 fl ho w.side (findR fl w).l (findR fl w).t (findR fl w).r (findR fl w).b hf) rfl rfl rfl (by repeat (first | exact trivial | refine ⟨rfl, ?_⟩)) ?_; (conv => whnf); repeat ((first | (refine cnd (by first | assumption | omega | decide) ?_) | (refine cnd0 ?_) | (refine Chk.mk (by kernel_rfl) ?_) | (refine xdraw_rule tabOK ?_) | (refine xdraw_rule (tabLOK _) ?_)); (conv => whnf)))
  exact xend [0] _ _ ⟨rfl, rfl⟩ rfl rfl rfl (by repeat' (first | exact trivial | exact rfl | (refine And.intro ?_ ?_) | omega)) (by repeat' (first | exact trivial | exact rfl | (refine And.intro ?_ ?_) | omega))
end Go.Proofs.Ytcmedheeafiogaa
