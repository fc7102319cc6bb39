/-
  What the statements of layer 11 call, and what is free of a row, plainly.
-/
import Derived.Test.YtcmedheeafiogaaKf
namespace Go.Proofs.Ytcmedheeafiogaa
open Go.Sy
set_option linter.unusedVariables false
set_option linter.unusedSimpArgs false
/-! What the statements of layer 11 call. -/
theorem t39 (l t r b : Int) : Tri Try.prog 39 [rc l t r b] [] (fun x post => x = .v (rc l t r b) ∧ post = []) := by
  (refine tri_x tabOK Try.func39 rfl rfl Try.ntmps39 (by simp) fun C => ?_; (conv => whnf); repeat ((first | (refine cnd (by first | assumption | omega | decide) ?_) | (refine cnd0 ?_) | (refine Chk.mk (by kernel_rfl) ?_) | (refine xdraw_rule tabOK ?_) | (refine xdraw_rule (tabLOK _) ?_)); (conv => whnf)))
  exact xend [] _ _ ⟨rfl, rfl⟩ rfl rfl rfl (by repeat' (first | exact trivial | exact rfl | (refine And.intro ?_ ?_) | omega)) (by repeat' (first | exact trivial | exact rfl | (refine And.intro ?_ ?_) | omega))
theorem t21 (w : Wn) : Tri Try.prog 21 [wnP w] [] (fun x post => x = .v (wnP w) ∧ post = []) := by
  (refine tri_x tabOK Try.func21 rfl rfl Try.ntmps21 (by simp) fun C => ?_; (conv => whnf); repeat ((first | (refine cnd (by first | assumption | omega | decide) ?_) | (refine cnd0 ?_) | (refine Chk.mk (by kernel_rfl) ?_) | (refine xdraw_rule tabOK ?_) | (refine xdraw_rule (tabLOK _) ?_)); (conv => whnf)))
  exact xend [] _ _ ⟨rfl, rfl⟩ rfl rfl rfl (by repeat' (first | exact trivial | exact rfl | (refine And.intro ?_ ?_) | omega)) (by repeat' (first | exact trivial | exact rfl | (refine And.intro ?_ ?_) | omega))
def in48 (n : Int) : Bool := !(decide (n > 281474976710656) || decide (n < -281474976710656))
theorem in48_t {n : Int} (h : decide (n > 281474976710656) = false) (k : decide (n < -281474976710656) = false) : in48 n = true := by unfold in48; rw [h, k]; rfl
theorem in48_1 {n : Int} (h : decide (n > 281474976710656) = true) : in48 n = false := by unfold in48; rw [h]; rfl
theorem in48_2 {n : Int} (k : decide (n < -281474976710656) = true) : in48 n = false := by unfold in48; rw [k]; simp
def rightB (w : Wn) : Bool := in48 w.from_ && (in48 w.to && (in48 w.w && (in48 w.h && (in48 w.y && ((decide (w.side = 1) || decide (w.side = 2)) && (decide (w.clear ≥ 0) && (decide (w.clear ≤ 3) && decide (w.to ≥ w.from_))))))))
def inK (w : Wn) (x : Nat) : Prop := (1 ≤ x → in48 w.from_ = true) ∧ (2 ≤ x → in48 w.to = true) ∧ (3 ≤ x → in48 w.w = true) ∧ (4 ≤ x → in48 w.h = true) ∧ (5 ≤ x → in48 w.y = true)
theorem t19 (w : Wn) : Tri Try.prog 19 [wnP w] [] (fun x post => x = .v (bv (rightB w)) ∧ post = []) := by
  (refine tri_x tabOK Try.func19 rfl rfl Try.ntmps19 (by simp) fun C => ?_; (conv => whnf); repeat ((first | (refine cnd (by first | assumption | omega | decide) ?_) | (refine cnd0 ?_) | (refine Chk.mk (by kernel_rfl) ?_) | (refine xdraw_rule tabOK ?_) | (refine xdraw_rule (tabLOK _) ?_)); (conv => whnf)))
  refine xloop tabOK (fun x : Nat => x ≤ 5 ∧ inK w x) (fun x => [(1, .v (pt 0)), (15, .v (.one (.slice 1 0 1 5))), (16, .v (iv 5)), (17, .v (iv x))]) (fun x => [some (.cells 24 [ci w.side, ci w.clear, ci w.from_, ci w.to, ci w.w, ci w.h, ci w.y]), some (.cells 3 [ci w.from_, ci w.to, ci w.w, ci w.h, ci w.y])]) (fun x => 5 - x) (0) [0, 12] (⟨by omega, by unfold inK; omega⟩) rfl rfl rfl (by repeat' (first | exact trivial | exact rfl | (refine And.intro ?_ ?_) | omega)) (by repeat' (first | exact trivial | exact rfl | (refine And.intro ?_ ?_) | omega)) ?_
  rintro x ⟨hx, h1, h2, h3, h4, h5⟩
  match x, hx with
  | 0, _ =>
    ((conv => whnf); repeat ((first | (refine cnd (by first | assumption | omega | decide) ?_) | (refine cnd0 ?_) | (refine Chk.mk (by kernel_rfl) ?_) | (refine xdraw_rule tabOK ?_) | (refine xdraw_rule (tabLOK _) ?_)); (conv => whnf)))
    (refine Br.mk (fun c => ?_) (fun c => ?_) <;> ((conv => whnf); repeat ((first | (refine cnd (by first | assumption | omega | decide) ?_) | (refine cnd0 ?_) | (refine Chk.mk (by kernel_rfl) ?_) | (refine xdraw_rule tabOK ?_) | (refine xdraw_rule (tabLOK _) ?_)); (conv => whnf))))
    · (repeat ((first | (refine cnd (by first | assumption | omega | decide) ?_) | (refine cnd0 ?_) | (refine Chk.mk (by kernel_rfl) ?_) | (refine xdraw_rule tabOK ?_) | (refine xdraw_rule (tabLOK _) ?_)); (conv => whnf)))
      (refine Br.mk (fun g1 => ?_) (fun g1 => ?_) <;> ((conv => whnf); repeat ((first | (refine cnd (by first | assumption | omega | decide) ?_) | (refine cnd0 ?_) | (refine Chk.mk (by kernel_rfl) ?_) | (refine xdraw_rule tabOK ?_) | (refine xdraw_rule (tabLOK _) ?_)); (conv => whnf))))
      · exact xend [] (.v (bv false)) (_) (⟨by simp [rightB, in48_1 g1], rfl⟩) rfl rfl rfl (by repeat' (first | exact trivial | exact rfl | (refine And.intro ?_ ?_) | omega)) (by repeat' (first | exact trivial | exact rfl | (refine And.intro ?_ ?_) | omega))
      · (refine Br.mk (fun g2 => ?_) (fun g2 => ?_) <;> ((conv => whnf); repeat ((first | (refine cnd (by first | assumption | omega | decide) ?_) | (refine cnd0 ?_) | (refine Chk.mk (by kernel_rfl) ?_) | (refine xdraw_rule tabOK ?_) | (refine xdraw_rule (tabLOK _) ?_)); (conv => whnf))))
        · exact xend [] (.v (bv false)) (_) (⟨by simp [rightB, in48_2 g2], rfl⟩) rfl rfl rfl (by repeat' (first | exact trivial | exact rfl | (refine And.intro ?_ ?_) | omega)) (by repeat' (first | exact trivial | exact rfl | (refine And.intro ?_ ?_) | omega))
        · have g3 := in48_t g1 g2
          exact rnd (1) [0, 1] (⟨by omega, by unfold inK; simp_all⟩) (by show 5 - 1 < 5 - 0; omega) rfl rfl rfl (by repeat' (first | exact trivial | exact rfl | (refine And.intro ?_ ?_) | omega)) (by repeat' (first | exact trivial | exact rfl | (refine And.intro ?_ ?_) | omega))
    · exact absurd c (by decide)
  | 1, _ =>
    ((conv => whnf); repeat ((first | (refine cnd (by first | assumption | omega | decide) ?_) | (refine cnd0 ?_) | (refine Chk.mk (by kernel_rfl) ?_) | (refine xdraw_rule tabOK ?_) | (refine xdraw_rule (tabLOK _) ?_)); (conv => whnf)))
    (refine Br.mk (fun c => ?_) (fun c => ?_) <;> ((conv => whnf); repeat ((first | (refine cnd (by first | assumption | omega | decide) ?_) | (refine cnd0 ?_) | (refine Chk.mk (by kernel_rfl) ?_) | (refine xdraw_rule tabOK ?_) | (refine xdraw_rule (tabLOK _) ?_)); (conv => whnf))))
    · (repeat ((first | (refine cnd (by first | assumption | omega | decide) ?_) | (refine cnd0 ?_) | (refine Chk.mk (by kernel_rfl) ?_) | (refine xdraw_rule tabOK ?_) | (refine xdraw_rule (tabLOK _) ?_)); (conv => whnf)))
      (refine Br.mk (fun g1 => ?_) (fun g1 => ?_) <;> ((conv => whnf); repeat ((first | (refine cnd (by first | assumption | omega | decide) ?_) | (refine cnd0 ?_) | (refine Chk.mk (by kernel_rfl) ?_) | (refine xdraw_rule tabOK ?_) | (refine xdraw_rule (tabLOK _) ?_)); (conv => whnf))))
      · exact xend [] (.v (bv false)) (_) (⟨by simp [rightB, in48_1 g1], rfl⟩) rfl rfl rfl (by repeat' (first | exact trivial | exact rfl | (refine And.intro ?_ ?_) | omega)) (by repeat' (first | exact trivial | exact rfl | (refine And.intro ?_ ?_) | omega))
      · (refine Br.mk (fun g2 => ?_) (fun g2 => ?_) <;> ((conv => whnf); repeat ((first | (refine cnd (by first | assumption | omega | decide) ?_) | (refine cnd0 ?_) | (refine Chk.mk (by kernel_rfl) ?_) | (refine xdraw_rule tabOK ?_) | (refine xdraw_rule (tabLOK _) ?_)); (conv => whnf))))
        · exact xend [] (.v (bv false)) (_) (⟨by simp [rightB, in48_2 g2], rfl⟩) rfl rfl rfl (by repeat' (first | exact trivial | exact rfl | (refine And.intro ?_ ?_) | omega)) (by repeat' (first | exact trivial | exact rfl | (refine And.intro ?_ ?_) | omega))
        · have g3 := in48_t g1 g2
          exact rnd (2) [0, 1] (⟨by omega, by unfold inK; simp_all⟩) (by show 5 - 2 < 5 - 1; omega) rfl rfl rfl (by repeat' (first | exact trivial | exact rfl | (refine And.intro ?_ ?_) | omega)) (by repeat' (first | exact trivial | exact rfl | (refine And.intro ?_ ?_) | omega))
    · exact absurd c (by decide)
  | 2, _ =>
    ((conv => whnf); repeat ((first | (refine cnd (by first | assumption | omega | decide) ?_) | (refine cnd0 ?_) | (refine Chk.mk (by kernel_rfl) ?_) | (refine xdraw_rule tabOK ?_) | (refine xdraw_rule (tabLOK _) ?_)); (conv => whnf)))
    (refine Br.mk (fun c => ?_) (fun c => ?_) <;> ((conv => whnf); repeat ((first | (refine cnd (by first | assumption | omega | decide) ?_) | (refine cnd0 ?_) | (refine Chk.mk (by kernel_rfl) ?_) | (refine xdraw_rule tabOK ?_) | (refine xdraw_rule (tabLOK _) ?_)); (conv => whnf))))
    · (repeat ((first | (refine cnd (by first | assumption | omega | decide) ?_) | (refine cnd0 ?_) | (refine Chk.mk (by kernel_rfl) ?_) | (refine xdraw_rule tabOK ?_) | (refine xdraw_rule (tabLOK _) ?_)); (conv => whnf)))
      (refine Br.mk (fun g1 => ?_) (fun g1 => ?_) <;> ((conv => whnf); repeat ((first | (refine cnd (by first | assumption | omega | decide) ?_) | (refine cnd0 ?_) | (refine Chk.mk (by kernel_rfl) ?_) | (refine xdraw_rule tabOK ?_) | (refine xdraw_rule (tabLOK _) ?_)); (conv => whnf))))
      · exact xend [] (.v (bv false)) (_) (⟨by simp [rightB, in48_1 g1], rfl⟩) rfl rfl rfl (by repeat' (first | exact trivial | exact rfl | (refine And.intro ?_ ?_) | omega)) (by repeat' (first | exact trivial | exact rfl | (refine And.intro ?_ ?_) | omega))
      · (refine Br.mk (fun g2 => ?_) (fun g2 => ?_) <;> ((conv => whnf); repeat ((first | (refine cnd (by first | assumption | omega | decide) ?_) | (refine cnd0 ?_) | (refine Chk.mk (by kernel_rfl) ?_) | (refine xdraw_rule tabOK ?_) | (refine xdraw_rule (tabLOK _) ?_)); (conv => whnf))))
        · exact xend [] (.v (bv false)) (_) (⟨by simp [rightB, in48_2 g2], rfl⟩) rfl rfl rfl (by repeat' (first | exact trivial | exact rfl | (refine And.intro ?_ ?_) | omega)) (by repeat' (first | exact trivial | exact rfl | (refine And.intro ?_ ?_) | omega))
        · have g3 := in48_t g1 g2
          exact rnd (3) [0, 1] (⟨by omega, by unfold inK; simp_all⟩) (by show 5 - 3 < 5 - 2; omega) rfl rfl rfl (by repeat' (first | exact trivial | exact rfl | (refine And.intro ?_ ?_) | omega)) (by repeat' (first | exact trivial | exact rfl | (refine And.intro ?_ ?_) | omega))
    · exact absurd c (by decide)
  | 3, _ =>
    ((conv => whnf); repeat ((first | (refine cnd (by first | assumption | omega | decide) ?_) | (refine cnd0 ?_) | (refine Chk.mk (by kernel_rfl) ?_) | (refine xdraw_rule tabOK ?_) | (refine xdraw_rule (tabLOK _) ?_)); (conv => whnf)))
    (refine Br.mk (fun c => ?_) (fun c => ?_) <;> ((conv => whnf); repeat ((first | (refine cnd (by first | assumption | omega | decide) ?_) | (refine cnd0 ?_) | (refine Chk.mk (by kernel_rfl) ?_) | (refine xdraw_rule tabOK ?_) | (refine xdraw_rule (tabLOK _) ?_)); (conv => whnf))))
    · (repeat ((first | (refine cnd (by first | assumption | omega | decide) ?_) | (refine cnd0 ?_) | (refine Chk.mk (by kernel_rfl) ?_) | (refine xdraw_rule tabOK ?_) | (refine xdraw_rule (tabLOK _) ?_)); (conv => whnf)))
      (refine Br.mk (fun g1 => ?_) (fun g1 => ?_) <;> ((conv => whnf); repeat ((first | (refine cnd (by first | assumption | omega | decide) ?_) | (refine cnd0 ?_) | (refine Chk.mk (by kernel_rfl) ?_) | (refine xdraw_rule tabOK ?_) | (refine xdraw_rule (tabLOK _) ?_)); (conv => whnf))))
      · exact xend [] (.v (bv false)) (_) (⟨by simp [rightB, in48_1 g1], rfl⟩) rfl rfl rfl (by repeat' (first | exact trivial | exact rfl | (refine And.intro ?_ ?_) | omega)) (by repeat' (first | exact trivial | exact rfl | (refine And.intro ?_ ?_) | omega))
      · (refine Br.mk (fun g2 => ?_) (fun g2 => ?_) <;> ((conv => whnf); repeat ((first | (refine cnd (by first | assumption | omega | decide) ?_) | (refine cnd0 ?_) | (refine Chk.mk (by kernel_rfl) ?_) | (refine xdraw_rule tabOK ?_) | (refine xdraw_rule (tabLOK _) ?_)); (conv => whnf))))
        · exact xend [] (.v (bv false)) (_) (⟨by simp [rightB, in48_2 g2], rfl⟩) rfl rfl rfl (by repeat' (first | exact trivial | exact rfl | (refine And.intro ?_ ?_) | omega)) (by repeat' (first | exact trivial | exact rfl | (refine And.intro ?_ ?_) | omega))
        · have g3 := in48_t g1 g2
          exact rnd (4) [0, 1] (⟨by omega, by unfold inK; simp_all⟩) (by show 5 - 4 < 5 - 3; omega) rfl rfl rfl (by repeat' (first | exact trivial | exact rfl | (refine And.intro ?_ ?_) | omega)) (by repeat' (first | exact trivial | exact rfl | (refine And.intro ?_ ?_) | omega))
    · exact absurd c (by decide)
  | 4, _ =>
    ((conv => whnf); repeat ((first | (refine cnd (by first | assumption | omega | decide) ?_) | (refine cnd0 ?_) | (refine Chk.mk (by kernel_rfl) ?_) | (refine xdraw_rule tabOK ?_) | (refine xdraw_rule (tabLOK _) ?_)); (conv => whnf)))
    (refine Br.mk (fun c => ?_) (fun c => ?_) <;> ((conv => whnf); repeat ((first | (refine cnd (by first | assumption | omega | decide) ?_) | (refine cnd0 ?_) | (refine Chk.mk (by kernel_rfl) ?_) | (refine xdraw_rule tabOK ?_) | (refine xdraw_rule (tabLOK _) ?_)); (conv => whnf))))
    · (repeat ((first | (refine cnd (by first | assumption | omega | decide) ?_) | (refine cnd0 ?_) | (refine Chk.mk (by kernel_rfl) ?_) | (refine xdraw_rule tabOK ?_) | (refine xdraw_rule (tabLOK _) ?_)); (conv => whnf)))
      (refine Br.mk (fun g1 => ?_) (fun g1 => ?_) <;> ((conv => whnf); repeat ((first | (refine cnd (by first | assumption | omega | decide) ?_) | (refine cnd0 ?_) | (refine Chk.mk (by kernel_rfl) ?_) | (refine xdraw_rule tabOK ?_) | (refine xdraw_rule (tabLOK _) ?_)); (conv => whnf))))
      · exact xend [] (.v (bv false)) (_) (⟨by simp [rightB, in48_1 g1], rfl⟩) rfl rfl rfl (by repeat' (first | exact trivial | exact rfl | (refine And.intro ?_ ?_) | omega)) (by repeat' (first | exact trivial | exact rfl | (refine And.intro ?_ ?_) | omega))
      · (refine Br.mk (fun g2 => ?_) (fun g2 => ?_) <;> ((conv => whnf); repeat ((first | (refine cnd (by first | assumption | omega | decide) ?_) | (refine cnd0 ?_) | (refine Chk.mk (by kernel_rfl) ?_) | (refine xdraw_rule tabOK ?_) | (refine xdraw_rule (tabLOK _) ?_)); (conv => whnf))))
        · exact xend [] (.v (bv false)) (_) (⟨by simp [rightB, in48_2 g2], rfl⟩) rfl rfl rfl (by repeat' (first | exact trivial | exact rfl | (refine And.intro ?_ ?_) | omega)) (by repeat' (first | exact trivial | exact rfl | (refine And.intro ?_ ?_) | omega))
        · have g3 := in48_t g1 g2
          exact rnd (5) [0, 1] (⟨by omega, by unfold inK; simp_all⟩) (by show 5 - 5 < 5 - 4; omega) rfl rfl rfl (by repeat' (first | exact trivial | exact rfl | (refine And.intro ?_ ?_) | omega)) (by repeat' (first | exact trivial | exact rfl | (refine And.intro ?_ ?_) | omega))
    · exact absurd c (by decide)
  | 5, _ =>
    have e1 := h1 (by omega)
    have e2 := h2 (by omega)
    have e3 := h3 (by omega)
    have e4 := h4 (by omega)
    have e5 := h5 (by omega)
    have e : rightB w = ((decide (w.side = 1) || decide (w.side = 2)) && (decide (w.clear ≥ 0) && (decide (w.clear ≤ 3) && decide (w.to ≥ w.from_)))) := by unfold rightB; rw [e1, e2, e3, e4, e5]; rfl
    ((conv => whnf); repeat ((first | (refine cnd (by first | assumption | omega | decide) ?_) | (refine cnd0 ?_) | (refine Chk.mk (by kernel_rfl) ?_) | (refine xdraw_rule tabOK ?_) | (refine xdraw_rule (tabLOK _) ?_)); (conv => whnf)))
    (refine Br.mk (fun c => ?_) (fun c => ?_) <;> ((conv => whnf); repeat ((first | (refine cnd (by first | assumption | omega | decide) ?_) | (refine cnd0 ?_) | (refine Chk.mk (by kernel_rfl) ?_) | (refine xdraw_rule tabOK ?_) | (refine xdraw_rule (tabLOK _) ?_)); (conv => whnf))))
    · exact absurd c (by decide)
    · (refine Br.mk (fun s1 => ?_) (fun s1 => ?_) <;> ((conv => whnf); repeat ((first | (refine cnd (by first | assumption | omega | decide) ?_) | (refine cnd0 ?_) | (refine Chk.mk (by kernel_rfl) ?_) | (refine xdraw_rule tabOK ?_) | (refine xdraw_rule (tabLOK _) ?_)); (conv => whnf))))
      · (refine Br.mk (fun c1 => ?_) (fun c1 => ?_) <;> ((conv => whnf); repeat ((first | (refine cnd (by first | assumption | omega | decide) ?_) | (refine cnd0 ?_) | (refine Chk.mk (by kernel_rfl) ?_) | (refine xdraw_rule tabOK ?_) | (refine xdraw_rule (tabLOK _) ?_)); (conv => whnf))))
        · (refine Br.mk (fun c2 => ?_) (fun c2 => ?_) <;> ((conv => whnf); repeat ((first | (refine cnd (by first | assumption | omega | decide) ?_) | (refine cnd0 ?_) | (refine Chk.mk (by kernel_rfl) ?_) | (refine xdraw_rule tabOK ?_) | (refine xdraw_rule (tabLOK _) ?_)); (conv => whnf))))
          · exact xend [] (.v (bv (decide (w.to ≥ w.from_)))) (_) (⟨by rw [e, s1, c1, c2]; rfl, rfl⟩) rfl rfl rfl (by repeat' (first | exact trivial | exact rfl | (refine And.intro ?_ ?_) | omega)) (by repeat' (first | exact trivial | exact rfl | (refine And.intro ?_ ?_) | omega))
          · exact xend [] (.v (bv false)) (_) (⟨by rw [e, s1, c1, c2]; rfl, rfl⟩) rfl rfl rfl (by repeat' (first | exact trivial | exact rfl | (refine And.intro ?_ ?_) | omega)) (by repeat' (first | exact trivial | exact rfl | (refine And.intro ?_ ?_) | omega))
        · exact xend [] (.v (bv false)) (_) (⟨by rw [e, s1, c1]; rfl, rfl⟩) rfl rfl rfl (by repeat' (first | exact trivial | exact rfl | (refine And.intro ?_ ?_) | omega)) (by repeat' (first | exact trivial | exact rfl | (refine And.intro ?_ ?_) | omega))
      · (refine Br.mk (fun s2 => ?_) (fun s2 => ?_) <;> ((conv => whnf); repeat ((first | (refine cnd (by first | assumption | omega | decide) ?_) | (refine cnd0 ?_) | (refine Chk.mk (by kernel_rfl) ?_) | (refine xdraw_rule tabOK ?_) | (refine xdraw_rule (tabLOK _) ?_)); (conv => whnf))))
        · (refine Br.mk (fun c1 => ?_) (fun c1 => ?_) <;> ((conv => whnf); repeat ((first | (refine cnd (by first | assumption | omega | decide) ?_) | (refine cnd0 ?_) | (refine Chk.mk (by kernel_rfl) ?_) | (refine xdraw_rule tabOK ?_) | (refine xdraw_rule (tabLOK _) ?_)); (conv => whnf))))
          · (refine Br.mk (fun c2 => ?_) (fun c2 => ?_) <;> ((conv => whnf); repeat ((first | (refine cnd (by first | assumption | omega | decide) ?_) | (refine cnd0 ?_) | (refine Chk.mk (by kernel_rfl) ?_) | (refine xdraw_rule tabOK ?_) | (refine xdraw_rule (tabLOK _) ?_)); (conv => whnf))))
            · exact xend [] (.v (bv (decide (w.to ≥ w.from_)))) (_) (⟨by rw [e, s1, s2, c1, c2]; rfl, rfl⟩) rfl rfl rfl (by repeat' (first | exact trivial | exact rfl | (refine And.intro ?_ ?_) | omega)) (by repeat' (first | exact trivial | exact rfl | (refine And.intro ?_ ?_) | omega))
            · exact xend [] (.v (bv false)) (_) (⟨by rw [e, s1, s2, c1, c2]; rfl, rfl⟩) rfl rfl rfl (by repeat' (first | exact trivial | exact rfl | (refine And.intro ?_ ?_) | omega)) (by repeat' (first | exact trivial | exact rfl | (refine And.intro ?_ ?_) | omega))
          · exact xend [] (.v (bv false)) (_) (⟨by rw [e, s1, s2, c1]; rfl, rfl⟩) rfl rfl rfl (by repeat' (first | exact trivial | exact rfl | (refine And.intro ?_ ?_) | omega)) (by repeat' (first | exact trivial | exact rfl | (refine And.intro ?_ ?_) | omega))
        · exact xend [] (.v (bv false)) (_) (⟨by rw [e, s1, s2]; rfl, rfl⟩) rfl rfl rfl (by repeat' (first | exact trivial | exact rfl | (refine And.intro ?_ ?_) | omega)) (by repeat' (first | exact trivial | exact rfl | (refine And.intro ?_ ?_) | omega))
  | x + 6, h => omega
end Go.Proofs.Ytcmedheeafiogaa

namespace Go.Proofs.Ytcmedheeafiogaa
open Go.Sy
set_option linter.unusedVariables false
set_option linter.unusedSimpArgs false
def in49 (n : Int) : Bool := !(decide (n > 562949953421312) || decide (n < -562949953421312))
theorem in49_t {n : Int} (h : decide (n > 562949953421312) = false) (k : decide (n < -562949953421312) = false) : in49 n = true := by unfold in49; rw [h, k]; rfl
theorem in49_1 {n : Int} (h : decide (n > 562949953421312) = true) : in49 n = false := by unfold in49; rw [h]; rfl
theorem in49_2 {n : Int} (k : decide (n < -562949953421312) = true) : in49 n = false := by unfold in49; rw [k]; simp
def nearF (f : Flt) : Bool := in49 f.box.l && (in49 f.box.t && (in49 f.box.r && (in49 f.box.b && (decide (f.side = 1) || decide (f.side = 2)))))
def nearB (l : List Flt) : Bool := l.all nearF
abbrev gF (l : List Flt) (x : Nat) : Flt := l.getD x encFlt.d
theorem nearB_f {l : List Flt} {x : Nat} (hx : x < l.length) (h : nearF (gF l x) = false) : nearB l = false := by
  unfold nearB
  rw [List.all_eq_false]
  refine ⟨gF l x, ?_, by rw [h]; decide⟩
  unfold gF
  simp [hx]
theorem take_all {l : List Flt} {x : Nat} (hx : x < l.length) (h : (l.take x).all nearF = true) (k : nearF (gF l x) = true) : (l.take (x + 1)).all nearF = true := by
  rw [List.take_succ_eq_append_getElem hx, List.all_append, h]
  have : gF l x = l[x] := by simp [gF, hx]
  rw [this] at k
  simp [k]
def inN (f : Flt) (k : Nat) : Prop := (1 ≤ k → in49 f.box.l = true) ∧ (2 ≤ k → in49 f.box.t = true) ∧ (3 ≤ k → in49 f.box.r = true) ∧ (4 ≤ k → in49 f.box.b = true)
theorem t56 (l : List Flt) (hl : l.length < 2 ^ 48) : Tri Try.prog 56 [.one (.slice 0 0 5 l.length)] [some (.view encFlt l)] (fun x post => x = .v (bv (nearB l)) ∧ post = [some (.view encFlt l)]) := by
  (refine tri_x tabOK Try.func56 rfl rfl Try.ntmps56 (by simp) fun C => ?_; (conv => whnf); repeat ((first | (refine cnd (by first | assumption | omega | decide) ?_) | (refine cnd0 ?_) | (refine Chk.mk (by kernel_rfl) ?_) | (refine xdraw_rule tabOK ?_) | (refine xdraw_rule (tabLOK _) ?_)); (conv => whnf)))
  refine xloop tabOK (fun x : Nat => x ≤ l.length ∧ (l.take x).all nearF = true) (fun x => [(0, .v (.one (.slice 0 0 5 l.length))), (3, .v (iv x))]) (fun x => [some (.view encFlt l)]) (fun x => l.length - x) (0) [0] (⟨by omega, rfl⟩) rfl rfl rfl (by repeat' (first | exact trivial | exact rfl | (refine And.intro ?_ ?_) | omega)) (by repeat' (first | exact trivial | exact rfl | (refine And.intro ?_ ?_) | omega)) ?_
  rintro x ⟨hx, hall⟩
  ((conv => whnf); repeat ((first | (refine cnd (by first | assumption | omega | decide) ?_) | (refine cnd0 ?_) | (refine Chk.mk (by kernel_rfl) ?_) | (refine xdraw_rule tabOK ?_) | (refine xdraw_rule (tabLOK _) ?_)); (conv => whnf)))
  (refine Br.mk (fun c => ?_) (fun c => ?_) <;> ((conv => whnf); repeat ((first | (refine cnd (by first | assumption | omega | decide) ?_) | (refine cnd0 ?_) | (refine Chk.mk (by kernel_rfl) ?_) | (refine xdraw_rule tabOK ?_) | (refine xdraw_rule (tabLOK _) ?_)); (conv => whnf))))
  · have hxl : x < l.length := by have := of_decide_eq_true c; omega
    have hx0 : 0 + (x : Int).toNat = x := by omega
    have hwx : IntKind.i64.wrap ((x : Int) + 1) = (x + 1 : Nat) := by rw [W_id (by omega) (by omega)]; rfl
    refine xloop tabOK (fun k : Nat => k ≤ 4 ∧ inN (gF l x) k) (fun k => [(0, .v (.one (.slice 0 0 5 l.length))), (3, .v (iv x)), (4, .v (iv k))]) (fun k => [some (.view encFlt l)]) (fun k => 4 - k) (0) [0] (⟨by omega, by unfold inN; omega⟩) rfl rfl rfl (by repeat' (first | exact trivial | exact rfl | (refine And.intro ?_ ?_) | omega)) (by repeat' (first | exact trivial | exact rfl | (refine And.intro ?_ ?_) | omega)) ?_
    rintro k ⟨hk, h1, h2, h3, h4⟩
    match k, hk with
    | 0, _ =>
      ((conv => whnf); repeat ((first | (refine cnd (by first | assumption | omega | decide) ?_) | (refine cnd0 ?_) | (refine Chk.mk (by kernel_rfl) ?_) | (refine xdraw_rule tabOK ?_) | (refine xdraw_rule (tabLOK _) ?_)); (conv => whnf)))
      (refine Br.mk (fun c1 => ?_) (fun c1 => ?_) <;> ((conv => whnf); repeat ((first | (refine cnd (by first | assumption | omega | decide) ?_) | (refine cnd0 ?_) | (refine Chk.mk (by kernel_rfl) ?_) | (refine xdraw_rule tabOK ?_) | (refine xdraw_rule (tabLOK _) ?_)); (conv => whnf))))
      · (repeat ((first | (refine cnd (by first | assumption | omega | decide) ?_) | (refine cnd0 ?_) | (refine Chk.mk (by kernel_rfl) ?_) | (refine xdraw_rule tabOK ?_) | (refine xdraw_rule (tabLOK _) ?_)); (conv => whnf)))
        (refine Br.mk (fun g1 => ?_) (fun g1 => ?_) <;> ((conv => whnf); repeat ((first | (refine cnd (by first | assumption | omega | decide) ?_) | (refine cnd0 ?_) | (refine Chk.mk (by kernel_rfl) ?_) | (refine xdraw_rule tabOK ?_) | (refine xdraw_rule (tabLOK _) ?_)); (conv => whnf))))
        · simp only [hx0] at g1
          exact xend [0] (.v (bv false)) (_) (⟨by rw [nearB_f hxl (by unfold nearF; rw [in49_1 g1]; simp)], rfl⟩) rfl rfl rfl (by repeat' (first | exact trivial | exact rfl | (refine And.intro ?_ ?_) | omega)) (by repeat' (first | exact trivial | exact rfl | (refine And.intro ?_ ?_) | omega))
        · (repeat ((first | (refine cnd (by first | assumption | omega | decide) ?_) | (refine cnd0 ?_) | (refine Chk.mk (by kernel_rfl) ?_) | (refine xdraw_rule tabOK ?_) | (refine xdraw_rule (tabLOK _) ?_)); (conv => whnf)))
          (refine Br.mk (fun g2 => ?_) (fun g2 => ?_) <;> ((conv => whnf); repeat ((first | (refine cnd (by first | assumption | omega | decide) ?_) | (refine cnd0 ?_) | (refine Chk.mk (by kernel_rfl) ?_) | (refine xdraw_rule tabOK ?_) | (refine xdraw_rule (tabLOK _) ?_)); (conv => whnf))))
          · simp only [hx0] at g2
            exact xend [0] (.v (bv false)) (_) (⟨by rw [nearB_f hxl (by unfold nearF; rw [in49_2 g2]; simp)], rfl⟩) rfl rfl rfl (by repeat' (first | exact trivial | exact rfl | (refine And.intro ?_ ?_) | omega)) (by repeat' (first | exact trivial | exact rfl | (refine And.intro ?_ ?_) | omega))
          · simp only [hx0] at g1 g2
            have g3 := in49_t g1 g2
            exact rnd (1) [0] (⟨by omega, by unfold inN; simp_all⟩) (by show 4 - 1 < 4 - 0; omega) rfl rfl rfl (by repeat' (first | exact trivial | exact rfl | (refine And.intro ?_ ?_) | omega)) (by repeat' (first | exact trivial | exact rfl | (refine And.intro ?_ ?_) | omega))
      · exact absurd c1 (by decide)
    | 1, _ =>
      ((conv => whnf); repeat ((first | (refine cnd (by first | assumption | omega | decide) ?_) | (refine cnd0 ?_) | (refine Chk.mk (by kernel_rfl) ?_) | (refine xdraw_rule tabOK ?_) | (refine xdraw_rule (tabLOK _) ?_)); (conv => whnf)))
      (refine Br.mk (fun c1 => ?_) (fun c1 => ?_) <;> ((conv => whnf); repeat ((first | (refine cnd (by first | assumption | omega | decide) ?_) | (refine cnd0 ?_) | (refine Chk.mk (by kernel_rfl) ?_) | (refine xdraw_rule tabOK ?_) | (refine xdraw_rule (tabLOK _) ?_)); (conv => whnf))))
      · (repeat ((first | (refine cnd (by first | assumption | omega | decide) ?_) | (refine cnd0 ?_) | (refine Chk.mk (by kernel_rfl) ?_) | (refine xdraw_rule tabOK ?_) | (refine xdraw_rule (tabLOK _) ?_)); (conv => whnf)))
        (refine Br.mk (fun g1 => ?_) (fun g1 => ?_) <;> ((conv => whnf); repeat ((first | (refine cnd (by first | assumption | omega | decide) ?_) | (refine cnd0 ?_) | (refine Chk.mk (by kernel_rfl) ?_) | (refine xdraw_rule tabOK ?_) | (refine xdraw_rule (tabLOK _) ?_)); (conv => whnf))))
        · simp only [hx0] at g1
          exact xend [0] (.v (bv false)) (_) (⟨by rw [nearB_f hxl (by unfold nearF; rw [in49_1 g1]; simp)], rfl⟩) rfl rfl rfl (by repeat' (first | exact trivial | exact rfl | (refine And.intro ?_ ?_) | omega)) (by repeat' (first | exact trivial | exact rfl | (refine And.intro ?_ ?_) | omega))
        · (repeat ((first | (refine cnd (by first | assumption | omega | decide) ?_) | (refine cnd0 ?_) | (refine Chk.mk (by kernel_rfl) ?_) | (refine xdraw_rule tabOK ?_) | (refine xdraw_rule (tabLOK _) ?_)); (conv => whnf)))
          (refine Br.mk (fun g2 => ?_) (fun g2 => ?_) <;> ((conv => whnf); repeat ((first | (refine cnd (by first | assumption | omega | decide) ?_) | (refine cnd0 ?_) | (refine Chk.mk (by kernel_rfl) ?_) | (refine xdraw_rule tabOK ?_) | (refine xdraw_rule (tabLOK _) ?_)); (conv => whnf))))
          · simp only [hx0] at g2
            exact xend [0] (.v (bv false)) (_) (⟨by rw [nearB_f hxl (by unfold nearF; rw [in49_2 g2]; simp)], rfl⟩) rfl rfl rfl (by repeat' (first | exact trivial | exact rfl | (refine And.intro ?_ ?_) | omega)) (by repeat' (first | exact trivial | exact rfl | (refine And.intro ?_ ?_) | omega))
          · simp only [hx0] at g1 g2
            have g3 := in49_t g1 g2
            exact rnd (2) [0] (⟨by omega, by unfold inN; simp_all⟩) (by show 4 - 2 < 4 - 1; omega) rfl rfl rfl (by repeat' (first | exact trivial | exact rfl | (refine And.intro ?_ ?_) | omega)) (by repeat' (first | exact trivial | exact rfl | (refine And.intro ?_ ?_) | omega))
      · exact absurd c1 (by decide)
    | 2, _ =>
      ((conv => whnf); repeat ((first | (refine cnd (by first | assumption | omega | decide) ?_) | (refine cnd0 ?_) | (refine Chk.mk (by kernel_rfl) ?_) | (refine xdraw_rule tabOK ?_) | (refine xdraw_rule (tabLOK _) ?_)); (conv => whnf)))
      (refine Br.mk (fun c1 => ?_) (fun c1 => ?_) <;> ((conv => whnf); repeat ((first | (refine cnd (by first | assumption | omega | decide) ?_) | (refine cnd0 ?_) | (refine Chk.mk (by kernel_rfl) ?_) | (refine xdraw_rule tabOK ?_) | (refine xdraw_rule (tabLOK _) ?_)); (conv => whnf))))
      · (repeat ((first | (refine cnd (by first | assumption | omega | decide) ?_) | (refine cnd0 ?_) | (refine Chk.mk (by kernel_rfl) ?_) | (refine xdraw_rule tabOK ?_) | (refine xdraw_rule (tabLOK _) ?_)); (conv => whnf)))
        (refine Br.mk (fun g1 => ?_) (fun g1 => ?_) <;> ((conv => whnf); repeat ((first | (refine cnd (by first | assumption | omega | decide) ?_) | (refine cnd0 ?_) | (refine Chk.mk (by kernel_rfl) ?_) | (refine xdraw_rule tabOK ?_) | (refine xdraw_rule (tabLOK _) ?_)); (conv => whnf))))
        · simp only [hx0] at g1
          exact xend [0] (.v (bv false)) (_) (⟨by rw [nearB_f hxl (by unfold nearF; rw [in49_1 g1]; simp)], rfl⟩) rfl rfl rfl (by repeat' (first | exact trivial | exact rfl | (refine And.intro ?_ ?_) | omega)) (by repeat' (first | exact trivial | exact rfl | (refine And.intro ?_ ?_) | omega))
        · (repeat ((first | (refine cnd (by first | assumption | omega | decide) ?_) | (refine cnd0 ?_) | (refine Chk.mk (by kernel_rfl) ?_) | (refine xdraw_rule tabOK ?_) | (refine xdraw_rule (tabLOK _) ?_)); (conv => whnf)))
          (refine Br.mk (fun g2 => ?_) (fun g2 => ?_) <;> ((conv => whnf); repeat ((first | (refine cnd (by first | assumption | omega | decide) ?_) | (refine cnd0 ?_) | (refine Chk.mk (by kernel_rfl) ?_) | (refine xdraw_rule tabOK ?_) | (refine xdraw_rule (tabLOK _) ?_)); (conv => whnf))))
          · simp only [hx0] at g2
            exact xend [0] (.v (bv false)) (_) (⟨by rw [nearB_f hxl (by unfold nearF; rw [in49_2 g2]; simp)], rfl⟩) rfl rfl rfl (by repeat' (first | exact trivial | exact rfl | (refine And.intro ?_ ?_) | omega)) (by repeat' (first | exact trivial | exact rfl | (refine And.intro ?_ ?_) | omega))
          · simp only [hx0] at g1 g2
            have g3 := in49_t g1 g2
            exact rnd (3) [0] (⟨by omega, by unfold inN; simp_all⟩) (by show 4 - 3 < 4 - 2; omega) rfl rfl rfl (by repeat' (first | exact trivial | exact rfl | (refine And.intro ?_ ?_) | omega)) (by repeat' (first | exact trivial | exact rfl | (refine And.intro ?_ ?_) | omega))
      · exact absurd c1 (by decide)
    | 3, _ =>
      ((conv => whnf); repeat ((first | (refine cnd (by first | assumption | omega | decide) ?_) | (refine cnd0 ?_) | (refine Chk.mk (by kernel_rfl) ?_) | (refine xdraw_rule tabOK ?_) | (refine xdraw_rule (tabLOK _) ?_)); (conv => whnf)))
      (refine Br.mk (fun c1 => ?_) (fun c1 => ?_) <;> ((conv => whnf); repeat ((first | (refine cnd (by first | assumption | omega | decide) ?_) | (refine cnd0 ?_) | (refine Chk.mk (by kernel_rfl) ?_) | (refine xdraw_rule tabOK ?_) | (refine xdraw_rule (tabLOK _) ?_)); (conv => whnf))))
      · (repeat ((first | (refine cnd (by first | assumption | omega | decide) ?_) | (refine cnd0 ?_) | (refine Chk.mk (by kernel_rfl) ?_) | (refine xdraw_rule tabOK ?_) | (refine xdraw_rule (tabLOK _) ?_)); (conv => whnf)))
        (refine Br.mk (fun g1 => ?_) (fun g1 => ?_) <;> ((conv => whnf); repeat ((first | (refine cnd (by first | assumption | omega | decide) ?_) | (refine cnd0 ?_) | (refine Chk.mk (by kernel_rfl) ?_) | (refine xdraw_rule tabOK ?_) | (refine xdraw_rule (tabLOK _) ?_)); (conv => whnf))))
        · simp only [hx0] at g1
          exact xend [0] (.v (bv false)) (_) (⟨by rw [nearB_f hxl (by unfold nearF; rw [in49_1 g1]; simp)], rfl⟩) rfl rfl rfl (by repeat' (first | exact trivial | exact rfl | (refine And.intro ?_ ?_) | omega)) (by repeat' (first | exact trivial | exact rfl | (refine And.intro ?_ ?_) | omega))
        · (repeat ((first | (refine cnd (by first | assumption | omega | decide) ?_) | (refine cnd0 ?_) | (refine Chk.mk (by kernel_rfl) ?_) | (refine xdraw_rule tabOK ?_) | (refine xdraw_rule (tabLOK _) ?_)); (conv => whnf)))
          (refine Br.mk (fun g2 => ?_) (fun g2 => ?_) <;> ((conv => whnf); repeat ((first | (refine cnd (by first | assumption | omega | decide) ?_) | (refine cnd0 ?_) | (refine Chk.mk (by kernel_rfl) ?_) | (refine xdraw_rule tabOK ?_) | (refine xdraw_rule (tabLOK _) ?_)); (conv => whnf))))
          · simp only [hx0] at g2
            exact xend [0] (.v (bv false)) (_) (⟨by rw [nearB_f hxl (by unfold nearF; rw [in49_2 g2]; simp)], rfl⟩) rfl rfl rfl (by repeat' (first | exact trivial | exact rfl | (refine And.intro ?_ ?_) | omega)) (by repeat' (first | exact trivial | exact rfl | (refine And.intro ?_ ?_) | omega))
          · simp only [hx0] at g1 g2
            have g3 := in49_t g1 g2
            exact rnd (4) [0] (⟨by omega, by unfold inN; simp_all⟩) (by show 4 - 4 < 4 - 3; omega) rfl rfl rfl (by repeat' (first | exact trivial | exact rfl | (refine And.intro ?_ ?_) | omega)) (by repeat' (first | exact trivial | exact rfl | (refine And.intro ?_ ?_) | omega))
      · exact absurd c1 (by decide)
    | 4, _ =>
      have e1 := h1 (by omega)
      have e2 := h2 (by omega)
      have e3 := h3 (by omega)
      have e4 := h4 (by omega)
      have e : nearF (gF l x) = (decide ((gF l x).side = 1) || decide ((gF l x).side = 2)) := by unfold nearF; rw [e1, e2, e3, e4]; rfl
      ((conv => whnf); repeat ((first | (refine cnd (by first | assumption | omega | decide) ?_) | (refine cnd0 ?_) | (refine Chk.mk (by kernel_rfl) ?_) | (refine xdraw_rule tabOK ?_) | (refine xdraw_rule (tabLOK _) ?_)); (conv => whnf)))
      (refine Br.mk (fun c1 => ?_) (fun c1 => ?_) <;> ((conv => whnf); repeat ((first | (refine cnd (by first | assumption | omega | decide) ?_) | (refine cnd0 ?_) | (refine Chk.mk (by kernel_rfl) ?_) | (refine xdraw_rule tabOK ?_) | (refine xdraw_rule (tabLOK _) ?_)); (conv => whnf))))
      · exact absurd c1 (by decide)
      · (repeat ((first | (refine cnd (by first | assumption | omega | decide) ?_) | (refine cnd0 ?_) | (refine Chk.mk (by kernel_rfl) ?_) | (refine xdraw_rule tabOK ?_) | (refine xdraw_rule (tabLOK _) ?_)); (conv => whnf)))
        (refine Br.mk (fun s1 => ?_) (fun s1 => ?_) <;> ((conv => whnf); repeat ((first | (refine cnd (by first | assumption | omega | decide) ?_) | (refine cnd0 ?_) | (refine Chk.mk (by kernel_rfl) ?_) | (refine xdraw_rule tabOK ?_) | (refine xdraw_rule (tabLOK _) ?_)); (conv => whnf))))
        · simp only [hx0] at s1
          (repeat ((first | (refine cnd (by first | assumption | omega | decide) ?_) | (refine cnd0 ?_) | (refine Chk.mk (by kernel_rfl) ?_) | (refine xdraw_rule tabOK ?_) | (refine xdraw_rule (tabLOK _) ?_)); (conv => whnf)))
          (refine Br.mk (fun s2 => ?_) (fun s2 => ?_) <;> ((conv => whnf); repeat ((first | (refine cnd (by first | assumption | omega | decide) ?_) | (refine cnd0 ?_) | (refine Chk.mk (by kernel_rfl) ?_) | (refine xdraw_rule tabOK ?_) | (refine xdraw_rule (tabLOK _) ?_)); (conv => whnf))))
          · simp only [hx0] at s2
            exact xend [0] (.v (bv false)) (_) (⟨by rw [nearB_f hxl (by rw [e]; simp at s1 s2; simp [s1, s2])], rfl⟩) rfl rfl rfl (by repeat' (first | exact trivial | exact rfl | (refine And.intro ?_ ?_) | omega)) (by repeat' (first | exact trivial | exact rfl | (refine And.intro ?_ ?_) | omega))
          · simp only [hx0] at s2
            exact rnd (x + 1) [0] (⟨by omega, take_all hxl hall (by rw [e]; simp at s2; simp [s2])⟩) (by omega) rfl rfl rfl (by repeat' (first | exact trivial | exact rfl | (refine And.intro ?_ ?_) | omega | exact hwx)) (by repeat' (first | exact trivial | exact rfl | (refine And.intro ?_ ?_) | omega | exact hwx))
        · simp only [hx0] at s1
          exact rnd (x + 1) [0] (⟨by omega, take_all hxl hall (by rw [e]; simp at s1; simp [s1])⟩) (by omega) rfl rfl rfl (by repeat' (first | exact trivial | exact rfl | (refine And.intro ?_ ?_) | omega | exact hwx)) (by repeat' (first | exact trivial | exact rfl | (refine And.intro ?_ ?_) | omega | exact hwx))
    | k + 5, h => omega
  · have hx2 : x = l.length := by have := of_decide_eq_false c; omega
    have e : nearB l = true := by rw [hx2, List.take_length] at hall; exact hall
    exact xend [0] (.v (bv true)) (_) (⟨by rw [e], rfl⟩) rfl rfl rfl (by repeat' (first | exact trivial | exact rfl | (refine And.intro ?_ ?_) | omega)) (by repeat' (first | exact trivial | exact rfl | (refine And.intro ?_ ?_) | omega))
end Go.Proofs.Ytcmedheeafiogaa

namespace Go.Proofs.Ytcmedheeafiogaa
open Go.Sy
set_option linter.unusedVariables false
set_option linter.unusedSimpArgs false
theorem near_ok {f : Flt} (h : nearF f = true) : OKf f ∧ (-562949953421312 ≤ f.box.l ∧ f.box.l ≤ 562949953421312) ∧ (-562949953421312 ≤ f.box.t ∧ f.box.t ≤ 562949953421312) ∧ (-562949953421312 ≤ f.box.r ∧ f.box.r ≤ 562949953421312) ∧ (-562949953421312 ≤ f.box.b ∧ f.box.b ≤ 562949953421312) := by
  simp [nearF, in49] at h
  obtain ⟨h1, h2, h3, h4, h5⟩ := h
  exact ⟨⟨h5, ⟨by unfold far; omega, by unfold far; omega⟩, ⟨by unfold far; omega, by unfold far; omega⟩⟩, by omega, by omega, by omega, by omega⟩
theorem near_all {l : List Flt} (h : nearB l = true) : ∀ f ∈ l, nearF f = true := by
  unfold nearB at h
  exact List.all_eq_true.1 h
-- law10.Begin
theorem t57 (l : List Flt) (ho : OKl l) : Tri Try.prog 57 [.one (.slice 0 0 5 l.length)] [some (.view encFlt l)] (fun x post => x = .v (pt 1) ∧ post = [some (.view encFlt l), some (spC l)]) := by
  have hln := ho.len
  (refine tri_x tabOK Try.func57 rfl rfl Try.ntmps57 (by simp) fun C => ?_; (conv => whnf); repeat ((first | (refine cnd (by first | assumption | omega | decide) ?_) | (refine cnd0 ?_) | (refine Chk.mk (by kernel_rfl) ?_) | (refine xdraw_rule tabOK ?_) | (refine xdraw_rule (tabLOK _) ?_)); (conv => whnf)))
  (refine xcall (t42) rfl rfl rfl (by repeat (first | exact trivial | refine ⟨rfl, ?_⟩)) ?_; (conv => whnf); repeat ((first | (refine cnd (by first | assumption | omega | decide) ?_) | (refine cnd0 ?_) | (refine Chk.mk (by kernel_rfl) ?_) | (refine xdraw_rule tabOK ?_) | (refine xdraw_rule (tabLOK _) ?_)); (conv => whnf)))
  refine xloop tabOK (fun x : Nat => x ≤ l.length) (fun x => [(3, .v (pt 1)), (9, .v (.one (.slice 0 0 5 l.length))), (10, .v (iv l.length)), (11, .v (iv x))]) (fun x => [some (.view encFlt l), some (spC (l.take x))]) (fun x => l.length - x) (0) [0, 2] (Nat.zero_le _) rfl rfl rfl (by repeat' (first | exact trivial | exact rfl | (refine And.intro ?_ ?_) | omega)) (by repeat' (first | exact trivial | exact rfl | (refine And.intro ?_ ?_) | omega)) ?_
  intro x hx
  ((conv => whnf); repeat ((first | (refine cnd (by first | assumption | omega | decide) ?_) | (refine cnd0 ?_) | (refine Chk.mk (by kernel_rfl) ?_) | (refine xdraw_rule tabOK ?_) | (refine xdraw_rule (tabLOK _) ?_)); (conv => whnf)))
  (refine Br.mk (fun c => ?_) (fun c => ?_) <;> ((conv => whnf); repeat ((first | (refine cnd (by first | assumption | omega | decide) ?_) | (refine cnd0 ?_) | (refine Chk.mk (by kernel_rfl) ?_) | (refine xdraw_rule tabOK ?_) | (refine xdraw_rule (tabLOK _) ?_)); (conv => whnf))))
  · have hxl : x < l.length := by have := of_decide_eq_true c; omega
    have hwx : IntKind.i64.wrap ((x : Int) + 1) = (x + 1 : Nat) := by rw [W_id (by omega) (by omega)]; rfl
    have hE : (l.getD (0 + (x : Int).toNat) encFlt.d) = l[x] := by simp [hxl]
    have hO : OKf (l.getD (0 + (x : Int).toNat) encFlt.d) := by rw [hE]; exact ho.all _ (List.getElem_mem hxl)
    have hP : OKl (l.take x) := ⟨fun f hf => ho.all f (List.mem_of_mem_take hf), by rw [List.length_take]; omega⟩
    have hT : l.take x ++ [⟨(l.getD (0 + (x : Int).toNat) encFlt.d).side, ⟨(l.getD (0 + (x : Int).toNat) encFlt.d).box.l, (l.getD (0 + (x : Int).toNat) encFlt.d).box.t, (l.getD (0 + (x : Int).toNat) encFlt.d).box.r, (l.getD (0 + (x : Int).toNat) encFlt.d).box.b⟩⟩] = l.take (x + 1) := by
      rw [List.take_succ_eq_append_getElem hxl]
      show l.take x ++ [(l.getD (0 + (x : Int).toNat) encFlt.d)] = _
      rw [hE]
    (repeat ((first | (refine cnd (by first | assumption | omega | decide) ?_) | (refine cnd0 ?_) | (refine Chk.mk (by kernel_rfl) ?_) | (refine xdraw_rule tabOK ?_) | (refine xdraw_rule (tabLOK _) ?_)); (conv => whnf)))
    (refine dcallR (t39 (l.getD (0 + (x : Int).toNat) encFlt.d).box.l (l.getD (0 + (x : Int).toNat) encFlt.d).box.t (l.getD (0 + (x : Int).toNat) encFlt.d).box.r (l.getD (0 + (x : Int).toNat) encFlt.d).box.b) rfl fun hT_ => ?_; (conv => whnf); refine cnd hT_ (cnd rfl (cnd (by repeat (first | exact trivial | refine ⟨rfl, ?_⟩)) (cnd rfl (cnd0 ?_)))); clear hT_; (conv => whnf); repeat ((first | (refine cnd (by first | assumption | omega | decide) ?_) | (refine cnd0 ?_) | (refine Chk.mk (by kernel_rfl) ?_) | (refine xdraw_rule tabOK ?_) | (refine xdraw_rule (tabLOK _) ?_)); (conv => whnf)))
    (refine dcall (t82 (l.take x) hP (l.getD (0 + (x : Int).toNat) encFlt.d).side (l.getD (0 + (x : Int).toNat) encFlt.d).box.l (l.getD (0 + (x : Int).toNat) encFlt.d).box.t (l.getD (0 + (x : Int).toNat) encFlt.d).box.r (l.getD (0 + (x : Int).toNat) encFlt.d).box.b ⟨hO.side, hO.t, hO.b⟩) 0 rfl fun hT_ => ?_; (conv => whnf); refine cnd hT_ (cnd rfl (cnd (by repeat (first | exact trivial | refine ⟨rfl, ?_⟩)) (cnd rfl (cnd0 ?_)))); clear hT_; (conv => whnf); repeat ((first | (refine cnd (by first | assumption | omega | decide) ?_) | (refine cnd0 ?_) | (refine Chk.mk (by kernel_rfl) ?_) | (refine xdraw_rule tabOK ?_) | (refine xdraw_rule (tabLOK _) ?_)); (conv => whnf)))
    exact rnd (x + 1) [0, 1] (by omega) (by omega) rfl rfl rfl (by repeat' (first | exact trivial | exact rfl | (refine And.intro ?_ ?_) | omega | first | exact hwx | exact congrArg spC hT)) (by repeat' (first | exact trivial | exact rfl | (refine And.intro ?_ ?_) | omega | first | exact hwx | exact congrArg spC hT))
  · have hx2 : x = l.length := by have := of_decide_eq_false c; omega
    have e : l.take x = l := by rw [hx2, List.take_length]
    exact xend [0, 1] (_) ([some (.view encFlt l), some (spC l)]) (⟨rfl, rfl⟩) rfl rfl rfl (by repeat' (first | exact trivial | exact rfl | (refine And.intro ?_ ?_) | omega | exact congrArg spC e)) (by repeat' (first | exact trivial | exact rfl | (refine And.intro ?_ ?_) | omega | exact congrArg spC e))
def bgB (l : List Flt) (m : Int) : Bool := nearB l && decide ((l.length : Int) ≤ m)
theorem bgB_ok {l : List Flt} {m : Int} (h : bgB l m = true) (hm : m ≤ 1000) : OKl l := by
  unfold bgB at h
  obtain ⟨h1, h2⟩ := Bool.and_eq_true_iff.1 h
  have h2 := of_decide_eq_true h2
  exact ⟨fun f hf => (near_ok (near_all h1 f hf)).1, by omega⟩
/-- The space that a law begins with: nil, or one. -/
def bgR (l : List Flt) (b : Bool) (x : SV) (post : List (Option Chunk)) : Prop :=
  (b = true ∧ x = .v (pt 1) ∧ post = [some (.view encFlt l), some (spC l)]) ∨ (b = false ∧ x = .v (.one .nilp) ∧ post = [some (.view encFlt l)])
-- law11.begin
theorem t17 (l : List Flt) (hl : l.length < 2 ^ 48) (m : Int) (hm : m ≤ 1000) : Tri Try.prog 17 [.one (.slice 0 0 5 l.length), iv m] [some (.view encFlt l)] (bgR l (bgB l m)) := by
  (refine tri_x tabOK Try.func17 rfl rfl Try.ntmps17 (by simp) fun C => ?_; (conv => whnf); repeat ((first | (refine cnd (by first | assumption | omega | decide) ?_) | (refine cnd0 ?_) | (refine Chk.mk (by kernel_rfl) ?_) | (refine xdraw_rule tabOK ?_) | (refine xdraw_rule (tabLOK _) ?_)); (conv => whnf)))
  (refine xcall (t56 l hl) rfl rfl rfl (by repeat (first | exact trivial | refine ⟨rfl, ?_⟩)) ?_; (conv => whnf); repeat ((first | (refine cnd (by first | assumption | omega | decide) ?_) | (refine cnd0 ?_) | (refine Chk.mk (by kernel_rfl) ?_) | (refine xdraw_rule tabOK ?_) | (refine xdraw_rule (tabLOK _) ?_)); (conv => whnf)))
  (refine Br.mk (fun h1 => ?_) (fun h1 => ?_) <;> ((conv => whnf); repeat ((first | (refine cnd (by first | assumption | omega | decide) ?_) | (refine cnd0 ?_) | (refine Chk.mk (by kernel_rfl) ?_) | (refine xdraw_rule tabOK ?_) | (refine xdraw_rule (tabLOK _) ?_)); (conv => whnf))))
  · have e : bgB l m = false := by unfold bgB; simp at h1; rw [h1]; rfl
    exact xend [0] (.v (.one .nilp)) (_) (.inr ⟨e, rfl, rfl⟩) rfl rfl rfl (by repeat' (first | exact trivial | exact rfl | (refine And.intro ?_ ?_) | omega)) (by repeat' (first | exact trivial | exact rfl | (refine And.intro ?_ ?_) | omega))
  · have h1 : nearB l = true := by simpa using h1
    (refine Br.mk (fun h2 => ?_) (fun h2 => ?_) <;> ((conv => whnf); repeat ((first | (refine cnd (by first | assumption | omega | decide) ?_) | (refine cnd0 ?_) | (refine Chk.mk (by kernel_rfl) ?_) | (refine xdraw_rule tabOK ?_) | (refine xdraw_rule (tabLOK _) ?_)); (conv => whnf))))
    · have e : bgB l m = false := by unfold bgB; simp at h2; rw [h1]; simp; omega
      exact xend [0] (.v (.one .nilp)) (_) (.inr ⟨e, rfl, rfl⟩) rfl rfl rfl (by repeat' (first | exact trivial | exact rfl | (refine And.intro ?_ ?_) | omega)) (by repeat' (first | exact trivial | exact rfl | (refine And.intro ?_ ?_) | omega))
    · have e : bgB l m = true := by unfold bgB; simp at h2; rw [h1]; simp; omega
      (refine xcall (t57 l (bgB_ok e hm)) rfl rfl rfl (by repeat (first | exact trivial | refine ⟨rfl, ?_⟩)) ?_; (conv => whnf); repeat ((first | (refine cnd (by first | assumption | omega | decide) ?_) | (refine cnd0 ?_) | (refine Chk.mk (by kernel_rfl) ?_) | (refine xdraw_rule tabOK ?_) | (refine xdraw_rule (tabLOK _) ?_)); (conv => whnf)))
      exact xend [0, 11] (.v (pt 1)) (_) (.inl ⟨e, rfl, rfl⟩) rfl rfl rfl (by repeat' (first | exact trivial | exact rfl | (refine And.intro ?_ ?_) | omega)) (by repeat' (first | exact trivial | exact rfl | (refine And.intro ?_ ?_) | omega))
def wS : Wn := ⟨1, 0, 0, 10, 3, 2, 0⟩
theorem okl0 : OKl [] := ⟨fun f h => by simp at h, by simp⟩
theorem wS1 : findR [] wS = ⟨0, 0, 3, 2⟩ := by kernel_rfl
theorem wS2 : findR [⟨1, ⟨0, 0, 3, 2⟩⟩] wS = ⟨3, 0, 6, 2⟩ := by kernel_rfl
-- law11.speaks
theorem t18 : Tri Try.prog 18 [] [] (fun x post => x = .v (bv true) ∧ post = []) := by
  have T1 := t44 [] okl0 wS (by rw [wS1]; exact ⟨.inl rfl, by unfold far; decide, by unfold far; decide⟩)
  have o1 : OKl [⟨1, ⟨0, 0, 3, 2⟩⟩] := ⟨fun f h => by simp at h; subst h; exact ⟨.inl rfl, by unfold far; decide, by unfold far; decide⟩, by simp⟩
  have T2 := t44 [⟨1, ⟨0, 0, 3, 2⟩⟩] o1 wS (by rw [wS2]; exact ⟨.inl rfl, by unfold far; decide, by unfold far; decide⟩)
  rw [wS1] at T1
  rw [wS2] at T2
  (refine tri_x tabOK Try.func18 rfl rfl Try.ntmps18 (by simp) fun C => ?_; (conv => whnf); repeat ((first | (refine cnd (by first | assumption | omega | decide) ?_) | (refine cnd0 ?_) | (refine Chk.mk (by kernel_rfl) ?_) | (refine xdraw_rule tabOK ?_) | (refine xdraw_rule (tabLOK _) ?_)); (conv => whnf)))
  (refine xcall (t42) rfl rfl rfl (by repeat (first | exact trivial | refine ⟨rfl, ?_⟩)) ?_; (conv => whnf); repeat ((first | (refine cnd (by first | assumption | omega | decide) ?_) | (refine cnd0 ?_) | (refine Chk.mk (by kernel_rfl) ?_) | (refine xdraw_rule tabOK ?_) | (refine xdraw_rule (tabLOK _) ?_)); (conv => whnf)))
  (refine dcall (T1) 0 rfl fun hT_ => ?_; (conv => whnf); refine cnd hT_ (cnd rfl (cnd (by repeat (first | exact trivial | refine ⟨rfl, ?_⟩)) (cnd rfl (cnd0 ?_)))); clear hT_; (conv => whnf); repeat ((first | (refine cnd (by first | assumption | omega | decide) ?_) | (refine cnd0 ?_) | (refine Chk.mk (by kernel_rfl) ?_) | (refine xdraw_rule tabOK ?_) | (refine xdraw_rule (tabLOK _) ?_)); (conv => whnf)))
  (refine dcall (T2) 0 rfl fun hT_ => ?_; (conv => whnf); refine cnd hT_ (cnd rfl (cnd (by repeat (first | exact trivial | refine ⟨rfl, ?_⟩)) (cnd rfl (cnd0 ?_)))); clear hT_; (conv => whnf); repeat ((first | (refine cnd (by first | assumption | omega | decide) ?_) | (refine cnd0 ?_) | (refine Chk.mk (by kernel_rfl) ?_) | (refine xdraw_rule tabOK ?_) | (refine xdraw_rule (tabLOK _) ?_)); (conv => whnf)))
  (refine Br.mk (fun h1 => ?_) (fun h1 => ?_) <;> ((conv => whnf); repeat ((first | (refine cnd (by first | assumption | omega | decide) ?_) | (refine cnd0 ?_) | (refine Chk.mk (by kernel_rfl) ?_) | (refine xdraw_rule tabOK ?_) | (refine xdraw_rule (tabLOK _) ?_)); (conv => whnf))))
  · exact xend [] _ _ ⟨rfl, rfl⟩ rfl rfl rfl (by repeat' (first | exact trivial | exact rfl | (refine And.intro ?_ ?_) | omega)) (by repeat' (first | exact trivial | exact rfl | (refine And.intro ?_ ?_) | omega))
  · exact absurd h1 (by decide)
end Go.Proofs.Ytcmedheeafiogaa

namespace Go.Proofs.Ytcmedheeafiogaa
open Go.Sy
set_option linter.unusedVariables false
set_option linter.unusedSimpArgs false
/-! What is free: bounds of rows. -/
theorem bandGo_1 (b : Int) : ∀ (L : List Shelf) (l r x : Int), (bandGo b L l r).1 ≤ x ↔ l ≤ x ∧ ∀ s ∈ L.takeWhile (fun s => decide (s.top < b)), s.left ≤ x
  | [], l, r, x => by simp [bandGo]
  | s :: t, l, r, x => by
    rw [bandGo_cons, List.takeWhile_cons]
    by_cases h : s.top ≥ b
    · rw [show decide (s.top ≥ b) = true by simpa using h, show decide (s.top < b) = false by simpa using h]; simp
    · rw [show decide (s.top ≥ b) = false by simpa using h, show decide (s.top < b) = true by simp; omega]
      simp only [cond_false, if_true, List.forall_mem_cons]
      rw [bandGo_1 b t]
      constructor
      · rintro ⟨h1, h2⟩; exact ⟨by omega, by omega, h2⟩
      · rintro ⟨h1, h2, h3⟩; exact ⟨by omega, h3⟩
theorem bandGo_2 (b : Int) : ∀ (L : List Shelf) (l r x : Int), x ≤ (bandGo b L l r).2 ↔ x ≤ r ∧ ∀ s ∈ L.takeWhile (fun s => decide (s.top < b)), x ≤ s.right
  | [], l, r, x => by simp [bandGo]
  | s :: t, l, r, x => by
    rw [bandGo_cons, List.takeWhile_cons]
    by_cases h : s.top ≥ b
    · rw [show decide (s.top ≥ b) = true by simpa using h, show decide (s.top < b) = false by simpa using h]; simp
    · rw [show decide (s.top ≥ b) = false by simpa using h, show decide (s.top < b) = true by simp; omega]
      simp only [cond_false, if_true, List.forall_mem_cons]
      rw [bandGo_2 b t]
      constructor
      · rintro ⟨h1, h2⟩; exact ⟨by omega, by omega, h2⟩
      · rintro ⟨h1, h2, h3⟩; exact ⟨by omega, h3⟩
theorem mem_tw {b : Int} : ∀ {L : List Shelf}, L.Pairwise (fun a b => a.top < b.top) → ∀ s, s ∈ L.takeWhile (fun s => decide (s.top < b)) ↔ s ∈ L ∧ s.top < b
  | [], _, s => by simp
  | t :: r, hp, s => by
    obtain ⟨h1, h2⟩ := List.pairwise_cons.1 hp
    rw [List.takeWhile_cons]
    by_cases h : t.top < b
    · rw [if_pos (by simpa using h), List.mem_cons, mem_tw h2, List.mem_cons]
      constructor
      · rintro (rfl | ⟨h3, h4⟩)
        · exact ⟨.inl rfl, h⟩
        · exact ⟨.inr h3, h4⟩
      · rintro ⟨rfl | h3, h4⟩
        · exact .inl rfl
        · exact .inr ⟨h3, h4⟩
    · rw [if_neg (by simpa using h)]
      simp only [List.not_mem_nil, false_iff, not_and, List.mem_cons]
      rintro (rfl | h3)
      · exact h
      · have := h1 s h3; omega
theorem mem_drop_iff {sh : List Shelf} {k : Nat} {s : Shelf} : s ∈ sh.drop k ↔ ∃ i, k ≤ i ∧ i < sh.length ∧ gN sh i = s := by
  rw [List.mem_iff_getElem]
  constructor
  · rintro ⟨i, hi, rfl⟩
    rw [List.length_drop] at hi
    exact ⟨k + i, by omega, by omega, by rw [gN_lt (by omega), List.getElem_drop]⟩
  · rintro ⟨i, h1, h2, rfl⟩
    exact ⟨i - k, by rw [List.length_drop]; omega, by rw [List.getElem_drop, gN_lt h2]; congr 1; omega⟩
/-- A span of rows whose length goes over nothing. -/
theorem band_pos {sh : List Shelf} {a b : Int} (h : a < b) (h1 : -far ≤ a) (h2 : b ≤ 9000000000000000000) : band sh a b = bandGo b (sh.drop (fN sh a)) (-far) far := by
  unfold band
  rw [W_id (by unfold far at h1; omega) (by unfold far at h1; omega), show decide (b - a ≤ 0) = false by simp; omega]
  rfl
theorem band_1 {sh : List Shelf} (hw : WF sh) {a b : Int} (h : a < b) (h1 : -far ≤ a) (h2 : b ≤ 9000000000000000000) (x : Int) : (band sh a b).1 ≤ x ↔ -far ≤ x ∧ ∀ y, a ≤ y → y < b → (Bd sh y).1 ≤ x := by
  have hp := sorted_pw.1 hw.sorted
  rw [band_pos h h1 h2, bandGo_1]
  refine and_congr_right fun _ => ⟨fun H y hy1 hy2 => ?_, fun H s hs => ?_⟩
  · obtain ⟨a1, a2, a3⟩ := fN_spec hw (show -far ≤ y by omega)
    obtain ⟨b1, b2, b3⟩ := fN_spec hw h1
    refine H (gN sh (fN sh y)) ((mem_tw (hp.drop)  _).2 ⟨mem_drop_iff.2 ⟨fN sh y, ?_, a1, rfl⟩, by omega⟩)
    rcases Nat.lt_or_ge (fN sh y) (fN sh a) with c | c
    · have := a3 _ c b1; omega
    · exact c
  · obtain ⟨hs1, hs2⟩ := (mem_tw (hp.drop) s).1 hs
    obtain ⟨i, i1, i2, rfl⟩ := mem_drop_iff.1 hs1
    obtain ⟨b1, b2, b3⟩ := fN_spec hw h1
    rcases Nat.lt_or_eq_of_le i1 with c | c
    · have h3 := b3 i c i2
      have e : fN sh (gN sh i).top = i := fN_uniq hw i2 (Int.le_refl _) fun hh => hw.lt hh (by omega)
      have := H (gN sh i).top (by omega) hs2
      unfold Bd at this; rw [e] at this; exact this
    · rw [← c]; exact H a (Int.le_refl _) h
theorem band_2 {sh : List Shelf} (hw : WF sh) {a b : Int} (h : a < b) (h1 : -far ≤ a) (h2 : b ≤ 9000000000000000000) (x : Int) : x ≤ (band sh a b).2 ↔ x ≤ far ∧ ∀ y, a ≤ y → y < b → x ≤ (Bd sh y).2 := by
  have hp := sorted_pw.1 hw.sorted
  rw [band_pos h h1 h2, bandGo_2]
  refine and_congr_right fun _ => ⟨fun H y hy1 hy2 => ?_, fun H s hs => ?_⟩
  · obtain ⟨a1, a2, a3⟩ := fN_spec hw (show -far ≤ y by omega)
    obtain ⟨b1, b2, b3⟩ := fN_spec hw h1
    refine H (gN sh (fN sh y)) ((mem_tw (hp.drop)  _).2 ⟨mem_drop_iff.2 ⟨fN sh y, ?_, a1, rfl⟩, by omega⟩)
    rcases Nat.lt_or_ge (fN sh y) (fN sh a) with c | c
    · have := a3 _ c b1; omega
    · exact c
  · obtain ⟨hs1, hs2⟩ := (mem_tw (hp.drop) s).1 hs
    obtain ⟨i, i1, i2, rfl⟩ := mem_drop_iff.1 hs1
    obtain ⟨b1, b2, b3⟩ := fN_spec hw h1
    rcases Nat.lt_or_eq_of_le i1 with c | c
    · have h3 := b3 i c i2
      have e : fN sh (gN sh i).top = i := fN_uniq hw i2 (Int.le_refl _) fun hh => hw.lt hh (by omega)
      have := H (gN sh i).top (by omega) hs2
      unfold Bd at this; rw [e] at this; exact this
    · rw [← c]; exact H a (Int.le_refl _) h

/-! Where floats stand: numbers of shelves. -/
structure NR (f : Flt) : Prop where
  ok : OKf f
  l : -562949953421312 ≤ f.box.l ∧ f.box.l ≤ 562949953421312
  t : -562949953421312 ≤ f.box.t ∧ f.box.t ≤ 562949953421312
  r : -562949953421312 ≤ f.box.r ∧ f.box.r ≤ 562949953421312
  b : -562949953421312 ≤ f.box.b ∧ f.box.b ≤ 562949953421312
theorem nr_of {f : Flt} (h : nearF f = true) : NR f := by
  obtain ⟨h1, h2, h3, h4, h5⟩ := near_ok h
  exact ⟨h1, h2, h3, h4, h5⟩
/-- Bounds of a row, by the floats. -/
def bL (fl : List Flt) (y : Int) : Int := fl.foldl (fun a f => if full f.box.l f.box.t f.box.r f.box.b = true ∧ f.side = 1 ∧ f.box.t ≤ y ∧ y < f.box.b then max a f.box.r else a) (-far)
def bR (fl : List Flt) (y : Int) : Int := fl.foldl (fun a f => if full f.box.l f.box.t f.box.r f.box.b = true ∧ f.side = 2 ∧ f.box.t ≤ y ∧ y < f.box.b then min a f.box.l else a) far
theorem fold_snoc {P : List Flt → Prop} (h0 : P []) (hs : ∀ fl f, P fl → P (fl ++ [f])) : ∀ fl, P fl := by
  intro fl
  have : ∀ n (l : List Flt), l.length = n → P l := by
    intro n
    induction n with
    | zero => intro l h; rw [List.eq_nil_of_length_eq_zero h]; exact h0
    | succ n ih =>
      intro l h
      have hne : l ≠ [] := fun e => by rw [e] at h; simp at h
      rw [← List.dropLast_concat_getLast hne]
      exact hs _ _ (ih _ (by rw [List.length_dropLast]; omega))
  exact this _ fl rfl
theorem bd_fl : ∀ fl : List Flt, (∀ f ∈ fl, OKf f) → WF (shOf fl) ∧ ∀ y, -far ≤ y → Bd (shOf fl) y = (bL fl y, bR fl y) := by
  refine fold_snoc ?_ ?_
  · intro _
    refine ⟨wf0, fun y hy => ?_⟩
    have : fN [⟨-far, -far, far⟩] y = 0 := fN_uniq wf0 (by simp) (by exact hy) (fun h => by simp at h)
    show Bd [⟨-far, -far, far⟩] y = (-far, far)
    unfold Bd; rw [this]; rfl
  · intro fl f ih ho
    obtain ⟨w1, w2⟩ := ih fun g hg => ho g (by simp [hg])
    have hf := ho f (by simp)
    rw [shOf_snoc]
    obtain ⟨a1, a2, a3⟩ := add_ok (side := f.side) (l := f.box.l) (r := f.box.r) w1 hf.t hf.b
    refine ⟨a1, fun y hy => ?_⟩
    rw [a3 y hy, w2 y hy]
    have e1 : bL (fl ++ [f]) y = if full f.box.l f.box.t f.box.r f.box.b = true ∧ f.side = 1 ∧ f.box.t ≤ y ∧ y < f.box.b then max (bL fl y) f.box.r else bL fl y := by simp [bL, List.foldl_append]
    have e2 : bR (fl ++ [f]) y = if full f.box.l f.box.t f.box.r f.box.b = true ∧ f.side = 2 ∧ f.box.t ≤ y ∧ y < f.box.b then min (bR fl y) f.box.l else bR fl y := by simp [bR, List.foldl_append]
    rw [e1, e2]
    rcases hf.side with hs | hs
    · have hb : sideB f.side = true := by unfold sideB; simp [hs]
      rw [hb, Bool.and_true]
      by_cases c : full f.box.l f.box.t f.box.r f.box.b = true ∧ f.box.t ≤ y ∧ y < f.box.b
      · rw [if_pos c, if_pos ⟨c.1, hs, c.2⟩, if_neg (by rw [hs]; simp)]
        unfold upS; simp [hs]
      · rw [if_neg c, if_neg (fun h => c ⟨h.1, h.2.2⟩), if_neg (by rw [hs]; simp)]
    · have hb : sideB f.side = true := by unfold sideB; simp [hs]
      rw [hb, Bool.and_true]
      by_cases c : full f.box.l f.box.t f.box.r f.box.b = true ∧ f.box.t ≤ y ∧ y < f.box.b
      · rw [if_pos c, if_neg (by rw [hs]; simp), if_pos ⟨c.1, hs, c.2⟩]
        unfold upS; simp [hs]
      · rw [if_neg c, if_neg (by rw [hs]; simp), if_neg (fun h => c ⟨h.1, h.2.2⟩)]
theorem bL_rng : ∀ fl : List Flt, (∀ f ∈ fl, NR f) → ∀ y, -far ≤ bL fl y ∧ bL fl y ≤ 562949953421312 := by
  refine fold_snoc ?_ ?_
  · intro _ y; show -far ≤ -far ∧ -far ≤ _; unfold far; omega
  · intro fl f ih ho y
    have h1 := ih (fun g hg => ho g (by simp [hg])) y
    have hf := ho f (by simp)
    have e1 : bL (fl ++ [f]) y = if full f.box.l f.box.t f.box.r f.box.b = true ∧ f.side = 1 ∧ f.box.t ≤ y ∧ y < f.box.b then max (bL fl y) f.box.r else bL fl y := by simp [bL, List.foldl_append]
    rw [e1]
    have := hf.r
    split <;> omega
theorem bR_rng : ∀ fl : List Flt, (∀ f ∈ fl, NR f) → ∀ y, -562949953421312 ≤ bR fl y ∧ bR fl y ≤ far := by
  refine fold_snoc ?_ ?_
  · intro _ y; show _ ≤ far ∧ far ≤ far; unfold far; omega
  · intro fl f ih ho y
    have h1 := ih (fun g hg => ho g (by simp [hg])) y
    have hf := ho f (by simp)
    have e1 : bR (fl ++ [f]) y = if full f.box.l f.box.t f.box.r f.box.b = true ∧ f.side = 2 ∧ f.box.t ≤ y ∧ y < f.box.b then min (bR fl y) f.box.l else bR fl y := by simp [bR, List.foldl_append]
    rw [e1]
    have := hf.l
    split <;> omega
end Go.Proofs.Ytcmedheeafiogaa

namespace Go.Proofs.Ytcmedheeafiogaa
open Go.Sy
set_option linter.unusedVariables false
set_option linter.unusedSimpArgs false
/-! Places: rows, tops, the first one. -/
structure FL (fl : List Flt) : Prop where
  ok : OKl fl
  nr : ∀ f ∈ fl, NR f
theorem fl_of {l : List Flt} {m : Int} (h : bgB l m = true) (hm : m ≤ 1000) : FL l := by
  refine ⟨bgB_ok h hm, fun f hf => nr_of (near_all ?_ f hf)⟩
  unfold bgB at h
  exact (Bool.and_eq_true_iff.1 h).1
theorem rowE_eq {y h : Int} (hy : -far ≤ y ∧ y ≤ 9007199254740992) (hh : h ≤ 1125899906842624) : rowE y h = y + max h 1 := by
  unfold rowE; unfold far at hy; rw [W_id (by omega) (by omega)]
theorem bnd_1 {fl : List Flt} (h : FL fl) {y b : Int} (hy : -far ≤ y) (hb : y < b) (h2 : b ≤ 9000000000000000000) (x : Int) : (bnd fl y b).1 ≤ x ↔ -far ≤ x ∧ ∀ z, y ≤ z → z < b → bL fl z ≤ x := by
  obtain ⟨hw, hB⟩ := bd_fl fl h.ok.all
  rw [band_1 hw hb hy h2]
  refine and_congr_right fun _ => ⟨fun H z h1 h2 => ?_, fun H z h1 h2 => ?_⟩
  · have := H z h1 h2; rw [hB z (by omega)] at this; exact this
  · rw [hB z (by omega)]; exact H z h1 h2
theorem bnd_2 {fl : List Flt} (h : FL fl) {y b : Int} (hy : -far ≤ y) (hb : y < b) (h2 : b ≤ 9000000000000000000) (x : Int) : x ≤ (bnd fl y b).2 ↔ x ≤ far ∧ ∀ z, y ≤ z → z < b → x ≤ bR fl z := by
  obtain ⟨hw, hB⟩ := bd_fl fl h.ok.all
  rw [band_2 hw hb hy h2]
  refine and_congr_right fun _ => ⟨fun H z h1 h2 => ?_, fun H z h1 h2 => ?_⟩
  · have := H z h1 h2; rw [hB z (by omega)] at this; exact this
  · rw [hB z (by omega)]; exact H z h1 h2
theorem bnd_rng {fl : List Flt} (h : FL fl) {y b : Int} (hy : -far ≤ y) (hb : y < b) (h2 : b ≤ 9000000000000000000) :
    -far ≤ (bnd fl y b).1 ∧ (bnd fl y b).1 ≤ 562949953421312 ∧ -562949953421312 ≤ (bnd fl y b).2 ∧ (bnd fl y b).2 ≤ far := by
  refine ⟨((bnd_1 h hy hb h2 _).1 (Int.le_refl _)).1, (bnd_1 h hy hb h2 _).2 ⟨by unfold far; omega, fun z _ _ => (bL_rng fl h.nr z).2⟩, (bnd_2 h hy hb h2 _).2 ⟨by unfold far; omega, fun z _ _ => (bR_rng fl h.nr z).1⟩, ((bnd_2 h hy hb h2 _).1 (Int.le_refl _)).1⟩
theorem bnd_mono {fl : List Flt} (h : FL fl) {y b b' : Int} (hy : -far ≤ y) (hb : y < b) (hbb : b ≤ b') (h2 : b' ≤ 9000000000000000000) :
    (bnd fl y b).1 ≤ (bnd fl y b').1 ∧ (bnd fl y b').2 ≤ (bnd fl y b).2 := by
  obtain ⟨h3, h4⟩ := (bnd_1 h hy (by omega) h2 _).1 (Int.le_refl (bnd fl y b').1)
  obtain ⟨h5, h6⟩ := (bnd_2 h hy (by omega) h2 _).1 (Int.le_refl (bnd fl y b').2)
  exact ⟨(bnd_1 h hy hb (by omega) _).2 ⟨h3, fun z h1 h2 => h4 z h1 (by omega)⟩, (bnd_2 h hy hb (by omega) _).2 ⟨h5, fun z h1 h2 => h6 z h1 (by omega)⟩⟩

/-! Tops of shelves. -/
theorem mem_cutL {sh : List Shelf} {y : Int} {s : Shelf} (h : s ∈ cutL sh y) : s ∈ sh ∨ s.top = y := by
  unfold cutL at h
  cases c : cutB sh y with
  | true => rw [c] at h; exact .inl h
  | false =>
    rw [c] at h
    unfold insAt at h
    simp only [cond_false, List.mem_append, List.mem_cons] at h
    rcases h with h | rfl | h
    · exact .inl (List.mem_of_mem_take h)
    · exact .inr rfl
    · exact .inl (List.mem_of_mem_drop h)
theorem mem_mapR {i n : Nat} {f : Shelf → Shelf} (hf : ∀ s, (f s).top = s.top) {sh : List Shelf} {s : Shelf} (h : s ∈ mapR i n f sh) : ∃ s' ∈ sh, s.top = s'.top := by
  unfold mapR at h
  obtain ⟨k, hk, rfl⟩ := List.mem_mapIdx.1 h
  refine ⟨sh[k], List.getElem_mem hk, ?_⟩
  split
  · exact hf _
  · rfl
theorem mem_compact {sh : List Shelf} {s : Shelf} (h : s ∈ compact sh) : s ∈ sh := by
  cases sh with
  | nil => exact h
  | cons t r =>
    rcases List.mem_cons.1 h with rfl | h
    · simp
    · exact List.mem_cons_of_mem _ (cm_mem r t s h)
theorem mem_addS {side l t r b : Int} {sh : List Shelf} {s : Shelf} (h : s ∈ addS side l t r b sh) : (∃ s' ∈ sh, s.top = s'.top) ∨ s.top = t ∨ s.top = b := by
  unfold addS at h
  cases c : full l t r b && sideB side with
  | false => rw [c] at h; exact .inl ⟨s, h, rfl⟩
  | true =>
    rw [c] at h
    obtain ⟨s1, h1, e1⟩ := mem_mapR (upS_top side l r) (mem_compact h)
    rcases mem_cutL h1 with h2 | h2
    · rcases mem_cutL h2 with h3 | h3
      · exact .inl ⟨s1, h3, e1⟩
      · exact .inr (.inl (e1.trans h3))
    · exact .inr (.inr (e1.trans h2))
theorem top_fl : ∀ (fl : List Flt), ∀ s ∈ shOf fl, s.top = -far ∨ ∃ f ∈ fl, s.top = f.box.t ∨ s.top = f.box.b := by
  refine fold_snoc ?_ ?_
  · intro s hs
    have : s = ⟨-far, -far, far⟩ := by simpa [shOf] using hs
    subst this; exact .inl rfl
  · intro fl f ih s hs
    rw [shOf_snoc] at hs
    rcases mem_addS hs with ⟨s', h1, h2⟩ | h | h
    · rcases ih s' h1 with h3 | ⟨g, h3, h4⟩
      · exact .inl (h2.trans h3)
      · exact .inr ⟨g, by simp [h3], by rw [h2]; exact h4⟩
    · exact .inr ⟨f, by simp, .inl h⟩
    · exact .inr ⟨f, by simp, .inr h⟩
theorem top_le {fl : List Flt} (h : FL fl) {s : Shelf} (hs : s ∈ shOf fl) : s.top ≤ 562949953421312 := by
  rcases top_fl fl s hs with h1 | ⟨f, h1, h2 | h2⟩
  · rw [h1]; unfold far; omega
  · rw [h2]; exact (h.nr f h1).t.2
  · rw [h2]; exact (h.nr f h1).b.2
theorem tops_mem {sh : List Shelf} (hs : Sorted sh) {y t : Int} (h : t ∈ tops sh y) : y < t ∧ ∃ s ∈ sh, s.top = t := by
  unfold tops at h
  obtain ⟨s, h1, rfl⟩ := List.mem_map.1 h
  obtain ⟨i, h2, h3, rfl⟩ := mem_drop_iff.1 h1
  rw [gN_lt h3]
  exact ⟨(aftAt_spec hs y).2 i h3 h2, _, List.getElem_mem h3, rfl⟩
theorem tops_sorted {sh : List Shelf} (hs : Sorted sh) (y : Int) : (y :: tops sh y).Pairwise (· < ·) := by
  refine List.pairwise_cons.2 ⟨fun t ht => (tops_mem hs ht).1, ?_⟩
  unfold tops
  exact List.pairwise_map.2 ((sorted_pw.1 hs).drop)
theorem firstL_ge (p : Int → Bool) : ∀ (ts : List Int) (y : Int), (y :: ts).Pairwise (· < ·) → y ≤ firstL p y ts
  | [], y, _ => Int.le_refl _
  | t :: ts, y, h => by
    obtain ⟨h1, h2⟩ := List.pairwise_cons.1 h
    rw [firstL]
    cases p y with
    | true => exact Int.le_refl _
    | false => have := firstL_ge p ts t h2; have := h1 t (by simp); simp only [cond_false]; omega
theorem firstL_mono {p q : Int → Bool} : ∀ (ts : List Int) (y : Int), (y :: ts).Pairwise (· < ·) → (∀ z ∈ y :: ts, q z = true → p z = true) → firstL p y ts ≤ firstL q y ts
  | [], y, _, _ => Int.le_refl _
  | t :: ts, y, h, hpq => by
    obtain ⟨h1, h2⟩ := List.pairwise_cons.1 h
    rw [firstL, firstL]
    cases hp : p y with
    | true =>
      have := firstL_ge q ts t h2
      have := h1 t (by simp)
      cases q y <;> simp only [cond_true, cond_false] <;> omega
    | false =>
      have hq : q y = false := by
        cases hq : q y with
        | false => rfl
        | true => rw [hpq y (by simp) hq] at hp; cases hp
      rw [hq]
      exact firstL_mono ts t h2 fun z hz => hpq z (List.mem_cons_of_mem _ hz)
theorem firstL_mem (p : Int → Bool) : ∀ (ts : List Int) (y : Int), firstL p y ts ∈ y :: ts
  | [], y => by simp [firstL]
  | t :: ts, y => by
    rw [firstL]
    cases p y with
    | true => simp
    | false => exact List.mem_cons_of_mem _ (firstL_mem p ts t)
/-- Whichever place is asked lies in the range. -/
theorem path_rng {fl : List Flt} (h : FL fl) {y z : Int} (hy : -far ≤ y ∧ y ≤ 9007199254740992) (hz : z ∈ y :: tops (shOf fl) y) : -far ≤ z ∧ z ≤ 9007199254740992 := by
  rcases List.mem_cons.1 hz with rfl | hz
  · exact hy
  · obtain ⟨h1, s, h2, rfl⟩ := tops_mem (shOf_wf h.ok).sorted hz
    have := top_le h h2
    omega

/-! Where one starts. -/
theorem reach_le {e : Ed} {n m : Int} (h : e.at_ ≤ m) (k : n ≤ m) : (e.reach n).at_ ≤ m := by
  unfold Ed.reach
  cases (!e.there || decide (n > e.at_)) <;> simp only [cond_true, cond_false] <;> assumption
theorem last_le : ∀ fl : List Flt, (∀ f ∈ fl, NR f) → (lastE fl).at_ ≤ 562949953421312 := by
  refine fold_snoc ?_ ?_
  · intro _; show (0 : Int) ≤ _; omega
  · intro fl f ih ho
    rw [lastE_snoc]
    exact reach_le (ih fun g hg => ho g (by simp [hg])) (ho f (by simp)).t.2
theorem bot_le (k : Int) : ∀ fl : List Flt, (∀ f ∈ fl, NR f) → (botE k fl).at_ ≤ 562949953421312 := by
  refine fold_snoc ?_ ?_
  · intro _; show (0 : Int) ≤ _; omega
  · intro fl f ih ho
    have h1 := ih fun g hg => ho g (by simp [hg])
    rw [botE_snoc]
    cases decide (f.side = k) || decide (k = 3) with
    | true => exact reach_le h1 (ho f (by simp)).b.2
    | false => exact h1
theorem botS_le {fl : List Flt} (h : FL fl) (c : Int) : (botS fl c).at_ ≤ 562949953421312 := by
  unfold botS
  cases cRight c with
  | true => exact bot_le c fl h.nr
  | false => show (0 : Int) ≤ _; omega
theorem clearF_rng {fl : List Flt} (h : FL fl) (c y : Int) : y ≤ clearF fl c y ∧ clearF fl c y ≤ max y 562949953421312 := by
  have := botS_le h c
  unfold clearF
  cases (botS fl c).there <;> simp only [cond_true, cond_false] <;> omega
theorem startF_rng {fl : List Flt} (h : FL fl) (w : Wn) : w.y ≤ startF fl w ∧ startF fl w ≤ max w.y 562949953421312 := by
  have h1 := clearF_rng h w.clear w.y
  have h2 := last_le fl h.nr
  unfold startF
  cases (lastE fl).there <;> simp only [cond_true, cond_false] <;> omega
structure RW (v : Wn) : Prop where
  f : -281474976710656 ≤ v.from_ ∧ v.from_ ≤ 281474976710656
  t : -281474976710656 ≤ v.to ∧ v.to ≤ 281474976710656
  w : -281474976710656 ≤ v.w ∧ v.w ≤ 281474976710656
  h : -281474976710656 ≤ v.h ∧ v.h ≤ 281474976710656
  y : -281474976710656 ≤ v.y ∧ v.y ≤ 281474976710656
  side : v.side = 1 ∨ v.side = 2
  clear : 0 ≤ v.clear ∧ v.clear ≤ 3
  ft : v.from_ ≤ v.to
theorem rw_of {w : Wn} (h : rightB w = true) : RW w := by
  simp [rightB, in48] at h
  obtain ⟨h1, h2, h3, h4, h5, h6, h7, h8, h9⟩ := h
  exact ⟨by omega, by omega, by omega, by omega, by omega, h6, by omega, h9⟩
theorem start_rng {fl : List Flt} (h : FL fl) {w : Wn} (hr : RW w) : -281474976710656 ≤ startF fl w ∧ startF fl w ≤ 562949953421312 := by
  have := startF_rng h w
  have := hr.y
  omega
end Go.Proofs.Ytcmedheeafiogaa
