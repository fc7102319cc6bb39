/-
  The strict walk: a function of the program meets its contract, if what the walk leaves is shown.
-/
import Derived.Test.YtcmedheeafiogaaKb
namespace Go.Sy
set_option linter.unusedVariables false
set_option linter.unusedSimpArgs false
set_option linter.unusedSectionVars false

/-! ### 20. Values forced: the state stays small -/
def fN (n : Nat) (k : Nat → Prop) : Prop := match n with
  | 0 => k 0
  | m + 1 => k (m + 1)
theorem fN_eq (n : Nat) (k : Nat → Prop) : fN n k = k n := by cases n <;> rfl
def fNs : List Nat → (List Nat → Prop) → Prop
  | [], k => k []
  | n :: r, k => fN n fun n => fNs r fun r => k (n :: r)
theorem fNs_eq : ∀ (l : List Nat) (k : List Nat → Prop), fNs l k = k l
  | [], k => rfl
  | n :: r, k => by simp only [fNs, fN_eq, fNs_eq r]
def fPP (p : PP) (k : PP → Prop) : Prop := match p with
  | ⟨h, i, sz, f⟩ => fN h fun h => k ⟨h, i, sz, f⟩
theorem fPP_eq (p : PP) (k : PP → Prop) : fPP p k = k p := by cases p; simp only [fPP, fN_eq]
def fPPs : List PP → (List PP → Prop) → Prop
  | [], k => k []
  | p :: r, k => fPP p fun p => fPPs r fun r => k (p :: r)
theorem fPPs_eq : ∀ (l : List PP) (k : List PP → Prop), fPPs l k = k l
  | [], k => rfl
  | n :: r, k => by simp only [fPPs, fPP_eq, fPPs_eq r]
def fBX : BX → (BX → Prop) → Prop
  | .T, k => k .T
  | .F, k => k .F
  | .X b, k => k (.X b)
theorem fBX_eq (b : BX) (k : BX → Prop) : fBX b k = k b := by cases b <;> rfl
def fCV : CV → (CV → Prop) → Prop
  | .int κ n, k => k (.int κ n)
  | .bool b, k => fBX b fun b => k (.bool b)
  | .ptr p, k => fPP p fun p => k (.ptr p)
  | .nilp, k => k .nilp
  | .slice h l sz len, k => fN h fun h => k (.slice h l sz len)
  | .nils, k => k .nils
  | .fn f caps, k => fPPs caps fun caps => k (.fn f caps)
  | .nilf, k => k .nilf
theorem fCV_eq (v : CV) (k : CV → Prop) : fCV v k = k v := by cases v <;> simp only [fCV, fBX_eq, fPP_eq, fN_eq, fPPs_eq]
def fCVs : List CV → (List CV → Prop) → Prop
  | [], k => k []
  | c :: r, k => fCV c fun c => fCVs r fun r => k (c :: r)
theorem fCVs_eq : ∀ (l : List CV) (k : List CV → Prop), fCVs l k = k l
  | [], k => rfl
  | n :: r, k => by simp only [fCVs, fCV_eq, fCVs_eq r]
def fPV : PV → (PV → Prop) → Prop
  | .one c, k => fCV c fun c => k (.one c)
  | .agg l, k => fCVs l fun l => k (.agg l)
theorem fPV_eq (v : PV) (k : PV → Prop) : fPV v k = k v := by cases v <;> simp only [fPV, fCV_eq, fCVs_eq]
def fPVs : List PV → (List PV → Prop) → Prop
  | [], k => k []
  | c :: r, k => fPV c fun c => fPVs r fun r => k (c :: r)
theorem fPVs_eq : ∀ (l : List PV) (k : List PV → Prop), fPVs l k = k l
  | [], k => rfl
  | n :: r, k => by simp only [fPVs, fPV_eq, fPVs_eq r]
def fSV : SV → (SV → Prop) → Prop
  | .unk, k => k .unk
  | .und, k => k .und
  | .v p, k => fPV p fun p => k (.v p)
  | .tup l, k => fPVs l fun l => k (.tup l)
theorem fSV_eq (v : SV) (k : SV → Prop) : fSV v k = k v := by cases v <;> simp only [fSV, fPV_eq, fPVs_eq]
def fCh (c : Chunk) (k : Chunk → Prop) : Prop := match c with
  | .cells T l => fCVs l fun l => k (.cells T l)
  | .rows T e xs => k (.rows T e xs)
  | .view e xs => k (.view e xs)
  | .res R st => k (.res R st)
theorem fCh_eq (c : Chunk) (k : Chunk → Prop) : fCh c k = k c := by cases c <;> simp only [fCh, fCVs_eq]
def fOC (c : Option Chunk) (k : Option Chunk → Prop) : Prop := match c with
  | none => k none
  | some c => fCh c fun c => k (some c)
theorem fOC_eq (c : Option Chunk) (k : Option Chunk → Prop) : fOC c k = k c := by cases c <;> simp only [fOC, fCh_eq]
def fU : List (Nat × Option Chunk) → (List (Nat × Option Chunk) → Prop) → Prop
  | [], k => k []
  | (n, c) :: r, k => fN n fun n => fOC c fun c => fU r fun r => k ((n, c) :: r)
theorem fU_eq : ∀ (l : List (Nat × Option Chunk)) (k : List (Nat × Option Chunk) → Prop), fU l k = k l
  | [], k => rfl
  | (n, c) :: r, k => by simp only [fU, fN_eq, fOC_eq, fU_eq r]
def fHs : List (Option Chunk) → (List (Option Chunk) → Prop) → Prop
  | [], k => k []
  | c :: r, k => fOC c fun c => fHs r fun r => k (c :: r)
theorem fHs_eq : ∀ (l : List (Option Chunk)) (k : List (Option Chunk) → Prop), fHs l k = k l
  | [], k => rfl
  | c :: r, k => by simp only [fHs, fOC_eq, fHs_eq r]
def fFr : List (Nat × SV) → (List (Nat × SV) → Prop) → Prop
  | [], k => k []
  | (n, c) :: r, k => fSV c fun c => fFr r fun r => k ((n, c) :: r)
theorem fFr_eq : ∀ (l : List (Nat × SV)) (k : List (Nat × SV) → Prop), fFr l k = k l
  | [], k => rfl
  | (n, c) :: r, k => by simp only [fFr, fSV_eq, fFr_eq r]

/-- A length as a closed number. -/
def lenK {α : Type _} : List α → Nat → (Nat → Prop) → Prop
  | [], n, k => k n
  | _ :: r, n, k => lenK r (n + 1) k
theorem lenK_eq {α : Type _} : ∀ (l : List α) (n : Nat) (k : Nat → Prop), lenK l n k = k (n + l.length)
  | [], n, k => rfl
  | _ :: r, n, k => by rw [lenK, lenK_eq r, List.length_cons, show n + 1 + r.length = n + (r.length + 1) by omega]

/-! ### 21. What the walk stops at -/
structure CndL (cs : List Prop) (K : Prop) : Prop where
  c : ∀ c ∈ cs, c
  k : K
theorem cnd {c : Prop} {cs : List Prop} {K : Prop} (h : c) (k : CndL cs K) : CndL (c :: cs) K := ⟨List.forall_mem_cons.2 ⟨h, k.c⟩, k.k⟩
theorem cnd0 {K : Prop} (k : K) : CndL [] K := ⟨fun c h => absurd h (List.not_mem_nil), k⟩
structure Br (b : Bool) (p q : Prop) : Prop where
  t : b = true → p
  f : b = false → q
theorem Br.get {b : Bool} {p q r : Prop} (h : Br b p q) (hp : b = true → p → r) (hq : b = false → q → r) : r := by
  cases b with
  | true => exact hp rfl (h.t rfl)
  | false => exact hq rfl (h.f rfl)
/-- No condition: no stop. -/
def cndL (cs : List Prop) (K : Prop) : Prop := match cs with
  | [] => K
  | c :: cs => CndL (c :: cs) K
theorem cndL_iff {cs : List Prop} {K : Prop} : cndL cs K ↔ (∀ c ∈ cs, c) ∧ K := by
  cases cs with
  | nil => simp [cndL]
  | cons c cs => exact ⟨fun h => ⟨h.c, h.k⟩, fun h => ⟨h.1, h.2⟩⟩

/-- The names that are handed over: those of the arguments, then those that stand in what these tell. -/
def nmPPs : List PP → List Nat
  | [] => []
  | ⟨h, _, _, _⟩ :: r => h :: nmPPs r
def nmCVs : List CV → List Nat
  | [] => []
  | .ptr ⟨h, _, _, _⟩ :: r => h :: nmCVs r
  | .slice h _ _ _ :: r => h :: nmCVs r
  | .fn _ caps :: r => nmPPs caps ++ nmCVs r
  | _ :: r => nmCVs r
def nmPVs : List PV → List Nat
  | [] => []
  | .one c :: r => nmCVs [c] ++ nmPVs r
  | .agg l :: r => nmCVs l ++ nmPVs r
def memN (n : Nat) : List Nat → Bool
  | [] => false
  | m :: r => match Nat.beq m n with
    | true => true
    | false => memN n r
def useGo (hp : HP) : Nat → List Nat → List Nat → List Nat
  | 0, _, acc => acc
  | _ + 1, [], acc => acc
  | k + 1, n :: r, acc => match memN n acc with
    | true => useGo hp k r acc
    | false => match hp n with
      | some (.cells _ l) => useGo hp k (r ++ nmCVs l) (acc ++ [n])
      | _ => useGo hp k r (acc ++ [n])
def useOf (hp : HP) (args : List PV) : List Nat := useGo hp 60 (nmPVs args) []

def updK (hp : HP) (u : List (Nat × Option Chunk)) (k : HP → Prop) : Prop := match u with
  | [] => k hp
  | q :: r => k (updL hp (q :: r))
theorem updK_eq (hp : HP) (u : List (Nat × Option Chunk)) (k : HP → Prop) : updK hp u k = k (updL hp u) := by cases u <;> rfl

def putK (dst : Option Tmp) (v : SV) (fr : Nat → SV) (k : (Nat → SV) → Prop) : Prop := match dst with
  | none => k fr
  | some d => k (upd fr d v)
theorem putK_put (dst : Option Tmp) (v : SV) (fr : Nat → SV) (hp : HP) (nx : Nat) (k : (Nat → SV) → Prop) : putK dst v fr k = k (St.put ⟨fr, hp, nx⟩ dst v).fr := by cases dst <;> rfl
theorem putK_fr (dst : Option Tmp) (v : SV) (fr : Nat → SV) (k : (Nat → SV) → Prop) : putK dst v fr k = k (putFr fr dst v) := by cases dst <;> rfl
theorem put_hp (s : St) (dst : Option Tmp) (v : SV) : (s.put dst v).hp = s.hp := by cases dst <;> rfl
theorem put_nx (s : St) (dst : Option Tmp) (v : SV) : (s.put dst v).nx = s.nx := by cases dst <;> rfl

abbrev Kt := (Nat → SV) → HP → Nat → Prop
abbrev Kx := SX → (Nat → SV) → HP → Nat → Prop
section
variable {P : Program} {tab : Tab} {nt n0 : Nat} (C : Cx P tab nt n0)
/-- A call, with the names that are handed over. -/
structure XCall (f : FuncId) (args : List PV) (use : List Nat) (s : St) (K : SV → St → Prop) : Prop where
  out : CallStop C f args s K

def xOp (o : Oper) (fr : Nat → SV) (hp : HP) (nx : Nat) (K : Kt) : Prop := match dstOK nt o.dst with
  | false => False
  | true => match callOf (opv fr) o.op with
    | some (f, args) => fPVs args fun args => fNs (useOf hp args) fun use => XCall C f args use ⟨fr, hp, nx⟩ fun res s' => match s' with
      | ⟨fr, hp, nx⟩ => putK o.dst res fr fun fr => K fr hp nx
    | none => match eff tab (opv fr) hp nx o.op with
      | some e => fSV e.val fun v => fU e.upd fun u => fN nx fun nx => putK o.dst v fr fun fr => cndL e.conds (updK hp u fun hp => K fr hp (nx + 1))
      | none => OpStop C o ⟨fr, hp, nx⟩ fun s' => match s' with
        | ⟨fr, hp, nx⟩ => K fr hp nx

abbrev Rest := (Nat → SV) → HP → Nat → Kt → Prop
def xOps1 (ops : Array Oper) (o : Oper) (rest : Rest) : Rest := fun fr hp nx K => match guardS ops fr o with
    | .yes => xOp C o fr hp nx fun fr hp nx => rest fr hp nx K
    | .no => match dstOK nt o.dst with
      | true => putK o.dst .und fr fun fr => rest fr hp nx K
      | false => False
    | .fork d b want => match dstOK nt o.dst with
      | true => Br b
        (match want with
          | true => xOp C o (upd fr d (sbool .T)) hp nx fun fr hp nx => rest fr hp nx K
          | false => putK o.dst .und (upd fr d (sbool .T)) fun fr => rest fr hp nx K)
        (match want with
          | false => xOp C o (upd fr d (sbool .F)) hp nx fun fr hp nx => rest fr hp nx K
          | true => putK o.dst .und (upd fr d (sbool .F)) fun fr => rest fr hp nx K)
      | false => False
    | .bad => False
/-- By the recursor itself: the kernel's steps and Lean's are the same. -/
def xOps (ops : Array Oper) (l : List Oper) : Rest := List.rec (motive := fun _ => Rest) (fun fr hp nx K => K fr hp nx) (fun o _ rest => xOps1 C ops o rest) l

abbrev RestC := (Nat → SV) → HP → Nat → Kx → Prop
def xSeq (a b : RestC) : RestC := fun fr hp nx Q => a fr hp nx fun e fr hp nx => match e with
    | .normal => b fr hp nx Q
    | .exit i => Q (.exit i) fr hp nx
    | .ret => Q .ret fr hp nx
def xCond (c : Operand) (x y : RestC) : RestC := fun fr hp nx Q => match opv fr c with
    | .v (.one (.bool .T)) => x fr hp nx Q
    | .v (.one (.bool .F)) => y fr hp nx Q
    | .v (.one (.bool (.X b))) => Br b (x fr hp nx Q) (y fr hp nx Q)
    | _ => False
def xBlock (id : Nat) (c : RestC) : RestC := fun fr hp nx Q => c fr hp nx fun e fr hp nx => match e with
    | .exit i => match Nat.beq i id with
      | true => Q .normal fr hp nx
      | false => Q (.exit i) fr hp nx
    | .normal => Q .normal fr hp nx
    | .ret => Q .ret fr hp nx
def xRegion (id : Nat) (ops : Array Oper) (d : Bool) : RestC := fun fr hp nx Q => match d with
  | false => xOps C ops ops.toList fr hp nx fun fr hp nx => Q .normal fr hp nx
  | true => DrawStop C id ops ⟨fr, hp, nx⟩ fun s' => match s' with
    | ⟨fr, hp, nx⟩ => Q .normal fr hp nx
def xLoop (body : Code) : RestC := fun fr hp nx Q => LoopStop C body ⟨fr, hp, nx⟩ fun e s => match s with
    | ⟨fr, hp, nx⟩ => Q e fr hp nx
def xCode (c : Code) : RestC := Code.rec (motive := fun _ => RestC)
  (fun fr hp nx Q => Q .normal fr hp nx)
  (fun id ops d => xRegion C id ops d)
  (fun _ _ a b => xSeq a b)
  (fun c _ _ x y => xCond c x y)
  (fun id _ c => xBlock id c)
  (fun body _ => xLoop C body)
  (fun _ _ _ _ _ _ => fun _ _ _ _ => False)
  (fun id => fun fr hp nx Q => Q (.exit id) fr hp nx)
  (fun _ _ => fun _ _ _ _ => False)
  (fun _ => fun _ _ _ _ => False)
  (fun _ => fun _ _ _ _ => False)
  (fun fr hp nx Q => Q .ret fr hp nx)
  (fun _ => fun _ _ _ _ => False) c
end

section
variable {P : Program} {tab : Tab} {nt n0 : Nat} {C : Cx P tab nt n0}
theorem CallStop.mono {f : FuncId} {args : List PV} {s : St} {K K' : SV → St → Prop} (h : CallStop C f args s K) (hk : ∀ r s', K r s' → K' r s') : CallStop C f args s K' := by
  refine ⟨h.out.1, fun ν V fp w h1 h2 h3 h4 h5 => ?_⟩
  refine (h.out.2 ν V fp w h1 h2 h3 h4 h5).mono ?_
  rintro e w' ⟨res, s', ν', V', fp', a1, a2, a3, a4, a5, a6, a7, a8⟩
  exact ⟨res, s', ν', V', fp', a1, a2, a3, a4, a5, a6, a7, hk _ _ a8⟩
theorem QX.mono {Q Q' : SX → St → Prop} (h : ∀ e s, Q e s → Q' e s) : ∀ {e : Exit} {s : St}, QX Q e s → QX Q' e s := by
  intro e s hq
  cases e <;> first | exact h _ _ hq | exact hq
theorem LoopStop.mono {body : Code} {s : St} {Q Q' : SX → St → Prop} (h : LoopStop C body s Q) (hq : ∀ e s', Q e s' → Q' e s') : LoopStop C body s Q' := by
  refine ⟨fun a w hs => wp_mono (h.out a w hs) ?_⟩
  rintro e a' w' ⟨s', h1, h2⟩
  exact ⟨s', h1, QX.mono hq h2⟩
theorem DrawStop.mono {id : Nat} {ops : Array Oper} {s : St} {K K' : St → Prop} (h : DrawStop C id ops s K) (hk : ∀ s', K s' → K' s') : DrawStop C id ops s K' := by
  refine ⟨fun a w hs => wp_mono (h.out a w hs) ?_⟩
  rintro e a' w' ⟨s', h1, h2⟩
  refine ⟨s', h1, QX.mono ?_ h2⟩
  intro e s hh
  cases e <;> first | exact hk _ hh | exact hh

theorem xOp_v {o : Oper} {fr : Nat → SV} {hp : HP} {nx : Nat} {K : Kt} {K' : St → Prop} (h : xOp C o fr hp nx K) (hK : ∀ s, K s.fr s.hp s.nx → K' s) : vOp C o ⟨fr, hp, nx⟩ K' := by
  unfold xOp at h
  unfold vOp
  split at h
  · exact h.elim
  · rename_i hdst
    simp only [hdst]
    split at h
    · rename_i f args hcall
      simp only [hcall]
      rw [fPVs_eq, fNs_eq] at h
      refine h.out.mono fun r s' hk => hK _ ?_
      obtain ⟨fr', hp', nx'⟩ := s'
      dsimp only at hk ⊢
      rw [putK_put _ _ _ hp' nx'] at hk
      rw [put_hp, put_nx]
      exact hk
    · rename_i hcall
      simp only [hcall]
      split at h
      · rename_i e he
        simp only [he]
        rw [fSV_eq, fU_eq, fN_eq, putK_put _ _ _ (updL hp e.upd) (nx + 1), cndL_iff, updK_eq] at h
        rw [allC_iff]
        exact ⟨h.1, hK _ (by rw [put_hp, put_nx]; exact h.2)⟩
      · rename_i he
        simp only [he]
        exact ⟨fun ν V fp a w hs => let ⟨e, h1, h2⟩ := h.out ν V fp a w hs; ⟨e, h1, hK _ h2⟩⟩

theorem xOps_v {ops : Array Oper} {K : Kt} {K' : St → Prop} (hK : ∀ s, K s.fr s.hp s.nx → K' s) : ∀ (l : List Oper) (fr : Nat → SV) (hp : HP) (nx : Nat), xOps C ops l fr hp nx K → vOps C ops l ⟨fr, hp, nx⟩ K'
  | [], fr, hp, nx, h => hK _ h
  | o :: r, fr, hp, nx, h => by
    replace h : xOps1 C ops o (xOps C ops r) fr hp nx K := h
    unfold xOps1 at h
    unfold vOps
    have hput : ∀ fr, (putK o.dst .und fr fun fr => xOps C ops r fr hp nx K) → vOps C ops r (St.put ⟨fr, hp, nx⟩ o.dst .und) K' := fun fr h => by
      rw [putK_put _ _ _ hp nx] at h
      have := xOps_v hK r _ _ _ h
      have e : (⟨(St.put ⟨fr, hp, nx⟩ o.dst .und).fr, hp, nx⟩ : St) = St.put ⟨fr, hp, nx⟩ o.dst .und := by cases o.dst <;> rfl
      rwa [e] at this
    split at h
    · rename_i hg
      simp only [hg]
      exact xOp_v h fun s hs => xOps_v hK r _ _ _ hs
    · rename_i hg
      simp only [hg]
      split at h
      · rename_i hd; simp only [hd]; exact hput _ h
      · exact h.elim
    · rename_i d b want hg
      simp only [hg]
      split at h
      · rename_i hd
        simp only [hd]
        refine ⟨fun hb => ?_, fun hb => ?_⟩
        · have := h.t hb
          cases want with
          | true => exact xOp_v this fun s hs => xOps_v hK r _ _ _ hs
          | false => exact hput _ this
        · have := h.f hb
          cases want with
          | true => exact hput _ this
          | false => exact xOp_v this fun s hs => xOps_v hK r _ _ _ hs
      · exact h.elim
    · exact h.elim

theorem xCode_v : ∀ (c : Code) (fr : Nat → SV) (hp : HP) (nx : Nat) (Q : Kx) (Q' : SX → St → Prop), (∀ e s, Q e s.fr s.hp s.nx → Q' e s) → xCode C c fr hp nx Q → vCode C c ⟨fr, hp, nx⟩ Q' := by
  intro c
  induction c with
  | skip => intro fr hp nx Q Q' hQ h; exact hQ _ _ h
  | region id ops d =>
    intro fr hp nx Q Q' hQ h
    cases d with
    | false => exact xOps_v (fun s hs => hQ _ _ hs) _ _ _ _ h
    | true => exact DrawStop.mono h fun s hs => hQ _ _ hs
  | seq a b iha ihb =>
    intro fr hp nx Q Q' hQ h
    refine iha fr hp nx _ _ ?_ h
    intro e s hs
    cases e with
    | normal => exact ihb _ _ _ Q Q' hQ hs
    | exit i => exact hQ _ _ hs
    | ret => exact hQ _ _ hs
  | cond c x y ihx ihy =>
    intro fr hp nx Q Q' hQ h
    replace h : xCond c (xCode C x) (xCode C y) fr hp nx Q := h
    unfold xCond at h
    simp only [vCode]
    split at h <;> rename_i hc
    · simp only [hc]; exact ihx _ _ _ Q Q' hQ h
    · simp only [hc]; exact ihy _ _ _ Q Q' hQ h
    · simp only [hc]; exact ⟨fun hb => ihx _ _ _ Q Q' hQ (h.t hb), fun hb => ihy _ _ _ Q Q' hQ (h.f hb)⟩
    · exact h.elim
  | block id c ih =>
    intro fr hp nx Q Q' hQ h
    refine ih fr hp nx _ _ ?_ h
    intro e s hs
    cases e with
    | normal => exact hQ _ _ hs
    | exit i =>
      simp only at hs ⊢
      cases hb : Nat.beq i id with
      | true => rw [hb] at hs; exact hQ _ _ hs
      | false => rw [hb] at hs; exact hQ _ _ hs
    | ret => exact hQ _ _ hs
  | loop body ih => intro fr hp nx Q Q' hQ h; exact LoopStop.mono h fun e s hs => hQ _ _ hs
  | exit id => intro fr hp nx Q Q' hQ h; exact hQ _ _ h
  | ret => intro fr hp nx Q Q' hQ h; exact hQ _ _ h
  | _ => intros; rename_i h; exact h.elim
end
end Go.Sy

namespace Go.Sy
set_option linter.unusedVariables false
set_option linter.unusedSimpArgs false
set_option linter.unusedSectionVars false

/-! ### 22. A call -/
def tailU (σ : Nat → Nat) : Nat → List (Option Chunk) → List (Nat × Option Chunk)
  | _, [] => []
  | nx, none :: r => (nx, none) :: tailU σ (nx + 1) r
  | nx, some c :: r => (nx, some (c.ren σ)) :: tailU σ (nx + 1) r
def callU (σ : Nat → Nat) (nx : Nat) : List Nat → List (Option Chunk) → List (Option Chunk) → List (Nat × Option Chunk)
  | u :: us, none :: pr, _ :: po => callU σ nx us pr po
  | u :: us, some _ :: pr, none :: po => (u, none) :: callU σ nx us pr po
  | u :: us, some _ :: pr, some c :: po => (u, some (c.ren σ)) :: callU σ nx us pr po
  | [], [], po => tailU σ nx po
  | _, _, _ => []

theorem tailU_ge (σ : Nat → Nat) : ∀ (l : List (Option Chunk)) (nx : Nat) q, q ∈ tailU σ nx l → nx ≤ q.1
  | [], nx, q, h => by simp [tailU] at h
  | c :: r, nx, q, h => by
    cases c <;> simp only [tailU, List.mem_cons] at h <;> rcases h with rfl | h
    · exact Nat.le_refl _
    · exact Nat.le_of_succ_le (tailU_ge σ r _ q h)
    · exact Nat.le_refl _
    · exact Nat.le_of_succ_le (tailU_ge σ r _ q h)
theorem tailU_at (σ : Nat → Nat) : ∀ (l : List (Option Chunk)) (nx : Nat) (hp : HP) (g : Nat), nx ≤ g → (∀ g, nx ≤ g → hp g = none) → updL hp (tailU σ nx l) g = tailAt σ nx [] l g
  | [], nx, hp, g, hg, hn => by simp only [tailU, updL, tailAt]; exact hn g hg
  | c :: r, nx, hp, g, hg, hn => by
    have key : ∀ x : Option Chunk, updL (upd hp nx x) (tailU σ (nx + 1) r) g = match Nat.beq nx g with
        | true => x
        | false => tailAt σ (nx + 1) [] r g := by
      intro x
      cases hb : Nat.beq nx g with
      | true =>
        have := Nat.eq_of_beq_eq_true hb
        subst this
        simp only
        rw [updL_other (fun q hq e => by have := tailU_ge σ r _ q hq; omega), upd_same]
      | false =>
        have hne : nx ≠ g := fun e => by subst e; simp at hb
        simp only
        exact tailU_at σ r (nx + 1) _ g (by omega) (fun g' hg' => by rw [upd_other _ _ (by omega)]; exact hn g' (by omega))
    cases c with
    | none => simp only [tailU, updL, key, tailAt]; cases Nat.beq nx g <;> rfl
    | some c => simp only [tailU, updL, key, tailAt]; cases Nat.beq nx g <;> rfl
theorem callU_at (σ : Nat → Nat) (nx : Nat) : ∀ (use : List Nat) (pre post : List (Option Chunk)) (hp : HP), use.length = pre.length → pre.length ≤ post.length → nodupB use = true → ltB nx use = true → (∀ g, nx ≤ g → hp g = none) →
    ∀ g, updL hp (callU σ nx use pre post) g = match idx use g with
      | some h => match atL pre h with
        | some _ => match atL post h with
          | some c => some (c.ren σ)
          | none => none
        | none => hp g
      | none => match Nat.blt g nx with
        | true => hp g
        | false => tailAt σ nx pre post g
  | [], [], po, hp, _, _, _, _, hn, g => by
    simp only [callU, idx]
    cases hb : Nat.blt g nx with
    | true =>
      simp only
      have hlt : g < nx := by simpa [Nat.blt_eq] using hb
      rw [updL_other (fun q hq e => by have := tailU_ge σ po _ q hq; omega)]
    | false =>
      simp only
      have hge : nx ≤ g := by
        rcases Nat.lt_or_ge g nx with h | h
        · rw [← Nat.blt_eq] at h; rw [h] at hb; cases hb
        · exact h
      exact tailU_at σ po nx hp g hge hn
  | [], _ :: _, po, hp, h, _, _, _, _, g => by simp at h
  | _ :: _, [], po, hp, h, _, _, _, _, g => by simp at h
  | u :: us, p :: pr, [], hp, _, h, _, _, _, g => by simp at h
  | u :: us, p :: pr, q :: po, hp, h1, h2, hnd, hl, hn, g => by
    have hnd' : nodupB us = true ∧ idx us u = none := by
      simp only [nodupB] at hnd
      split at hnd
      · cases hnd
      · rename_i he; exact ⟨hnd, he⟩
    have hl' : u < nx ∧ ltB nx us = true := by
      simp only [ltB] at hl
      split at hl
      · rename_i he; exact ⟨by simpa [Nat.blt_eq] using he, hl⟩
      · cases hl
    have ih := fun hp' hn' => callU_at σ nx us pr po hp' (by simpa using h1) (by simpa using h2) hnd'.1 hl'.2 hn' g
    have htail : tailAt σ nx (p :: pr) (q :: po) g = tailAt σ nx pr po g := by rw [tailAt]
    simp only [idx]
    have hidx : ∀ (x : Option Chunk), (match idx us g with
        | some h => match atL pr h with
          | some _ => match atL po h with
            | some c => some (c.ren σ)
            | none => none
          | none => upd hp u x g
        | none => match Nat.blt g nx with
          | true => upd hp u x g
          | false => tailAt σ nx pr po g) = match Nat.beq u g with
            | true => x
            | false => match idx us g with
              | some h => match atL pr h with
                | some _ => match atL po h with
                  | some c => some (c.ren σ)
                  | none => none
                | none => hp g
              | none => match Nat.blt g nx with
                | true => hp g
                | false => tailAt σ nx pr po g := by
      intro x
      cases hb : Nat.beq u g with
      | true =>
        have := Nat.eq_of_beq_eq_true hb
        subst this
        rw [hnd'.2]
        simp only [upd_same]
        rw [show Nat.blt u nx = true by rw [Nat.blt_eq]; exact hl'.1]
      | false =>
        have hne : u ≠ g := fun e => by subst e; simp at hb
        simp only [upd_other _ _ hne]
    have hnu : ∀ x, ∀ g, nx ≤ g → upd hp u x g = none := fun x g hg => by rw [upd_other _ _ (by omega)]; exact hn g hg
    cases p with
    | none =>
      simp only [callU]
      rw [ih hp hn]
      cases hb : Nat.beq u g with
      | true =>
        have := Nat.eq_of_beq_eq_true hb
        subst this
        simp only [hnd'.2, atL]
        rw [show Nat.blt u nx = true by rw [Nat.blt_eq]; exact hl'.1]
      | false =>
        simp only
        cases idx us g with
        | none => simp only [htail]
        | some h => simp only [atL]
    | some p =>
      cases q with
      | none =>
        simp only [callU, updL]
        rw [ih _ (hnu none), hidx]
        cases hb : Nat.beq u g with
        | true => simp only [atL]
        | false =>
          simp only
          cases idx us g with
          | none => simp only [htail]
          | some h => simp only [atL]
      | some q =>
        simp only [callU, updL]
        rw [ih _ (hnu _), hidx]
        cases hb : Nat.beq u g with
        | true => simp only [atL]
        | false =>
          simp only
          cases idx us g with
          | none => simp only [htail]
          | some h => simp only [atL]

section
variable {P : Program} {tab : Tab} {nt n0 : Nat} {C : Cx P tab nt n0}
/-- What follows a call. -/
def xCont (use : List Nat) (pre : List (Option Chunk)) (fr : Nat → SV) (hp : HP) (nx : Nat) (K : SV → St → Prop) (res : SV) (post : List (Option Chunk)) : Prop :=
  fSV (res.ren (sgR use nx)) fun v => fU (callU (sgR use nx) nx use pre post) fun u => fN (lenAdd nx pre post) fun n => updK hp u fun hp => K v ⟨fr, hp, n⟩
theorem xcallR {f : FuncId} {args args0 : List PV} {fr : Nat → SV} {hp : HP} {nx : Nat} {K : SV → St → Prop} {pre : List (Option Chunk)} {R : SV → List (Option Chunk) → Prop} (T : Tri P f args0 pre R) {use : List Nat}
    (hl : ltB nx use = true) (hnd : nodupB use = true) (hargs : args = args0.map (PV.ren (sg use nx))) (hpre : preB hp (sg use nx) pre use)
    (hpost : ∀ res post, R res post → xCont use pre fr hp nx K res post) : XCall C f args use ⟨fr, hp, nx⟩ K := by
  refine ⟨?_⟩
  have key : (∀ g, nx ≤ g → hp g = none) → CallStop C f args ⟨fr, hp, nx⟩ K := by
    intro hn
    refine call_rule T use hl hnd hargs hpre fun res post hR hlen => ?_
    have h := hpost res post hR
    unfold xCont at h
    rw [fSV_eq, fU_eq, fN_eq, updK_eq] at h
    have e : mergeL use pre hp nx post = updL hp (callU (sgR use nx) nx use pre post) := by
      funext g
      rw [callU_at (sgR use nx) nx use pre post hp (preB_ok hpre).1.symm hlen hnd hl hn g]
      rfl
    show K _ ⟨fr, mergeL use pre hp nx post, lenAdd nx pre post⟩
    rw [e]
    exact h
  refine ⟨T.1, fun ν V fp w h1 h2 h3 h4 h5 => ?_⟩
  refine (key fun g hg => ?_).out.2 ν V fp w h1 h2 h3 h4 h5
  cases hgc : hp g with
  | none => rfl
  | some c =>
    have := h3.dom g c hgc
    exact absurd this (Nat.not_lt.2 hg)
theorem xcall {f : FuncId} {args args0 : List PV} {fr : Nat → SV} {hp : HP} {nx : Nat} {K : SV → St → Prop} {pre post : List (Option Chunk)} {res : SV} (T : Tri P f args0 pre (fun r p => r = res ∧ p = post)) {use : List Nat}
    (hl : ltB nx use = true) (hnd : nodupB use = true) (hargs : args = args0.map (PV.ren (sg use nx))) (hpre : preB hp (sg use nx) pre use)
    (hpost : xCont use pre fr hp nx K res post) : XCall C f args use ⟨fr, hp, nx⟩ K :=
  xcallR T hl hnd hargs hpre fun r p h => by obtain ⟨rfl, rfl⟩ := h; exact hpost
end

/-! ### 23. Draws, call by call -/
structure Chk (b : Bool) (K : Prop) : Prop where
  c : b = true
  k : K
def guards (i : Nat) : List Oper → Bool
  | [] => false
  | o :: r => match o.guard with
    | some (j, _) => match Nat.beq j i with
      | true => true
      | false => guards i r
    | none => guards i r
structure DCall (P : Program) (f : FuncId) (args : List PV) (use : List Nat) (nb big : Nat) (K : CS → Prop) : Prop where
  out : ∃ cs, K cs

section
variable (P : Program) (tab : Tab) (nt : Nat) (ops : Array Oper) (base big : Nat)
abbrev Ke := (Nat → SV) → HP → Ent → Prop
def dstep (sc : Scr) (i : Nat) (o : Oper) (fr : Nat → SV) (hp : HP) (K : Ke) : Prop :=
  match deff P tab ops sc base big i o (maskF (slotsOf o.op.operands.toList ++ guardSlot ops o) fr) (maskH (Ent.inA base ⟨i, o, [], touch sc fr i o, []⟩) hp) with
  | some d => fSV d.val fun v => fU d.upd fun u => fNs (touch sc fr i o) fun A => fNs (keysOf u) fun W => fNs (slotsOf o.op.operands.toList ++ guardSlot ops o) fun L =>
    match keysIn base ⟨i, o, L, A, W⟩ u && (justB sc ⟨i, o, L, A, W⟩ && dstOK nt o.dst) with
      | true => cndL d.conds (putK o.dst v fr fun fr => updK hp u fun hp => K fr hp ⟨i, o, L, A, W⟩)
      | false => False
  | none => False

/-- The bool on which a later operation hangs is parted. -/
def gstep (r : List Oper) (cs : Option CS) (i : Nat) (o : Oper) (fr : Nat → SV) (hp : HP) (K : Ke) : Prop := match guards i r with
  | false => dstep P tab nt ops base big ⟨fun _ => none, fun _ => cs⟩ i o fr hp K
  | true => match deff P tab ops ⟨fun _ => none, fun _ => cs⟩ base big i o (maskF (slotsOf o.op.operands.toList ++ guardSlot ops o) fr) (maskH (Ent.inA base ⟨i, o, [], touch ⟨fun _ => none, fun _ => cs⟩ fr i o, []⟩) hp) with
    | some d => match d.val with
      | .v (.one (.bool (.X b))) => Br b (dstep P tab nt ops base big ⟨fun _ => some true, fun _ => cs⟩ i o fr hp K) (dstep P tab nt ops base big ⟨fun _ => some false, fun _ => cs⟩ i o fr hp K)
      | _ => dstep P tab nt ops base big ⟨fun _ => none, fun _ => cs⟩ i o fr hp K
    | none => False

abbrev RestD := Nat → (Nat → SV) → HP → ((Nat → SV) → HP → List Ent → Prop) → Prop
def xDraw1 (r : List Oper) (o : Oper) (rest : RestD) : RestD := fun i fr hp K => match guardS ops fr o with
    | .no => dstep P tab nt ops base big ⟨fun _ => none, fun _ => some ⟨[], [], [], .und, [], 0⟩⟩ i o fr hp fun fr hp e => rest (i + 1) fr hp fun fr hp E => K fr hp (e :: E)
    | .yes => match callOf (opv fr) o.op with
      | some (f, args) => fPVs args fun args => fNs (useOf hp args) fun use => DCall P f args use (base + 16 * i) big fun cs => gstep P tab nt ops base big r (some cs) i o fr hp fun fr hp e => rest (i + 1) fr hp fun fr hp E => K fr hp (e :: E)
      | none => gstep P tab nt ops base big r none i o fr hp fun fr hp e => rest (i + 1) fr hp fun fr hp E => K fr hp (e :: E)
    | _ => False
def xDraw (l : List Oper) : RestD := List.rec (motive := fun _ => RestD) (fun i fr hp K => K fr hp []) (fun o r rest => xDraw1 P tab nt ops base big r o rest) l
end

section
variable {P : Program} {tab : Tab} {nt n0 : Nat} {ops : Array Oper} {base big : Nat} {C : Cx P tab nt n0} (hok : TabOK P tab)
theorem deff_congr {sc sc' : Scr} {i : Nat} (hg : sc.gd i = sc'.gd i) (hc : sc.calls i = sc'.calls i) (o : Oper) (fr : Nat → SV) (hp : HP) : deff P tab ops sc base big i o fr hp = deff P tab ops sc' base big i o fr hp := by
  have h0 : deff0 P tab sc base big i o fr hp = deff0 P tab sc' base big i o fr hp := by unfold deff0; rw [hc]
  unfold deff
  rw [h0, hg]
theorem touch_congr {sc sc' : Scr} {i : Nat} (hc : sc.calls i = sc'.calls i) (fr : Nat → SV) (o : Oper) : touch sc fr i o = touch sc' fr i o := by unfold touch; rw [hc]
theorem justB_congr {sc sc' : Scr} {e : Ent} (hc : sc.calls e.i = sc'.calls e.i) : justB sc e = justB sc' e := by unfold justB; rw [hc]
theorem vDraw_congr {sc sc' : Scr} : ∀ (l : List Oper) (i : Nat) (s : SS) (K : SS → List Ent → Prop), (∀ j, i ≤ j → sc.gd j = sc'.gd j ∧ sc.calls j = sc'.calls j) → vDraw P tab nt ops sc base big i l s K → vDraw P tab nt ops sc' base big i l s K
  | [], i, s, K, _, h => h
  | o :: r, i, s, K, hc, h => by
    obtain ⟨h1, h2⟩ := hc i (Nat.le_refl _)
    unfold vDraw at h ⊢
    rw [touch_congr h2, deff_congr h1 h2] at h
    split at h
    · rename_i d hd
      try simp only [hd]
      rw [justB_congr (e := ⟨i, o, _, _, _⟩) h2] at h
      split at h
      · rename_i hk
        try simp only [hk]
        obtain ⟨hcs, h⟩ := allC_iff.1 h
        exact allC_iff.2 ⟨hcs, vDraw_congr r (i + 1) _ _ (fun j hj => hc j (by omega)) h⟩
      · exact h.elim
    · exact h.elim

theorem dstep_v {sc : Scr} {i : Nat} {o : Oper} {r : List Oper} {fr : Nat → SV} {hp : HP} {K : (Nat → SV) → HP → List Ent → Prop}
    (h : dstep P tab nt ops base big sc i o fr hp fun fr hp e => xDraw P tab nt ops base big r (i + 1) fr hp fun fr hp E => K fr hp (e :: E))
    (ih : ∀ (fr : Nat → SV) (hp : HP) (K : (Nat → SV) → HP → List Ent → Prop), xDraw P tab nt ops base big r (i + 1) fr hp K → ∃ sc, vDraw P tab nt ops sc base big (i + 1) r ⟨fr, hp⟩ fun s E => K s.fr s.hp E) :
    ∃ sc, vDraw P tab nt ops sc base big i (o :: r) ⟨fr, hp⟩ fun s E => K s.fr s.hp E := by
  unfold dstep at h
  split at h
  · rename_i d hd
    rw [fSV_eq, fU_eq, fNs_eq, fNs_eq, fNs_eq] at h
    split at h
    · rename_i hk
      obtain ⟨hcs, h⟩ := cndL_iff.1 h
      rw [putK_fr, updK_eq] at h
      obtain ⟨sc', h⟩ := ih _ _ _ h
      let sc2 : Scr := ⟨fun j => if j = i then sc.gd i else sc'.gd j, fun j => if j = i then sc.calls i else sc'.calls j⟩
      have e1 : sc2.gd i = sc.gd i := by simp [sc2]
      have e2 : sc2.calls i = sc.calls i := by simp [sc2]
      refine ⟨sc2, ?_⟩
      unfold vDraw
      rw [touch_congr e2, deff_congr e1 e2]
      dsimp only
      rw [hd]
      dsimp only
      rw [justB_congr (e := ⟨i, o, _, _, _⟩) e2]
      rw [hk]
      dsimp only
      refine allC_iff.2 ⟨hcs, ?_⟩
      refine vDraw_congr _ _ _ _ (fun j hj => ?_) h
      have : j ≠ i := by omega
      simp [sc2, this]
    · exact h.elim
  · exact h.elim

theorem gstep_v {cs : Option CS} {i : Nat} {o : Oper} {r : List Oper} {fr : Nat → SV} {hp : HP} {K : (Nat → SV) → HP → List Ent → Prop}
    (h : gstep P tab nt ops base big r cs i o fr hp fun fr hp e => xDraw P tab nt ops base big r (i + 1) fr hp fun fr hp E => K fr hp (e :: E))
    (ih : ∀ (fr : Nat → SV) (hp : HP) (K : (Nat → SV) → HP → List Ent → Prop), xDraw P tab nt ops base big r (i + 1) fr hp K → ∃ sc, vDraw P tab nt ops sc base big (i + 1) r ⟨fr, hp⟩ fun s E => K s.fr s.hp E) :
    ∃ sc, vDraw P tab nt ops sc base big i (o :: r) ⟨fr, hp⟩ fun s E => K s.fr s.hp E := by
  unfold gstep at h
  split at h
  · exact dstep_v h ih
  · split at h
    · split at h
      · exact h.get (fun _ h => dstep_v h ih) (fun _ h => dstep_v h ih)
      · exact dstep_v h ih
    · exact h.elim

theorem xDraw_v : ∀ (l : List Oper) (i : Nat) (fr : Nat → SV) (hp : HP) (K : (Nat → SV) → HP → List Ent → Prop), xDraw P tab nt ops base big l i fr hp K → ∃ sc, vDraw P tab nt ops sc base big i l ⟨fr, hp⟩ fun s E => K s.fr s.hp E
  | [], i, fr, hp, K, h => ⟨⟨fun _ => none, fun _ => none⟩, h⟩
  | o :: r, i, fr, hp, K, h => by
    have ih := xDraw_v r (i + 1)
    replace h : xDraw1 P tab nt ops base big r o (xDraw P tab nt ops base big r) i fr hp K := h
    unfold xDraw1 at h
    split at h
    · exact dstep_v h ih
    · split at h
      · rw [fPVs_eq, fNs_eq] at h
        obtain ⟨cs, h⟩ := h.out
        exact gstep_v h ih
      · exact gstep_v h ih
    · exact h.elim

include hok in
theorem xdraw_rule {id : Nat} {fr : Nat → SV} {hp : HP} {nx : Nat} {K : St → Prop}
    (h : fN (nx + 16 * ops.size) fun big => xDraw P tab nt ops nx big ops.toList 0 fr hp fun fr hp E => Chk (chk nx (ancL ops.toList []) [] E && backB 0 ops.toList) (K ⟨fr, hp, big⟩)) : DrawStop C id ops ⟨fr, hp, nx⟩ K := by
  rw [fN_eq] at h
  obtain ⟨sc, h⟩ := xDraw_v _ _ _ _ _ h
  refine draw_rule hok sc _ rfl ?_
  have : (fun (s : SS) (E : List Ent) => Chk (chk nx (ancL ops.toList []) [] E && backB 0 ops.toList) (K ⟨s.fr, s.hp, nx + 16 * ops.size⟩)) = fun s' E => (chk nx (ancL ops.toList []) [] E && backB 0 ops.toList) = true ∧ K ⟨s'.fr, s'.hp, nx + 16 * ops.size⟩ := by
    funext s E
    apply propext
    constructor
    · intro h; exact ⟨h.c, h.k⟩
    · intro h; exact ⟨h.1, h.2⟩
  rw [this] at h
  exact h

theorem dcall {f : FuncId} {args args0 : List PV} {use : List Nat} {nb big : Nat} {K : CS → Prop} {pre post : List (Option Chunk)} {res : SV} (T : Tri P f args0 pre (fun r p => r = res ∧ p = post)) (keep : Nat) (hargs : args = args0.map (PV.ren (sgD use nb big)))
    (h : Tri P f args0 pre (fun r p => r = res ∧ p = post) → K ⟨use, args0, pre, res, post, keep⟩) : DCall P f args use nb big K := ⟨_, h T⟩
theorem dcallR {f : FuncId} {args args0 : List PV} {use : List Nat} {nb big : Nat} {K : CS → Prop} {pre post : List (Option Chunk)} {res : SV} (T : Tri P f args0 pre (fun r p => r = res ∧ p = post)) (hargs : args = args0.map (PV.ren (sgD use nb big)))
    (h : Tri P f args0 pre (fun r p => r = res ∧ p = post) → K ⟨use, args0, pre, res, post, pre.length⟩) : DCall P f args use nb big K := ⟨_, h T⟩
end
end Go.Sy

namespace Go.Sy
set_option linter.unusedVariables false
set_option linter.unusedSimpArgs false
set_option linter.unusedSectionVars false

/-! ### 24. Equal as Go's values -/
def PPeq : PP → PP → Prop
  | ⟨h, i, sz, f⟩, ⟨h', i', sz', f'⟩ => h = h' ∧ i = i' ∧ sz = sz' ∧ f = f'
def CVeq : CV → CV → Prop
  | .int k a, .int k' b => match kindB k k' with
    | true => a = b
    | false => False
  | .bool b, .bool b' => b.v = b'.v
  | .ptr p, .ptr p' => PPeq p p'
  | .nilp, .nilp => True
  | .slice h l sz len, .slice h' l' sz' len' => h = h' ∧ l = l' ∧ sz = sz' ∧ len = len'
  | .nils, .nils => True
  | .fn f caps, .fn f' caps' => f = f' ∧ caps = caps'
  | .nilf, .nilf => True
  | _, _ => False
theorem CVeq_den : ∀ {a b : CV}, CVeq a b → ∀ ν, a.den ν = b.den ν := by
  intro a b h ν
  cases a <;> cases b <;> simp only [CVeq] at h <;> try exact h.elim
  · split at h
    · rename_i hk; rw [kindB_eq hk, h]
    · exact h.elim
  · simp only [CV.den, h]
  · rename_i p q
    cases p; cases q
    simp only [PPeq] at h
    obtain ⟨rfl, rfl, rfl, rfl⟩ := h
    rfl
  · rfl
  · obtain ⟨rfl, rfl, rfl, rfl⟩ := h; rfl
  · rfl
  · obtain ⟨rfl, rfl⟩ := h; rfl
  · rfl
def CVsEq : List CV → List CV → Prop
  | [], [] => True
  | a :: r, b :: s => CVeq a b ∧ CVsEq r s
  | _, _ => False
theorem CVsEq_den : ∀ {a b : List CV}, CVsEq a b → ∀ ν, a.map (CV.den ν) = b.map (CV.den ν)
  | [], [], _, ν => rfl
  | [], _ :: _, h, _ => h.elim
  | _ :: _, [], h, _ => h.elim
  | a :: r, b :: s, h, ν => by simp only [List.map_cons, CVeq_den h.1 ν, CVsEq_den h.2 ν]
def PVeq : PV → PV → Prop
  | .one a, .one b => CVeq a b
  | .agg a, .agg b => CVsEq a b
  | _, _ => False
theorem PVeq_den : ∀ {a b : PV}, PVeq a b → ∀ ν, a.den ν = b.den ν
  | .one a, .one b, h, ν => CVeq_den h ν
  | .agg a, .agg b, h, ν => by simp only [PV.den, CVsEq_den h ν]
  | .one _, .agg _, h, _ => h.elim
  | .agg _, .one _, h, _ => h.elim
def PVsEq : List PV → List PV → Prop
  | [], [] => True
  | a :: r, b :: s => PVeq a b ∧ PVsEq r s
  | _, _ => False
theorem PVsEq_den : ∀ {a b : List PV}, PVsEq a b → ∀ ν, a.map (PV.den ν) = b.map (PV.den ν)
  | [], [], _, ν => rfl
  | [], _ :: _, h, _ => h.elim
  | _ :: _, [], h, _ => h.elim
  | a :: r, b :: s, h, ν => by simp only [List.map_cons, PVeq_den h.1 ν, PVsEq_den h.2 ν]
def SVeq : SV → SV → Prop
  | .v a, .v b => PVeq a b
  | .tup a, .tup b => PVsEq a b
  | .und, .und => True
  | _, _ => False
theorem SVeq_den {a b : SV} (h : SVeq a b) : (∀ ν, a.den ν = b.den ν) ∧ a ≠ .unk := by
  cases a <;> cases b <;> simp only [SVeq] at h <;> try exact h.elim
  · exact ⟨fun _ => rfl, by simp⟩
  · exact ⟨fun ν => PVeq_den h ν, by simp⟩
  · exact ⟨fun ν => by simp only [SV.den, PVsEq_den h ν], by simp⟩
def ChEq : Chunk → Chunk → Prop
  | .cells T l, .cells T' l' => T = T' ∧ CVsEq l l'
  | c, c' => c = c'
theorem ChEq_sat {c c' : Chunk} (h : ChEq c c') {ν : Nat → Pl} {V : Nat → Prop} {p : Pl} {w : World} {F : Nat → Prop} (hs : c.sat ν V p w F) : c'.sat ν V p w F := by
  unfold ChEq at h
  split at h
  · obtain ⟨rfl, h⟩ := h
    simp only [Chunk.sat] at hs ⊢
    rw [← CVsEq_den h ν]; exact hs
  · subst h; exact hs

def preE (hp : HP) (σ : Nat → Nat) : List (Option Chunk) → List Nat → Prop
  | [], [] => True
  | none :: r, _ :: u => preE hp σ r u
  | some c :: r, g :: u => (match hp g with
    | some c' => ChEq c' (c.ren σ)
    | none => False) ∧ preE hp σ r u
  | _, _ => False
def frE (fr : Nat → SV) (σ : Nat → Nat) : List (Nat × SV) → Prop
  | [] => True
  | (k, v) :: r => SVeq (fr k) (v.ren σ) ∧ frE fr σ r

/-- Memory told in equal words. -/
def hp2 (hp : HP) (σ : Nat → Nat) (l : List (Option Chunk)) (u : List Nat) : HP := fun g => match idx u g with
  | some i => match hpL l i with
    | some c => some (c.ren σ)
    | none => hp g
  | none => hp g
theorem preE_len {hp : HP} {σ : Nat → Nat} : ∀ {l : List (Option Chunk)} {u : List Nat}, preE hp σ l u → l.length = u.length
  | [], [], _ => rfl
  | [], _ :: _, h => h.elim
  | _ :: _, [], h => by rename_i c r; cases c <;> exact h.elim
  | none :: r, _ :: u, h => by simp [preE_len (hp := hp) (σ := σ) (l := r) (u := u) h]
  | some c :: r, g :: u, h => by simp [preE_len (hp := hp) (σ := σ) (l := r) (u := u) h.2]
theorem preE_at {hp : HP} {σ : Nat → Nat} : ∀ {l : List (Option Chunk)} {u : List Nat}, preE hp σ l u → ∀ (i : Nat) g c, u[i]? = some g → hpL l i = some c → ∃ c', hp g = some c' ∧ ChEq c' (c.ren σ)
  | [], [], _, i, g, c, h, _ => by simp at h
  | [], _ :: _, h, _, _, _, _, _ => h.elim
  | _ :: _, [], h, _, _, _, _, _ => by rename_i c r _ _ _ _ _; cases c <;> exact h.elim
  | none :: r, _ :: u, h, i, g, c, h1, h2 => by
    cases i with
    | zero => simp [hpL] at h2
    | succ i => exact preE_at (l := r) (u := u) h i g c (by simpa using h1) (by simpa [hpL] using h2)
  | some x :: r, y :: u, h, i, g, c, h1, h2 => by
    cases i with
    | zero =>
      simp at h1; subst h1
      simp [hpL] at h2; subst h2
      have := h.1
      split at this
      · rename_i c' hc'; exact ⟨c', hc', this⟩
      · exact this.elim
    | succ i => exact preE_at (l := r) (u := u) h.2 i g c (by simpa using h1) (by simpa [hpL] using h2)
theorem preB_of {hp : HP} {σ : Nat → Nat} : ∀ {l : List (Option Chunk)} {u : List Nat}, l.length = u.length → (∀ (i : Nat) g c, u[i]? = some g → hpL l i = some c → hp g = some (c.ren σ)) → preB hp σ l u
  | [], [], _, _ => trivial
  | [], _ :: _, h, _ => by simp at h
  | _ :: _, [], h, _ => by simp at h
  | none :: r, g :: u, h, k => by
    simp only [preB]
    exact preB_of (by simpa using h) fun i g c h1 h2 => k (i + 1) g c (by simpa using h1) (by simpa [hpL] using h2)
  | some c :: r, g :: u, h, k => by
    simp only [preB]
    exact ⟨k 0 g c rfl rfl, preB_of (by simpa using h) fun i g c h1 h2 => k (i + 1) g c (by simpa using h1) (by simpa [hpL] using h2)⟩
theorem preE_B {hp : HP} {σ : Nat → Nat} {l : List (Option Chunk)} {u : List Nat} (hnd : nodupB u = true) (h : preE hp σ l u) : preB (hp2 hp σ l u) σ l u := by
  refine preB_of (preE_len h) fun i g c h1 h2 => ?_
  unfold hp2
  rw [nodup_idx hnd h1]
  simp only [h2]
theorem preE_holds {hp : HP} {σ : Nat → Nat} {l : List (Option Chunk)} {u : List Nat} (h : preE hp σ l u) {n : Nm} {ν : Nat → Pl} {V : Nat → Prop} {w : World} {fp : Nat → Nat → Prop} (H : Holds n ν V hp w fp) : Holds n ν V (hp2 hp σ l u) w fp := by
  have key : ∀ g c, hp2 hp σ l u g = some c → ∃ c', hp g = some c' ∧ (c' = c ∨ ChEq c' c) := by
    intro g c hg
    unfold hp2 at hg
    split at hg
    · rename_i i hi
      split at hg
      · rename_i c0 hc0
        simp at hg; subst hg
        obtain ⟨c', h1, h2⟩ := preE_at h i g c0 (idx_some hi) hc0
        exact ⟨c', h1, .inr h2⟩
      · exact ⟨c, hg, .inl rfl⟩
    · exact ⟨c, hg, .inl rfl⟩
  refine ⟨fun ν' hν g c hg => ?_, fun g hg => ?_, H.disj, H.low, H.nv, H.vlow, fun g c hg => ?_⟩
  · obtain ⟨c', h1, h2⟩ := key g c hg
    have := H.sat ν' hν g c' h1
    rcases h2 with rfl | h2
    · exact this
    · exact ChEq_sat h2 this
  · refine H.none g ?_
    cases hx : hp g with
    | none => rfl
    | some c =>
      unfold hp2 at hg
      split at hg
      · split at hg
        · cases hg
        · rw [hx] at hg; cases hg
      · rw [hx] at hg; cases hg
  · obtain ⟨c', h1, _⟩ := key g c hg
    exact H.dom g c' h1

def LeX (n0 : Nat) (fr : Nat → SV) (hp : HP) (nx : Nat) (l : List (Nat × SV)) (hs : List (Option Chunk)) (τ : List Nat) : Prop :=
  ltB nx τ = true ∧ nodupB τ = true ∧ pfxB n0 0 τ = true ∧ frE fr (sgR τ nx) l ∧ preE hp (sgR τ nx) hs τ
theorem frE_at {fr : Nat → SV} {σ : Nat → Nat} : ∀ {l : List (Nat × SV)}, frE fr σ l → ∀ i, frL l i ≠ .unk → SVeq (fr i) ((frL l i).ren σ)
  | [], _, i, hi => by simp [frL] at hi
  | (k, v) :: r, h, i, hi => by
    simp only [frL] at hi ⊢
    cases hb : Nat.beq k i with
    | true =>
      have := Nat.eq_of_beq_eq_true hb
      subst this
      exact h.1
    | false =>
      simp only [hb] at hi ⊢
      exact frE_at h.2 i hi

section
variable {P : Program} {tab : Tab} {nt n0 : Nat} {C : Cx P tab nt n0} (hok : TabOK P tab)
theorem weakenX {fr : Nat → SV} {hp : HP} {nx : Nat} {l : List (Nat × SV)} {hs : List (Option Chunk)} {τ : List Nat} (h : LeX n0 fr hp nx l hs τ) {a : Act} {w : World} (hsat : Satis C ⟨fr, hp, nx⟩ a w) : Satis C (stL l hs) a w := by
  obtain ⟨hl, hnd, hpx, hfr, hpre⟩ := h
  have hsg : sgR τ nx = sg τ nx := funext fun h => sgR_eq τ nx h
  rw [hsg] at hfr hpre
  obtain ⟨ν, V, fp, H⟩ := hsat
  obtain ⟨hpl, hpi⟩ := pfxB_ok hpx
  obtain ⟨fpc, hH, hbk, hft, hlen⟩ := weaken_core (s := ⟨fr, hp2 hp (sg τ nx) hs τ, nx⟩) hl hnd (preE_B hnd hpre) (preE_holds hpre H.hp)
  refine ⟨_, V, fpc, ?_, ?_, H.size, H.defers, ?_, hH, ?_⟩
  · intro h hh
    have : sg τ nx h = h := by unfold sg; rw [hpi h hh]; simp
    simp only [this]
    exact H.agree h hh
  · simp only [stL]; omega
  · intro ν' hν i hi
    obtain ⟨hb, hag⟩ := hbk ν' hν
    obtain ⟨h1, h2⟩ := SVeq_den (frE_at hfr i hi)
    have h3 := H.fr _ hag i h2
    rw [h3, h1, SV.den_ren, hb]
    rfl
  · exact ⟨H.ext.os, H.ext.tape, H.ext.output, H.ext.size, H.ext.same, fun b hb => H.ext.foot b (hft b hb), H.ext.vmono, H.ext.vfrom⟩

/-- Memory told otherwise, in a state. -/
theorem satis_hent {l : List (Nat × SV)} {hs hs2 : List (Option Chunk)} (h : HEnt hs hs2) {a : Act} {w : World} (hsat : Satis C (stL l hs) a w) : Satis C (stL l hs2) a w := by
  obtain ⟨ν, V, fp, H⟩ := hsat
  obtain ⟨ν', V', fp', h1, h2, h3, h4, h5⟩ := h.2 ν V w fp H.hp
  have hle : hs.length ≤ hs2.length := h.1
  refine ⟨ν', V', fp', H.agree.trans h1 (Lt.le H.le), Nat.le_trans H.le hle, H.size, H.defers, fun ν'' hν i hi => H.fr ν'' (h1.trans hν (Lt.le hle)) i hi, h2, ⟨H.ext.os, H.ext.tape, H.ext.output, H.ext.size, H.ext.same, fun b hb => H.ext.foot b (h3 b hb), fun b hb => h4 b (H.ext.vmono b hb), fun b hb => ?_⟩⟩
  rcases h5 b hb with h | h
  · exact H.ext.vfrom b h
  · exact (H.ext.foot b h).elim (fun h => .inr (.inl h)) (fun h => .inr (.inr h))
/-- A round that goes round again. -/
structure Rnd {X : Type} (C : Cx P tab nt n0) (Inv : X → Prop) (I : X → List (Nat × SV)) (J : X → List (Option Chunk)) (m : X → Nat) (x : X) (fr : Nat → SV) (hp : HP) (nx : Nat) : Prop where
  out : ∃ x', Inv x' ∧ m x' < m x ∧ ∀ a w, Satis C ⟨fr, hp, nx⟩ a w → Satis C (stL (I x') (J x')) a w
theorem rnd {X : Type} {Inv : X → Prop} {I : X → List (Nat × SV)} {J : X → List (Option Chunk)} {m : X → Nat} {x : X} {fr : Nat → SV} {hp : HP} {nx : Nat} (x' : X) (τ : List Nat) (h1 : Inv x') (h2 : m x' < m x)
    (a : ltB nx τ = true) (b : nodupB τ = true) (c : pfxB n0 0 τ = true) (h3 : frE fr (sgR τ nx) (I x')) (h4 : preE hp (sgR τ nx) (J x') τ) : Rnd C Inv I J m x fr hp nx := ⟨x', h1, h2, fun _ _ hs => weakenX ⟨a, b, c, h3, h4⟩ hs⟩
/-- The same, where memory is told otherwise in between: hs1, then hs2. -/
theorem rndH {X : Type} {Inv : X → Prop} {I : X → List (Nat × SV)} {J : X → List (Option Chunk)} {m : X → Nat} {x : X} {fr : Nat → SV} {hp : HP} {nx : Nat} (x' : X) (τ : List Nat) (hs1 hs2 : List (Option Chunk)) (τ2 : List Nat) (h1 : Inv x') (h2 : m x' < m x)
    (a : ltB nx τ = true) (b : nodupB τ = true) (c : pfxB n0 0 τ = true) (h3 : frE fr (sgR τ nx) (I x')) (h4 : preE hp (sgR τ nx) hs1 τ) (he : HEnt hs1 hs2)
    (a' : ltB hs2.length τ2 = true) (b' : nodupB τ2 = true) (c' : pfxB n0 0 τ2 = true) (h3' : frE (frL (I x')) (sgR τ2 hs2.length) (I x')) (h4' : preE (hpL hs2) (sgR τ2 hs2.length) (J x') τ2) : Rnd C Inv I J m x fr hp nx :=
  ⟨x', h1, h2, fun _ _ hs => weakenX (fr := frL (I x')) (hp := hpL hs2) ⟨a', b', c', h3', h4'⟩ (satis_hent he (weakenX ⟨a, b, c, h3, h4⟩ hs))⟩
include hok in
theorem xloop {X : Type} {body : Code} {fr : Nat → SV} {hp : HP} {nx : Nat} {Q : SX → St → Prop} (Inv : X → Prop) (I : X → List (Nat × SV)) (J : X → List (Option Chunk)) (m : X → Nat) (x0 : X) (τ0 : List Nat) (hi : Inv x0)
    (a : ltB nx τ0 = true) (b : nodupB τ0 = true) (c : pfxB n0 0 τ0 = true) (h3 : frE fr (sgR τ0 nx) (I x0)) (h4 : preE hp (sgR τ0 nx) (J x0) τ0)
    (hr : ∀ x, Inv x → fFr (I x) fun l => fHs (J x) fun hs => lenK hs 0 fun n => xCode C body (frL l) (hpL hs) n fun e fr hp nx => match e with
      | .normal => Rnd C Inv I J m x fr hp nx
      | .exit i => Q (.exit i) ⟨fr, hp, nx⟩
      | .ret => Q .ret ⟨fr, hp, nx⟩) : LoopStop C body ⟨fr, hp, nx⟩ Q := by
  refine ⟨fun a' w hs => ?_⟩
  refine wp_loop_ghost (fun k a w => ∃ x, Inv x ∧ m x = k ∧ Satis C (stL (I x) (J x)) a w) (m x0) ⟨x0, hi, rfl, weakenX ⟨a, b, c, h3, h4⟩ hs⟩ ?_
  rintro k a w ⟨x, hx, rfl, hsat⟩
  have h := hr x hx
  rw [fFr_eq, fHs_eq, lenK_eq, Nat.zero_add] at h
  have h := xCode_v body _ _ _ _ (fun e s => match e with
      | .normal => Rnd C Inv I J m x s.fr s.hp s.nx
      | .exit i => Q (.exit i) s
      | .ret => Q .ret s) (fun e s hh => by cases e <;> exact hh) h
  refine wp_mono (vCode_sound hok body _ _ a w h hsat) ?_
  rintro e a' w' ⟨s', h1, h2⟩
  cases e with
  | normal =>
    obtain ⟨x', hx', hm, hle⟩ := (show Rnd C Inv I J m x s'.fr s'.hp s'.nx from h2).out
    exact ⟨m x', hm, x', hx', rfl, hle _ _ h1⟩
  | exit id => exact ⟨s', h1, h2⟩
  | ret => exact ⟨s', h1, h2⟩
  | _ => exact h2.elim

include hok in
/-- The same, where memory is told otherwise ahead of the loop: hs1, then hs2. -/
theorem xloopH {X : Type} {body : Code} {fr : Nat → SV} {hp : HP} {nx : Nat} {Q : SX → St → Prop} (Inv : X → Prop) (I : X → List (Nat × SV)) (J : X → List (Option Chunk)) (m : X → Nat) (x0 : X) (τ0 : List Nat) (hs1 hs2 : List (Option Chunk)) (τ2 : List Nat) (I0 : List (Nat × SV)) (hi : Inv x0)
    (a : ltB nx τ0 = true) (b : nodupB τ0 = true) (c : pfxB n0 0 τ0 = true) (h3 : frE fr (sgR τ0 nx) I0) (h4 : preE hp (sgR τ0 nx) hs1 τ0) (he : HEnt hs1 hs2)
    (a' : ltB hs2.length τ2 = true) (b' : nodupB τ2 = true) (c' : pfxB n0 0 τ2 = true) (h3' : frE (frL I0) (sgR τ2 hs2.length) (I x0)) (h4' : preE (hpL hs2) (sgR τ2 hs2.length) (J x0) τ2)
    (hr : ∀ x, Inv x → fFr (I x) fun l => fHs (J x) fun hs => lenK hs 0 fun n => xCode C body (frL l) (hpL hs) n fun e fr hp nx => match e with
      | .normal => Rnd C Inv I J m x fr hp nx
      | .exit i => Q (.exit i) ⟨fr, hp, nx⟩
      | .ret => Q .ret ⟨fr, hp, nx⟩) : LoopStop C body ⟨fr, hp, nx⟩ Q := by
  refine ⟨fun a0 w hs => ?_⟩
  have h1 := weakenX (l := I0) (hs := hs1) ⟨a, b, c, h3, h4⟩ hs
  exact (xloop (hp := hpL hs2) (fr := frL I0) (nx := hs2.length) hok Inv I J m x0 τ2 hi a' b' c' h3' h4' hr).out a0 w (satis_hent he h1)

/-! ### 25. A function's contract -/
structure End (n0 : Nat) (v : SV) (hp : HP) (nx : Nat) (R : SV → List (Option Chunk) → Prop) : Prop where
  out : ∃ r post τ, R r post ∧ ltB nx τ = true ∧ nodupB τ = true ∧ pfxB n0 0 τ = true ∧ (∀ ν, v.den ν = (r.ren (sgR τ nx)).den ν) ∧ preE hp (sgR τ nx) post τ
theorem xend {n0 : Nat} {v : SV} {hp : HP} {nx : Nat} {R : SV → List (Option Chunk) → Prop} (τ : List Nat) (r : SV) (post : List (Option Chunk)) (hR : R r post) (h1 : ltB nx τ = true) (h2 : nodupB τ = true) (h3 : pfxB n0 0 τ = true)
    (h4 : SVeq v (r.ren (sgR τ nx))) (h5 : preE hp (sgR τ nx) post τ) : End n0 v hp nx R := ⟨r, post, τ, hR, h1, h2, h3, (SVeq_den h4).1, h5⟩
def xRes (tab : Tab) (fr : Nat → SV) (hp : HP) : List ResultVar → (List PV → List Prop → Prop) → Prop
  | [], k => k [] []
  | .tmp t :: r, k => match fr t with
    | .v p => fPV p fun p => xRes tab fr hp r fun l cs => k (p :: l) cs
    | _ => False
  | .cell t T :: r, k => match fr t with
    | .v (.one (.ptr p)) => match tab.ti T with
      | some ti => match readC hp p ti.size with
        | some (cells, cs) => match loadV ti cells with
          | some v => fPV v fun p => xRes tab fr hp r fun l cs' => k (p :: l) (cs ++ cs')
          | none => False
        | none => False
      | none => False
    | _ => False
theorem xRes_ok {tab : Tab} {fr : Nat → SV} {hp : HP} {nx : Nat} : ∀ {rs : List ResultVar} {k : List PV → List Prop → Prop}, xRes tab fr hp rs k → ∃ l cs, resVs tab ⟨fr, hp, nx⟩ rs = some (l, cs) ∧ k l cs
  | [], k, h => ⟨[], [], rfl, h⟩
  | .tmp t :: r, k, h => by
    simp only [xRes] at h
    split at h
    · rename_i p hp'
      rw [fPV_eq] at h
      obtain ⟨l, cs, h1, h2⟩ := xRes_ok (nx := nx) h
      exact ⟨p :: l, cs, by simp only [resVs, hp', h1], h2⟩
    · exact h.elim
  | .cell t T :: r, k, h => by
    simp only [xRes] at h
    split at h
    · rename_i p hp'
      split at h
      · rename_i ti hti
        split at h
        · rename_i cells cs hrd
          split at h
          · rename_i v hv
            rw [fPV_eq] at h
            obtain ⟨l, cs', h1, h2⟩ := xRes_ok (nx := nx) h
            exact ⟨v :: l, cs ++ cs', by simp only [resVs, hp', hti, hrd, hv, h1], h2⟩
          · exact h.elim
        · exact h.elim
      · exact h.elim
    · exact h.elim
def xEnd (tab : Tab) (n0 : Nat) (rs : List ResultVar) (fr : Nat → SV) (hp : HP) (nx : Nat) (R : SV → List (Option Chunk) → Prop) : Prop :=
  xRes tab fr hp rs fun l cs => fSV (resSV l) fun v => cndL cs (End n0 v hp nx R)
/-- What a contract says of memory, in equal words. -/
def RE (n0 : Nat) (R : SV → List (Option Chunk) → Prop) (v : SV) (hs : List (Option Chunk)) : Prop := R v hs

include hok in
theorem tri_x {f : FuncId} {fn : Func} {c : Code} {args : List PV} {pre : List (Option Chunk)} {R : SV → List (Option Chunk) → Prop} (hf : P.funcs[f]? = some fn) (hb : fn.body = some c) (hname : (fn.name == "runtime.NumGoroutine") = false)
    (hnt : fn.ntmps = nt) (hsz : args.length ≤ nt)
    (h : ∀ C : Cx P tab nt pre.length, lenK pre 0 fun n => xCode C c (frA nt args) (hpL pre) n fun e fr hp nx => match e with
      | .normal => xEnd tab pre.length fn.results.toList fr hp nx R
      | .ret => xEnd tab pre.length fn.results.toList fr hp nx R
      | .exit _ => False) : Tri P f args pre R := by
  have hC := fun C => by have := h C; rw [lenK_eq, Nat.zero_add] at this; exact this
  refine ⟨⟨fn, hf, by rw [hb]; rfl, hname⟩, fun ν V fp w H hst => ?_⟩
  let C : Cx P tab nt pre.length := ⟨ν, V, Sy.foot fp, w⟩
  refine calls_of_wp hf hb ?_
  have hs : Satis C ⟨frA nt args, hpL pre, pre.length⟩ { tmps := (args.map (PV.den ν)).toArray ++ Array.replicate (fn.ntmps - (args.map (PV.den ν)).toArray.size) undef, defers := [] } w := by
    refine ⟨ν, V, fp, Agree.refl _ _, Nat.le_refl _, ?_, rfl, ?_, H, Ext.refl _ _ _⟩
    · simp [hnt]; omega
    · intro ν' hν i hi
      have hm := hst ν' hν
      simp only [frA] at hi ⊢
      cases hp : args[i]? with
      | some p =>
        have hlt := (List.getElem?_eq_some_iff.1 hp).1
        rw [Array.getElem?_append_left (by simpa using hlt)]
        have : (args.map (PV.den ν'))[i]? = some (p.den ν') := by simp [hp]
        rw [hm] at this
        show _ = some (p.den ν')
        simpa using this
      | none =>
        have hge : args.length ≤ i := by simpa using hp
        rw [hp] at hi
        simp only at hi
        cases hlt : Nat.blt i nt with
        | false => rw [hlt] at hi; exact absurd rfl hi
        | true =>
          have hlt' : i < nt := by simpa [Nat.blt_eq] using hlt
          rw [Array.getElem?_append_right (by simpa using hge)]
          rw [Array.getElem?_replicate, if_pos (by simp; omega)]
          rfl
  refine wp_mono (vCode_sound hok c _ _ _ w (xCode_v c _ _ _ _ (fun e s => match e with | .normal => xEnd tab pre.length fn.results.toList s.fr s.hp s.nx R | .ret => xEnd tab pre.length fn.results.toList s.fr s.hp s.nx R | .exit _ => False) (fun e s hh => by cases e <;> exact hh) (hC C)) hs) ?_
  rintro e a' w' ⟨s', ⟨ν', V', fp', H'⟩, hq⟩
  have key : xEnd tab pre.length fn.results.toList s'.fr s'.hp s'.nx R → a'.defers = [] ∧ ∃ v, (results fn a'.tmps).run P w' = .ok v w' ∧ ∃ res post ν1 V' fp', Ending.returned v = .returned (res.den ν1) ∧ (∀ ν'', Agree (Lt post.length) ν1 ν'' → res.den ν'' = res.den ν1) ∧ pre.length ≤ post.length ∧ Agree (Lt pre.length) ν ν1 ∧
      Holds (Lt post.length) ν1 V' (hpL post) w' fp' ∧ Ext w V (Sy.foot fp) w' V' (Sy.foot fp') ∧ R res post := by
    intro hr
    refine ⟨H'.defers, ?_⟩
    obtain ⟨l, cs, hl, hr⟩ := xRes_ok (nx := s'.nx) hr
    rw [fSV_eq] at hr
    · obtain ⟨hc, hr⟩ := cndL_iff.1 hr
      obtain ⟨r, post, τ, hR, hlt, hnd, hpf, hren, hpre⟩ := hr.out
      have hsg : sgR τ s'.nx = sg τ s'.nx := funext fun h => sgR_eq τ s'.nx h
      rw [hsg] at hren hpre
      have hrun := fun νx hν => results_run (resVs_ok hok H' hl hc νx hν)
      have h0 := hrun ν' (Agree.refl _ _)
      rw [resSV_den] at h0
      obtain ⟨hpl, hpi⟩ := pfxB_ok hpf
      obtain ⟨fpc, hH, hbk, hft, hlen⟩ := weaken_core (s := ⟨s'.fr, hp2 s'.hp (sg τ s'.nx) post τ, s'.nx⟩) hlt hnd (preE_B hnd hpre) (preE_holds hpre H'.hp)
      refine ⟨_, h0, r, post, _, V', fpc, ?_, ?_, by omega, ?_, hH, ⟨H'.ext.os, H'.ext.tape, H'.ext.output, H'.ext.size, H'.ext.same, fun b hb => H'.ext.foot b (hft b hb), H'.ext.vmono, H'.ext.vfrom⟩, hR⟩
      · rw [hren, SV.den_ren]
      · intro ν'' hν
        obtain ⟨hb, hag⟩ := hbk ν'' hν
        have h1 := hrun _ hag
        rw [resSV_den, h0] at h1
        injection h1 with h1
        rw [hren, hren, SV.den_ren, SV.den_ren, hb] at h1
        exact h1.symm
      · intro h hh
        have : sg τ s'.nx h = h := by unfold sg; rw [hpi h hh]; simp
        simp only [this]
        exact H'.agree h hh
  cases e with
  | normal => exact key hq
  | ret => exact key hq
  | exit id => exact hq.elim
  | _ => exact hq.elim

end
end Go.Sy

namespace Go.Sy
set_option linter.unusedVariables false
set_option linter.unusedSimpArgs false
set_option linter.unusedSectionVars false

/-! ### 30. Memory under one name -/
def packR (m : List (Option Chunk)) (p : Pl) (w : World) (F : Nat → Prop) : Prop :=
  ∃ ν fp, ν 0 = p ∧ Holds (Lt m.length) ν (fun _ => False) (hpL m) w fp ∧ ∀ b, F b ↔ Sy.foot fp b
theorem packR_st {m : List (Option Chunk)} {p : Pl} {w w' : World} {F : Nat → Prop} (hk : ∀ b, F b → w'.heap[b]? = w.heap[b]?) (h : packR m p w F) : packR m p w' F := by
  obtain ⟨ν, fp, h0, H, hF⟩ := h
  refine ⟨ν, fp, h0, ⟨fun ν' hν h c hc => ?_, H.none, H.disj, fun h b hb => ?_, H.nv, fun b hb => hb.elim, H.dom⟩, hF⟩
  · exact Chunk.sat_kept (fun _ h => h) (fun _ h => h.elim) (fun b hb => hk b ((hF b).2 ⟨h, hb⟩)) (H.sat ν' hν h c hc)
  · have h1 := hk b ((hF b).2 ⟨h, hb⟩)
    have h2 := H.low h b hb
    rw [Array.getElem?_eq_getElem h2] at h1
    exact (Array.getElem?_eq_some_iff.1 h1).1
def packC (m : List (Option Chunk)) : Chunk := .res (packR m) (fun _ _ _ _ hk h => packR_st hk h)

def opσ (j n : Nat) : Nat → Nat
  | 0 => j
  | h + 1 => n + h
def renO (σ : Nat → Nat) : Option Chunk → Option Chunk
  | none => none
  | some c => some (c.ren σ)
theorem hpL_lt {l : List (Option Chunk)} {h : Nat} {c : Chunk} (hc : hpL l h = some c) : h < l.length := by
  unfold hpL at hc
  cases e : l[h]? with
  | none => simp [e] at hc
  | some x => exact (List.getElem?_eq_some_iff.1 e).1
theorem hpL_open {l : List (Option Chunk)} {j : Nat} {c0 : Option Chunk} {rest : List (Option Chunk)} {σ : Nat → Nat} (hj : j < l.length) (h : Nat) :
    hpL (l.set j (renO σ c0) ++ rest.map (renO σ)) h = if h < l.length then (if h = j then renO σ c0 else hpL l h) else renO σ (hpL rest (h - l.length)) := by
  unfold hpL
  by_cases c : h < l.length
  · rw [if_pos c, List.getElem?_append_left (by simpa using c)]
    by_cases e : h = j
    · subst e; simp [c]
    · rw [if_neg e, List.getElem?_set_ne (by omega)]
  · rw [if_neg c, List.getElem?_append_right (by simp; omega), List.length_set, List.getElem?_map]
    cases rest[h - l.length]? <;> rfl

theorem hent_open {l : List (Option Chunk)} (j : Nat) {c0 : Option Chunk} {rest : List (Option Chunk)} (hj : l[j]? = some (some (packC (c0 :: rest)))) :
    HEnt l (l.set j (renO (opσ j l.length) c0) ++ rest.map (renO (opσ j l.length))) := by
  have hjl := (List.getElem?_eq_some_iff.1 hj).1
  have hlj : hpL l j = some (packC (c0 :: rest)) := by unfold hpL; rw [hj]
  refine ⟨by simp, fun ν V w fp H => ?_⟩
  obtain ⟨ν0, fp0, e0, H0, hF⟩ := H.sat ν (Agree.refl _ _) j _ hlj
  have hm0 : ∀ i, hpL (c0 :: rest) (i + 1) = hpL rest i := fun i => by simp [hpL]
  have hm00 : hpL (c0 :: rest) 0 = c0 := by simp [hpL]
  let n := l.length
  let ν' : Nat → Pl := fun h => if h < n then ν h else ν0 (h - n + 1)
  let fp' : Nat → Nat → Prop := fun h => if h < n then (if h = j then fp0 0 else fp h) else fp0 (h - n + 1)
  have hfj : fp' j = fp0 0 := by simp only [fp']; rw [if_pos hjl]; simp
  have hfl : ∀ h, h < n → h ≠ j → fp' h = fp h := fun h h1 h2 => by simp only [fp']; rw [if_pos h1, if_neg h2]
  have hfg : ∀ h, n ≤ h → fp' h = fp0 (h - n + 1) := fun h h1 => by simp only [fp']; rw [if_neg (by omega)]
  have hin : ∀ i b, fp0 i b → fp j b := fun i b hb => (hF b).2 ⟨i, hb⟩
  have hag : Agree (Lt n) ν ν' := fun h hh => if_pos hh
  have hagσ : ∀ ν'', Agree (Lt (l.set j (renO (opσ j n) c0) ++ rest.map (renO (opσ j n))).length) ν' ν'' → Agree (Lt (c0 :: rest).length) ν0 (fun h => ν'' (opσ j n h)) := by
    intro ν'' hν i hi
    have hi : i < rest.length + 1 := by simpa [Lt] using hi
    cases i with
    | zero =>
      show ν'' j = _
      rw [hν j (by show j < _; simp; omega)]
      show ν' j = _
      simp only [ν']; rw [if_pos hjl, e0]
    | succ k =>
      show ν'' (n + k) = _
      rw [hν (n + k) (by show n + k < _; simp [n]; omega)]
      simp only [ν']; rw [if_neg (by omega), show n + k - n + 1 = k + 1 by omega]
  have hag0 : ∀ ν'', Agree (Lt (l.set j (renO (opσ j n) c0) ++ rest.map (renO (opσ j n))).length) ν' ν'' → Agree (Lt n) ν ν'' := fun ν'' hν =>
    hag.trans hν (Lt.le (by simp [n]))
  refine ⟨ν', V, fp', hag, ⟨?_, ?_, ?_, ?_, ?_, H.vlow, fun h c hc => hpL_lt hc⟩, ?_, fun _ h => h, fun _ h => .inl h⟩
  · intro ν'' hν h c hc
    rw [hpL_open hjl] at hc
    by_cases c1 : h < n
    · rw [if_pos c1] at hc
      by_cases c2 : h = j
      · subst c2
        rw [if_pos rfl] at hc
        cases c0 with
        | none => simp [renO] at hc
        | some d =>
          simp only [renO, Option.some.injEq] at hc
          subst hc
          rw [Chunk.sat_ren, hfj]
          exact Chunk.sat_kept (fun _ h => h.elim) (fun _ h => h.elim) (fun _ _ => rfl) (H0.sat _ (hagσ ν'' hν) 0 d hm00)
      · rw [if_neg c2] at hc
        rw [hfl h c1 c2]
        exact H.sat ν'' (hag0 ν'' hν) h c hc
    · rw [if_neg c1] at hc
      cases hr : hpL rest (h - l.length) with
      | none => rw [hr] at hc; simp [renO] at hc
      | some d =>
        rw [hr] at hc
        simp only [renO, Option.some.injEq] at hc
        subst hc
        rw [Chunk.sat_ren, hfg h (by omega)]
        have := H0.sat _ (hagσ ν'' hν) (h - n + 1) d (by rw [hm0]; exact hr)
        have e : opσ j n (h - n + 1) = h := by simp only [opσ]; omega
        simp only [e] at this
        exact Chunk.sat_kept (fun _ h => h.elim) (fun _ h => h.elim) (fun _ _ => rfl) this
  · intro h hc b hb
    rw [hpL_open hjl] at hc
    by_cases c1 : h < n
    · rw [if_pos c1] at hc
      by_cases c2 : h = j
      · subst c2
        rw [if_pos rfl] at hc
        rw [hfj] at hb
        refine H0.none 0 ?_ b hb
        rw [hm00]
        cases c0 with
        | none => rfl
        | some d => simp [renO] at hc
      · rw [if_neg c2] at hc
        rw [hfl h c1 c2] at hb
        exact H.none h hc b hb
    · rw [if_neg c1] at hc
      rw [hfg h (by omega)] at hb
      refine H0.none _ ?_ b hb
      rw [hm0]
      show hpL rest (h - l.length) = none
      cases hr : hpL rest (h - l.length) with
      | none => rfl
      | some d => rw [hr] at hc; simp [renO] at hc
  · -- apart
    have idx : ∀ h b, fp' h b → (∃ i, fp0 i b ∧ ((h = j ∧ i = 0) ∨ (n ≤ h ∧ i = h - n + 1))) ∨ (h < n ∧ h ≠ j ∧ fp h b) := by
      intro h b hb
      by_cases c1 : h < n
      · by_cases c2 : h = j
        · subst c2; rw [hfj] at hb; exact .inl ⟨0, hb, .inl ⟨rfl, rfl⟩⟩
        · rw [hfl h c1 c2] at hb; exact .inr ⟨c1, c2, hb⟩
      · rw [hfg h (by omega)] at hb; exact .inl ⟨_, hb, .inr ⟨by omega, rfl⟩⟩
    intro h h' b hb hb'
    rcases idx h b hb with ⟨i, hi, hc⟩ | ⟨h1, h2, h3⟩ <;> rcases idx h' b hb' with ⟨i', hi', hc'⟩ | ⟨h1', h2', h3'⟩
    · have := H0.disj i i' b hi hi'
      rcases hc with ⟨a1, a2⟩ | ⟨a1, a2⟩ <;> rcases hc' with ⟨b1, b2⟩ | ⟨b1, b2⟩ <;> omega
    · exact absurd (H.disj j h' b (hin i b hi) h3').symm h2'
    · exact absurd (H.disj j h b (hin i' b hi') h3).symm h2
    · exact H.disj h h' b h3 h3'
  · intro h b hb
    simp only [fp'] at hb
    split at hb
    · split at hb
      · exact H.low j b (hin _ b hb)
      · exact H.low h b hb
    · exact H.low j b (hin _ b hb)
  · intro h b hb
    simp only [fp'] at hb
    split at hb
    · split at hb
      · exact H.nv j b (hin _ b hb)
      · exact H.nv h b hb
    · exact H.nv j b (hin _ b hb)
  · rintro b ⟨h, hb⟩
    simp only [fp'] at hb
    split at hb
    · split at hb
      · exact ⟨j, hin _ b hb⟩
      · exact ⟨h, hb⟩
    · exact ⟨j, hin _ b hb⟩

def noView : List (Option Chunk) → Bool
  | [] => true
  | some (.view _ _) :: _ => false
  | _ :: r => noView r
theorem noView_at : ∀ {l : List (Option Chunk)}, noView l = true → ∀ {h : Nat} {c : Chunk}, hpL l h = some c → ∀ {α : Type} (e : Enc α) (xs : List α), c ≠ .view e xs
  | [], _, h, c, hc, _, _, _ => by simp [hpL] at hc
  | x :: r, hn, h, c, hc, _, e, xs => by
    have hr : noView r = true := by
      cases x with
      | none => exact hn
      | some x => cases x <;> first | exact hn | cases hn
    cases h with
    | zero =>
      simp [hpL] at hc
      subst hc
      cases c <;> first | (intro hh; cases hh; done) | cases hn
    | succ h => exact noView_at hr (by simpa [hpL] using hc) e xs
theorem sat_noV {ν : Nat → Pl} {V V' : Nat → Prop} {p : Pl} {w : World} {F : Nat → Prop} {c : Chunk} (hc : ∀ {α : Type} (e : Enc α) (xs : List α), c ≠ .view e xs) (h : c.sat ν V p w F) : c.sat ν V' p w F := by
  cases c with
  | cells T l => exact h
  | rows T e xs => exact h
  | view e xs => exact absurd rfl (hc e xs)
  | res R st => exact h

def clrN (τ : List Nat) : Nat → List (Option Chunk) → List (Option Chunk)
  | _, [] => []
  | i, c :: r => (match memN i τ with
    | true => none
    | false => c) :: clrN τ (i + 1) r
theorem clrN_len (τ : List Nat) : ∀ (l : List (Option Chunk)) (i : Nat), (clrN τ i l).length = l.length
  | [], _ => rfl
  | c :: r, i => by simp [clrN, clrN_len τ r]
theorem hpL_clrN (τ : List Nat) : ∀ (l : List (Option Chunk)) (i h : Nat), hpL (clrN τ i l) h = match memN (i + h) τ with
    | true => none
    | false => hpL l h
  | [], i, h => by simp only [clrN]; cases memN (i + h) τ <;> simp [hpL]
  | c :: r, i, h => by
    cases h with
    | zero =>
      simp only [clrN, Nat.add_zero]
      cases memN i τ <;> simp [hpL]
    | succ h =>
      have := hpL_clrN τ r (i + 1) h
      rw [show i + (h + 1) = i + 1 + h by omega, show hpL (clrN τ i (c :: r)) (h + 1) = hpL (clrN τ (i + 1) r) h by simp [clrN, hpL], this]
      cases memN (i + 1 + h) τ <;> simp [hpL]
theorem memN_iff : ∀ {τ : List Nat} {n : Nat}, memN n τ = true ↔ ∃ i : Nat, τ[i]? = some n
  | [], n => by simp [memN]
  | m :: r, n => by
    simp only [memN]
    cases hb : Nat.beq m n with
    | true =>
      have := Nat.eq_of_beq_eq_true hb
      subst this
      exact ⟨fun _ => ⟨0, rfl⟩, fun _ => rfl⟩
    | false =>
      have hne : m ≠ n := fun e => by subst e; simp at hb
      simp only
      rw [memN_iff]
      constructor
      · rintro ⟨i, hi⟩; exact ⟨i + 1, by simpa using hi⟩
      · rintro ⟨i, hi⟩
        cases i with
        | zero => simp at hi; exact absurd hi hne
        | succ i => exact ⟨i, by simpa using hi⟩

theorem hent_close {l m : List (Option Chunk)} (j : Nat) (r : List Nat) (hl : ltB l.length (j :: r) = true) (hnd : nodupB (j :: r) = true) (hnv : noView m = true) (hpre : preE (hpL l) (sgR (j :: r) l.length) m (j :: r)) :
    HEnt l ((clrN (j :: r) 0 l).set j (some (packC m))) := by
  have hsg : sgR (j :: r) l.length = sg (j :: r) l.length := funext fun h => sgR_eq _ _ h
  rw [hsg] at hpre
  have hjl : j < l.length := ltB_ok hl (i := 0) rfl
  refine ⟨by simp [clrN_len], fun ν V w fp H => ?_⟩
  obtain ⟨fpc, hH, hbk, hft, hlen, hfc⟩ := weaken_core2 (s := ⟨fun _ => .unk, hp2 (hpL l) (sg (j :: r) l.length) m (j :: r), l.length⟩) hl hnd (preE_B hnd hpre) (preE_holds hpre H)
  let fp' : Nat → Nat → Prop := fun h b => if h = j then Sy.foot fpc b else memN h (j :: r) = false ∧ fp h b
  have hin : ∀ b, Sy.foot fpc b → ∃ h, memN h (j :: r) = true ∧ fp h b := by
    rintro b ⟨h, hb⟩
    obtain ⟨h1, h2⟩ := hfc h b hb
    have hlt : h < m.length := by
      rcases Nat.lt_or_ge h m.length with c | c
      · exact c
      · exact absurd (by unfold hpL; rw [List.getElem?_eq_none c]) h1
    have hlt' : h < (j :: r).length := by rw [← hlen]; exact hlt
    refine ⟨_, memN_iff.2 ⟨h, ?_⟩, h2⟩
    unfold sg
    rw [List.getElem?_eq_getElem hlt']
  have hfj : ∀ b, fp' j b ↔ Sy.foot fpc b := fun b => by simp [fp']
  have hfo : ∀ h b, h ≠ j → (fp' h b ↔ memN h (j :: r) = false ∧ fp h b) := fun h b hh => by simp only [fp']; rw [if_neg hh]
  have hlj : ∀ h, hpL ((clrN (j :: r) 0 l).set j (some (packC m))) h = if h = j then some (packC m) else match memN h (j :: r) with
      | true => none
      | false => hpL l h := by
    intro h
    rw [hpL_set (by rw [clrN_len]; exact hjl)]
    by_cases e : h = j
    · rw [if_pos e, if_pos e]
    · rw [if_neg e, if_neg e, hpL_clrN, Nat.zero_add]
  have hlow' : ∀ h b, fp' h b → ∃ h', fp h' b := by
    intro h b hb
    by_cases e : h = j
    · subst e
      obtain ⟨h', _, h2⟩ := hin b ((hfj b).1 hb)
      exact ⟨h', h2⟩
    · exact ⟨h, ((hfo h b e).1 hb).2⟩
  refine ⟨ν, V, fp', Agree.refl _ _, ⟨?_, ?_, ?_, ?_, ?_, H.vlow, fun h c hc => hpL_lt hc⟩, ?_, fun _ h => h, fun _ h => .inl h⟩
  · intro ν' hν h c hc
    have hνl : Agree (Lt l.length) ν ν' := fun i hi => hν i (by show i < _; rw [List.length_set, clrN_len]; exact hi)
    rw [hlj] at hc
    by_cases e : h = j
    · subst e
      rw [if_pos rfl] at hc
      simp only [Option.some.injEq] at hc
      subst hc
      show packR m (ν' h) w (fp' h)
      refine ⟨fun i => ν (sg (h :: r) l.length i), fpc, ?_, ⟨fun ν'' hν'' i c hc => ?_, hH.none, hH.disj, hH.low, fun _ _ _ h => h, fun _ h => h.elim, hH.dom⟩, hfj⟩
      · show ν h = ν' h
        exact (hνl h hjl).symm
      · exact sat_noV (fun e xs => noView_at hnv hc e xs) (hH.sat ν'' hν'' i c hc)
    · rw [if_neg e] at hc
      cases hm : memN h (j :: r) with
      | true => rw [hm] at hc; cases hc
      | false =>
        rw [hm] at hc
        have hfe : fp' h = fp h := by funext b; exact propext ⟨fun hb => ((hfo h b e).1 hb).2, fun hb => (hfo h b e).2 ⟨hm, hb⟩⟩
        rw [hfe]
        exact H.sat ν' hνl h c hc
  · intro h hc b hb
    rw [hlj] at hc
    by_cases e : h = j
    · rw [if_pos e] at hc; cases hc
    · rw [if_neg e] at hc
      obtain ⟨h1, h2⟩ := (hfo h b e).1 hb
      rw [h1] at hc
      exact H.none h hc b h2
  · intro h h' b hb hb'
    by_cases e : h = j <;> by_cases e' : h' = j
    · rw [e, e']
    · subst e
      obtain ⟨k, h1, h2⟩ := hin b ((hfj b).1 hb)
      obtain ⟨h3, h4⟩ := (hfo h' b e').1 hb'
      have := H.disj k h' b h2 h4
      subst this
      rw [h1] at h3; cases h3
    · subst e'
      obtain ⟨k, h1, h2⟩ := hin b ((hfj b).1 hb')
      obtain ⟨h3, h4⟩ := (hfo h b e).1 hb
      have := H.disj k h b h2 h4
      subst this
      rw [h1] at h3; cases h3
    · exact H.disj h h' b ((hfo h b e).1 hb).2 ((hfo h' b e').1 hb').2
  · intro h b hb
    obtain ⟨h', h2⟩ := hlow' h b hb
    exact H.low h' b h2
  · intro h b hb
    obtain ⟨h', h2⟩ := hlow' h b hb
    exact H.nv h' b h2
  · rintro b ⟨h, hb⟩
    exact hlow' h b hb

/-- A contract in other words: what is handed is told otherwise, and what is left. -/
theorem tri_conv {P : Program} {f : FuncId} {args : List PV} {pre pre' : List (Option Chunk)} {R R' : SV → List (Option Chunk) → Prop} (T : Tri P f args pre R) (h1 : HEnt pre' pre)
    (h2 : ∀ r post, R r post → ∃ post1 τ r' post', HEnt post post1 ∧ ltB post1.length τ = true ∧ nodupB τ = true ∧ pfxB pre'.length 0 τ = true ∧ preE (hpL post1) (sgR τ post1.length) post' τ ∧ (∀ ν, r.den ν = (r'.ren (sgR τ post1.length)).den ν) ∧ R' r' post') : Tri P f args pre' R' := by
  refine ⟨T.1, fun ν V fp w H hst => ?_⟩
  obtain ⟨ν1, V1, fp1, a1, a2, a3, a4, a5⟩ := h1.2 ν V w fp H
  have hst1 : ∀ ν'', Agree (Lt pre.length) ν1 ν'' → args.map (PV.den ν'') = args.map (PV.den ν1) := by
    intro ν'' hν
    rw [hst ν'' (a1.trans hν (Lt.le h1.1)), hst ν1 a1]
  have e1 := hst ν1 a1
  rw [← e1]
  refine (T.2 ν1 V1 fp1 w a2 hst1).mono ?_
  rintro e w' ⟨res, post, ν', V', fp', rfl, hres, hlen, hag, hH, hE, hR⟩
  obtain ⟨post1, τ, r', post', b1, b2, b3, b4, b5, b6, b7⟩ := h2 res post hR
  obtain ⟨ν2, V2, fp2, k1, k2, k3, k4, k5⟩ := b1.2 ν' V' w' fp' hH
  have hsg : sgR τ post1.length = sg τ post1.length := funext fun h => sgR_eq _ _ h
  rw [hsg] at b5 b6
  obtain ⟨hpl, hpi⟩ := pfxB_ok b4
  obtain ⟨fpc, hHc, hbk, hft, hlenc⟩ := weaken_core (s := ⟨fun _ => .unk, hp2 (hpL post1) (sg τ post1.length) post' τ, post1.length⟩) b2 b3 (preE_B b3 b5) (preE_holds b5 k2)
  have hres2 : ∀ ν'', Agree (Lt post1.length) ν2 ν'' → res.den ν'' = res.den ν' := fun ν'' hν => hres ν'' (k1.trans hν (Lt.le b1.1))
  refine ⟨r', post', fun h => ν2 (sg τ post1.length h), V2, fpc, ?_, ?_, by omega, ?_, hHc, ⟨hE.os, hE.tape, hE.output, hE.size, fun b hb hF => hE.same b hb (fun hF1 => hF (a3 b hF1)), fun b hb => ?_, fun b hb => k4 b (hE.vmono b (a4 b hb)), fun b hb => ?_⟩, b7⟩
  · rw [← hres ν2 k1, b6, SV.den_ren]
  · intro ν'' hν
    obtain ⟨hb, hag2⟩ := hbk ν'' hν
    have h5 := hres2 _ hag2
    rw [← hres ν2 k1, b6, b6, SV.den_ren, SV.den_ren] at h5
    have h6 : (fun h => back τ post1.length ν2 ν'' (sg τ post1.length h)) = ν'' := hb
    rw [h6] at h5
    exact h5
  · intro h hh
    have e : sg τ post1.length h = h := by unfold sg; rw [hpi h hh]; simp
    show ν2 (sg τ post1.length h) = ν h
    rw [e]
    have l1 : h < pre.length := Nat.lt_of_lt_of_le hh h1.1
    rw [k1 h (Nat.lt_of_lt_of_le l1 hlen), hag h l1, a1 h hh]
  · rcases hE.foot b (k3 b (hft b hb)) with h | h
    · exact .inl (a3 b h)
    · exact .inr h
  · rcases k5 b hb with h | h
    · rcases hE.vfrom b h with h | h | h
      · rcases a5 b h with h | h
        · exact .inl h
        · exact .inr (.inl h)
      · exact .inr (.inl (a3 b h))
      · exact .inr (.inr h)
    · rcases hE.foot b h with h | h
      · exact .inr (.inl (a3 b h))
      · exact .inr (.inr h)
theorem ChEq.refl (c : Chunk) : ChEq c c := by
  have h1 : ∀ p, PPeq p p := fun p => by cases p; exact ⟨rfl, rfl, rfl, rfl⟩
  have h2 : ∀ v, CVeq v v := fun v => by
    cases v with
    | int k n => cases k <;> exact (rfl : n = n)
    | bool b => exact (rfl : b.v = b.v)
    | ptr p => exact h1 p
    | nilp => trivial
    | slice h l sz len => exact ⟨rfl, rfl, rfl, rfl⟩
    | nils => trivial
    | fn f caps => exact ⟨rfl, rfl⟩
    | nilf => trivial
  have h3 : ∀ l : List CV, CVsEq l l := fun l => by
    induction l with
    | nil => trivial
    | cons a r ih => exact ⟨h2 a, ih⟩
  unfold ChEq
  cases c with
  | cells T l => exact ⟨rfl, h3 l⟩
  | rows T e xs => rfl
  | view e xs => rfl
  | res R st => rfl
theorem hent_open1 {c0 : Option Chunk} {rest : List (Option Chunk)} (hm : renO (opσ 0 1) c0 :: rest.map (renO (opσ 0 1)) = c0 :: rest) : HEnt [some (packC (c0 :: rest))] (c0 :: rest) := by
  have := hent_open (l := [some (packC (c0 :: rest))]) 0 (c0 := c0) (rest := rest) rfl
  simp only [List.length_singleton] at this
  rw [show ([some (packC (c0 :: rest))] : List (Option Chunk)).set 0 (renO (opσ 0 1) c0) ++ rest.map (renO (opσ 0 1)) = c0 :: rest from hm] at this
  exact this
/-- A contract over memory told whole, as one over memory under one name. -/
theorem tri_pack {P : Program} {f : FuncId} {args : List PV} {c0 : Option Chunk} {rest : List (Option Chunk)} {R R' : SV → List (Option Chunk) → Prop} (T : Tri P f args (c0 :: rest) R) (hm : renO (opσ 0 1) c0 :: rest.map (renO (opσ 0 1)) = c0 :: rest)
    (h : ∀ r post, R r post → ∃ τ m, ltB post.length (0 :: τ) = true ∧ nodupB (0 :: τ) = true ∧ noView m = true ∧ preE (hpL post) (sgR (0 :: τ) post.length) m (0 :: τ) ∧ (∀ ν ν', r.den ν = r.den ν') ∧ (∀ σ, r.ren σ = r) ∧ R' r [some (packC m)]) :
    Tri P f args [some (packC (c0 :: rest))] R' := by
  refine tri_conv T (hent_open1 hm) fun r post hR => ?_
  obtain ⟨τ, m, h1, h2, h3, h4, h5, h6, h7⟩ := h r post hR
  have hl : 0 < post.length := ltB_ok h1 (i := 0) rfl
  refine ⟨_, [0], r, [some (packC m)], hent_close 0 τ h1 h2 h3 h4, ?_, rfl, rfl, ?_, fun ν => by rw [h6], h7⟩
  · show (match Nat.blt 0 _ with
      | true => true
      | false => false) = true
    rw [show Nat.blt 0 ((clrN (0 :: τ) 0 post).set 0 (some (packC m))).length = true by rw [Nat.blt_eq, List.length_set, clrN_len]; exact hl]
  · refine ⟨?_, trivial⟩
    rw [hpL_set (by rw [clrN_len]; exact hl), if_pos rfl]
    exact ChEq.refl _
end Go.Sy

namespace Go.Sy
set_option linter.unusedVariables false
set_option linter.unusedSimpArgs false
/-- Memory goes over to a new name. -/
theorem hent_move {l : List (Option Chunk)} (j k : Nat) (hjk : j ≠ k) {c : Chunk} {T : TypeId} {c1 c2 : List CV} {a sz len : Nat} (hj : l[j]? = some (some c)) (hk : l[k]? = some (some (.cells T (c1 ++ .slice j a sz len :: c2)))) :
    HEnt l ((l.set k (some (.cells T (c1 ++ .slice l.length a sz len :: c2)))).set j none ++ [some c]) := by
  have hjl := (List.getElem?_eq_some_iff.1 hj).1
  have hkl := (List.getElem?_eq_some_iff.1 hk).1
  refine ⟨by simp, fun ν V w fp H => ?_⟩
  have hag : Agree (Lt l.length) ν (Sy.upd ν l.length (ν j)) := fun i hi => upd_other _ _ (Nat.ne_of_gt hi)
  have hget : ∀ h, hpL ((l.set k (some (.cells T (c1 ++ .slice l.length a sz len :: c2)))).set j none ++ [some c]) h = if h = l.length then some c else if h = j then none else if h = k then some (.cells T (c1 ++ .slice l.length a sz len :: c2)) else hpL l h := by
    intro h
    rw [hpL_append]
    simp only [List.length_set]
    by_cases e : h = l.length
    · rw [if_pos e, if_pos e]
    · rw [if_neg e, if_neg e, hpL_set (by simpa using hjl)]
      by_cases e2 : h = j
      · rw [if_pos e2, if_pos e2]
      · rw [if_neg e2, if_neg e2, hpL_set hkl]
  have hlj : hpL l j = some c := by unfold hpL; rw [hj]
  have hlk : hpL l k = some (.cells T (c1 ++ .slice j a sz len :: c2)) := by unfold hpL; rw [hk]
  have hfn : ∀ b, ¬ fp l.length b := fun b hb => H.none _ (by unfold hpL; rw [List.getElem?_eq_none (Nat.le_refl _)]) b hb
  refine ⟨Sy.upd ν l.length (ν j), V, Sy.upd (Sy.upd fp j (fun _ => False)) l.length (fp j), hag, ⟨?_, ?_, ?_, ?_, ?_, H.vlow, ?_⟩, ?_, fun _ h => h, fun _ h => .inl h⟩
  · intro ν' hν h d hd
    have hν' : Agree (Lt (l.length + 1)) (Sy.upd ν l.length (ν j)) ν' := by simpa using hν
    have hν0 : Agree (Lt l.length) ν ν' := hag.trans hν' (Lt.le (Nat.le_succ _))
    have hnew : ν' l.length = ν' j := by rw [hν' _ (Nat.lt_succ_self _), upd_same, hν0 j hjl]
    rw [hget] at hd
    by_cases e : h = l.length
    · rw [if_pos e] at hd; cases hd
      subst e
      rw [upd_same, hnew]
      exact H.sat ν' hν0 j c hlj
    · rw [if_neg e] at hd
      rw [upd_other _ _ (fun e' => e e'.symm)]
      by_cases e2 : h = j
      · rw [if_pos e2] at hd; cases hd
      · rw [if_neg e2] at hd
        rw [upd_other _ _ (fun e' => e2 e'.symm)]
        by_cases e3 : h = k
        · rw [if_pos e3] at hd; cases hd
          subst e3
          obtain ⟨h1, h2, h3, h4⟩ := H.sat ν' hν0 h _ hlk
          refine ⟨h1, h2, ?_, h4⟩
          rw [h3]
          simp [CV.den, hnew]
        · rw [if_neg e3] at hd
          exact H.sat ν' hν0 h d hd
  · intro h hd b hb
    rw [hget] at hd
    by_cases e : h = l.length
    · rw [if_pos e] at hd; cases hd
    · rw [if_neg e] at hd
      rw [upd_other _ _ (fun e' => e e'.symm)] at hb
      by_cases e2 : h = j
      · subst e2; rw [upd_same] at hb; exact hb
      · rw [if_neg e2] at hd
        rw [upd_other _ _ (fun e' => e2 e'.symm)] at hb
        by_cases e3 : h = k
        · rw [if_pos e3] at hd; cases hd
        · rw [if_neg e3] at hd; exact H.none h hd b hb
  · intro h h' b hb hb'
    have key : ∀ g, Sy.upd (Sy.upd fp j (fun _ => False)) l.length (fp j) g b → (g = l.length ∧ fp j b) ∨ (g ≠ l.length ∧ g ≠ j ∧ fp g b) := by
      intro g hg
      by_cases e : g = l.length
      · subst e; rw [upd_same] at hg; exact .inl ⟨rfl, hg⟩
      · rw [upd_other _ _ (fun e' => e e'.symm)] at hg
        by_cases e2 : g = j
        · subst e2; rw [upd_same] at hg; exact hg.elim
        · rw [upd_other _ _ (fun e' => e2 e'.symm)] at hg; exact .inr ⟨e, e2, hg⟩
    rcases key h hb with ⟨e, h1⟩ | ⟨e, e1, h1⟩ <;> rcases key h' hb' with ⟨e', h2⟩ | ⟨e', e2, h2⟩
    · rw [e, e']
    · exact absurd (H.disj _ _ b h1 h2).symm e2
    · exact absurd (H.disj _ _ b h1 h2) e1
    · exact H.disj _ _ b h1 h2
  · intro h b hb
    by_cases e : h = l.length
    · subst e; rw [upd_same] at hb; exact H.low _ b hb
    · rw [upd_other _ _ (fun e' => e e'.symm)] at hb
      by_cases e2 : h = j
      · subst e2; rw [upd_same] at hb; exact hb.elim
      · rw [upd_other _ _ (fun e' => e2 e'.symm)] at hb; exact H.low _ b hb
  · intro h b hb
    by_cases e : h = l.length
    · subst e; rw [upd_same] at hb; exact H.nv _ b hb
    · rw [upd_other _ _ (fun e' => e e'.symm)] at hb
      by_cases e2 : h = j
      · subst e2; rw [upd_same] at hb; exact hb.elim
      · rw [upd_other _ _ (fun e' => e2 e'.symm)] at hb; exact H.nv _ b hb
  · intro h d hd
    show h < _
    have hll : ((l.set k (some (.cells T (c1 ++ .slice l.length a sz len :: c2)))).set j none ++ [some c]).length = l.length + 1 := by simp
    rw [hll]
    rw [hget] at hd
    by_cases e : h = l.length
    · omega
    · rw [if_neg e] at hd
      by_cases e2 : h = j
      · omega
      · rw [if_neg e2] at hd
        by_cases e3 : h = k
        · omega
        · rw [if_neg e3] at hd
          have : h < l.length := H.dom h d hd
          omega
  · rintro b ⟨h, hb⟩
    by_cases e : h = l.length
    · subst e; rw [upd_same] at hb; exact ⟨j, hb⟩
    · rw [upd_other _ _ (fun e' => e e'.symm)] at hb
      by_cases e2 : h = j
      · subst e2; rw [upd_same] at hb; exact hb.elim
      · rw [upd_other _ _ (fun e' => e2 e'.symm)] at hb; exact ⟨h, hb⟩
end Go.Sy
