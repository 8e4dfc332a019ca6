/-
  A run of a Go program over data that is known: regions, in whatever order they are drawn; code; calls.
-/
import Derived.Test.YtjmiaemabhlnjaaGreatDoorSym9
import Derived.ScopeJumps
set_option linter.unusedVariables false
set_option linter.unusedSimpArgs false
namespace Go.Proofs.YtjmiaemabhlnjaaGreatDoor.Sym
open Go Go.RowKit
noncomputable section

/-! ### The evaluator -/

inductive Ex where
  | normal
  | exit (id : Nat)
  | goto (l : Nat)
  | ret

def Ex.to : Ex → Exit
  | .normal => .normal
  | .exit id => .exit id
  | .goto l => .goto l
  | .ret => .ret

/-- Functions: with a body; by contract; without a body. -/
structure Fns where
  F : Nat → Option Func
  O : Nat → List SV → Option SV
  X : Nat → List SV → Option SV

structure St where
  t : PT SV
  sz : Nat
  h : Hp
  nx : Nat

def wantS (all : List Oper) (t : PT SV) (o : Oper) : Option Bool :=
  match o.guard with
  | none => some true
  | some (j, want) => match all[j]? with
    | some oj => match oj.dst with
      | some d => match t.get d with
        | some (.bool b) => some (b == want)
        | some (.opq _) => none
        | _ => some false
      | none => some false
    | none => some false

def putS (st : St) (dst : Option Nat) (x : SV) : Option St :=
  Option.rec (motive := fun _ => Option St) (some st) (fun d => Bool.rec (motive := fun _ => Option St) none (some ⟨st.t.set d x, st.sz, st.h, st.nx⟩) (Nat.ble (Nat.succ d) st.sz)) dst

def ofList : Nat → List SV → PT SV → PT SV
  | _, [], t => t
  | i, x :: l, t => ofList (i + 1) l (t.set i x)

def evRes (B : Tab) (h : Hp) (t : PT SV) : List ResultVar → Option (List SV)
  | [] => some []
  | r :: l => match (match r with
      | .tmp i => some ((t.get i).getD .undef)
      | .cell a ty => match (t.get a).getD .undef with
        | .ptr id off => match evLoad B h ty (.ptr id off) with
          | some (v, _) => some v
          | none => none
        | _ => none : Option SV), evRes B h t l with
    | some x, some xs => some (x :: xs)
    | _, _ => none

def oneOf : List SV → SV
  | [x] => x
  | l => .tup l

abbrev Rn := Code → St → Option (Ex × St)

def retOf (B : Tab) (rs : List ResultVar) (r : Option (Ex × St)) : Option (SV × Hp × Nat) :=
  match r with
  | some (ex, st) => match (match ex with | .normal => true | .ret => true | _ => false), evRes B st.h st.t rs with
    | true, some rs => some (oneOf rs, st.h, st.nx)
    | _, _ => none
  | none => none

def evBody (N : Fns) (B : Tab) (rec : Rn) (f : Nat) (xs : List SV) (h : Hp) (nx : Nat) : Option (SV × Hp × Nat) :=
  match N.F f with
  | some fn => match fn.body with
    | some c => if Nat.ble xs.length fn.ntmps then retOf B fn.results.toList (rec c ⟨ofList 0 xs .nil, fn.ntmps, h, nx⟩) else none
    | none => none
  | none => none

def evCall (N : Fns) (B : Tab) (rec : Rn) (f : Nat) (xs : List SV) (h : Hp) (nx : Nat) : Option (SV × Hp × Nat) :=
  match N.X f xs with
  | some v => some (v, h, nx)
  | none => match N.O f xs with
    | some v => some (v, h, nx)
    | none => evBody N B rec f xs h nx

def putC (st : St) (dst : Option Nat) (r : Option (SV × Hp × Nat)) : Option St :=
  match r with
  | some (v, h, nx) => putS ⟨st.t, st.sz, h, nx⟩ dst v
  | none => none

def opCall (N : Fns) (B : Tab) (rec : Rn) (st : St) (dst : Option Nat) (f : Operand) (args : Array Operand) : Option St :=
  match evOperand st.t f, evOperands st.t args.toList with
  | some (.func g a b), some xs => putC st dst (evCall N B rec g ((a ++ xs) ++ b) st.h st.nx)
  | _, _ => none

def opAct (st : St) (dst : Option Nat) (r : Option (SV × Bool × Hp × Nat)) : Option St :=
  match r with
  | some (x, _, h, nx) => putS ⟨st.t, st.sz, h, nx⟩ dst x
  | none => none

def opPlain (B : Tab) (st : St) (o : Oper) (r : Option (SV × List Rec)) : Option St :=
  match r with
  | some (x, _) => putS st o.dst x
  | none => opAct st o.dst (evA B st.h st.nx st.t o)

def evOp (N : Fns) (B : Tab) (rec : Rn) (st : St) (o : Oper) : Option St :=
  match o.op with
  | .call { callee := .value f, args, argTypes := _ } => opCall N B rec st o.dst f args
  | _ => opPlain B st o (evQ B st.h st.t o)

def evOne (N : Fns) (B : Tab) (rec : Rn) (st : St) (o : Oper) (b : Option Bool) : Option St :=
  match b with
  | some true => evOp N B rec st o
  | some false => putS st o.dst .undef
  | none => none

def evList (N : Fns) (B : Tab) (rec : Rn) (all : List Oper) : List Oper → St → Option St
  | [], st => some st
  | o :: l, st => match evOne N B rec st o (wantS all st.t o) with
    | some st' => evList N B rec all l st'
    | none => none

/-! What hangs on the program's text alone is found once: a closed term, whose form the kernel keeps. -/

structure Cl where
  f : Rn → St → Option St

def opQ (st : St) (dst : Option Nat) (r : Option (SV × List Rec)) : Option St :=
  Option.rec (motive := fun _ => Option St) none (fun x => putS st dst x.1) r

def cOp (N : Fns) (B : Tab) (o : Oper) : Cl :=
  match o.op with
  | .move x | .assign x => ⟨fun _ st => opQ st o.dst (qMove st.t x)⟩
  | .pick c a b => ⟨fun _ st => opQ st o.dst (qPick st.t c a b)⟩
  | .load ty a => ⟨fun _ st => opQ st o.dst (qLoad B st.h st.t ty a)⟩
  | .nilCheck x => ⟨fun _ st => opQ st o.dst (qNil st.t x)⟩
  | .binOp op ty x y _ => ⟨fun _ st => opQ st o.dst (qBin B st.t op ty x y)⟩
  | .unOp op _ x => ⟨fun _ st => opQ st o.dst (qUn st.t op x)⟩
  | .makeInterface ty x => ⟨fun _ st => opQ st o.dst (qMkI B st.t ty x)⟩
  | .makeFunc (.func f) first captured => ⟨fun _ st => opQ st o.dst (qMkF st.t f first captured)⟩
  | .slice ty x lo hi mx => ⟨fun _ st => opQ st o.dst (qSlice B st.h st.t ty x lo hi mx)⟩
  | .fieldAddr s x f => ⟨fun _ st => opQ st o.dst (qFA B st.t s x f)⟩
  | .field s x f => ⟨fun _ st => opQ st o.dst (qF B st.t s x f)⟩
  | .indexAddr ty x i => ⟨fun _ st => opQ st o.dst (qIA B st.t ty x i)⟩
  | .index ty x i => ⟨fun _ st => opQ st o.dst (qI B st.t ty x i)⟩
  | .extract x i => ⟨fun _ st => opQ st o.dst (qEx st.t x i)⟩
  | .build ty parts => ⟨fun _ st => opQ st o.dst (qBuild B st.t ty parts)⟩
  | .alloc e => ⟨fun _ st => opAct st o.dst (aAlloc B st.h st.nx e)⟩
  | .box _ x => ⟨fun _ st => opAct st o.dst (aBox st.h st.nx st.t x)⟩
  | .buildSlice ty len parts => ⟨fun _ st => opAct st o.dst (aBuildSlice B st.h st.nx st.t ty len parts)⟩
  | .store ty a x => ⟨fun _ st => opAct st o.dst (aStore B st.h st.nx st.t ty a x)⟩
  | .call { callee := .value f, args, argTypes := _ } => ⟨fun rec st => opCall N B rec st o.dst f args⟩
  | _ => ⟨fun _ st => opPlain B st o (evQ B st.h st.t o)⟩

theorem opQ_ok {B : Tab} {st st' : St} {o : Oper} {r : Option (SV × List Rec)} (h : opQ st o.dst r = some st') : opPlain B st o r = some st' := by
  unfold opQ at h
  cases r with
  | none => cases h
  | some x => exact h

theorem cOp_ok {N : Fns} {B : Tab} {rec : Rn} {st st' : St} {o : Oper} (h : (cOp N B o).f rec st = some st') : evOp N B rec st o = some st' := by
  unfold cOp at h
  split at h <;> rename_i ho <;> simp only [evOp, ho]
  all_goals first
    | exact h
    | (have := opQ_ok (B := B) (o := o) h; simpa only [evQ, ho] using this)
    | (simp only [opPlain, evQ, evA, ho]; exact h)

inductive Gd where
  | yes
  | no
  | at (d : Nat) (w : Bool)

def gdOf (all : List Oper) (o : Oper) : Gd :=
  match o.guard with
  | none => .yes
  | some (j, w) => match all[j]? with
    | some oj => match oj.dst with
      | some d => .at d w
      | none => .no
    | none => .no

def wantAt (x : Option SV) (w : Bool) : Option Bool :=
  match x with
  | some (.bool b) => some (b == w)
  | some (.opq _) => none
  | _ => some false

def wantG (g : Gd) (t : PT SV) : Option Bool :=
  Gd.rec (motive := fun _ => Option Bool) (some true) (some false) (fun d w => wantAt (t.get d) w) g

theorem wantG_eq (all : List Oper) (t : PT SV) (o : Oper) : wantG (gdOf all o) t = wantS all t o := by
  unfold gdOf wantS
  cases o.guard with
  | none => rfl
  | some p =>
    obtain ⟨j, w⟩ := p
    simp only
    cases all[j]? with
    | none => rfl
    | some oj =>
      simp only
      cases oj.dst <;> rfl

structure CO where
  g : Gd
  dst : Option Nat
  c : Cl

def cOps (N : Fns) (B : Tab) (all : List Oper) : List Oper → List CO
  | [] => []
  | o :: l => ⟨gdOf all o, o.dst, cOp N B o⟩ :: cOps N B all l

def oneG (c : CO) (rec : Rn) (st : St) (b : Option Bool) : Option St :=
  Option.rec (motive := fun _ => Option St) none (fun b => Bool.rec (motive := fun _ => Option St) (putS st c.dst .undef) (c.c.f rec st) b) b

def runL (l : List CO) (rec : Rn) : St → Option St :=
  List.rec (motive := fun _ => St → Option St) (fun st => some st) (fun c _ ih st => Option.rec (motive := fun _ => Option St) none ih (oneG c rec st (wantG c.g st.t))) l

theorem runL_cons (c : CO) (l : List CO) (rec : Rn) (st : St) : runL (c :: l) rec st = match oneG c rec st (wantG c.g st.t) with
    | some st' => runL l rec st'
    | none => none := by
  show Option.rec (motive := fun _ => Option St) none (runL l rec) (oneG c rec st (wantG c.g st.t)) = _
  cases oneG c rec st (wantG c.g st.t) <;> rfl

theorem runL_ok {N : Fns} {B : Tab} {all : List Oper} {rec : Rn} : ∀ {l : List Oper} {st st' : St}, runL (cOps N B all l) rec st = some st' → evList N B rec all l st = some st'
  | [], st, st', h => h
  | o :: l, st, st', h => by
    simp only [cOps] at h
    rw [runL_cons, wantG_eq] at h
    simp only [evList]
    split at h
    · rename_i st1 h1
      have : evOne N B rec st o (wantS all st.t o) = some st1 := by
        unfold oneG at h1
        unfold evOne
        cases hw : wantS all st.t o with
        | none => rw [hw] at h1; cases h1
        | some b =>
          rw [hw] at h1
          cases b with
          | true => exact cOp_ok h1
          | false => exact h1
      rw [this]
      exact runL_ok h
    · cases h

/-! Orders. -/

def isQuiet : Op → Bool
  | .move _ | .assign _ | .pick .. | .load .. | .nilCheck _ | .binOp .. | .unOp .. | .convert .. | .makeInterface .. | .makeFunc .. | .slice .. | .fieldAddr .. | .field .. | .indexAddr .. | .index .. | .extract .. | .build .. => true
  | .call { callee := .builtin b, .. } => match b with
    | .len | .cap | .min | .max => true
    | _ => false
  | _ => false

/-- In which order: what changes nothing, as soon as it can; what acts; or one of two that act, and then the other one. -/
inductive Pl where
  | done
  | quiet (i : Nat) (p : Pl)
  | act (i : Nat) (p : Pl)
  | both (i : Nat) (p : Pl) (j : Nat) (q : Pl)

/-- What it waits for, and beside what it may come up, as the bits of numbers. -/
structure OI where
  dep : Nat
  ap : Nat
  q : Bool

def depM (o : Oper) : Nat := o.after.toList.foldl (fun s e => if Region.binds .any e then s ||| 2 ^ e.on else s) 0

def apM (ops : Array Oper) (i : Nat) (oi : Oper) : List Oper → Nat → Nat
  | [], _ => 0
  | o :: l, j => if (depM o).testBit i || oi.apart ops o then 2 ^ j ||| apM ops i oi l (j + 1) else apM ops i oi l (j + 1)

def infoOf (ops : Array Oper) : List Oper → Nat → List OI
  | [], _ => []
  | o :: l, i => ⟨depM o, apM ops i o ops.toList 0, isQuiet o.op⟩ :: infoOf ops l (i + 1)

def readyM (mask : Nat) : List OI → Nat → List Nat
  | [], _ => []
  | x :: l, i => match mask.testBit i with
    | true => readyM mask l (i + 1)
    | false => match Nat.beq (x.dep &&& mask) x.dep with
      | true => i :: readyM mask l (i + 1)
      | false => readyM mask l (i + 1)

def quietM (full mask : Nat) : List OI → Nat → Option Nat
  | [], _ => none
  | x :: l, i => match x.q with
    | false => quietM full mask l (i + 1)
    | true => match mask.testBit i with
      | true => quietM full mask l (i + 1)
      | false => match Nat.beq (x.dep &&& mask) x.dep with
        | false => quietM full mask l (i + 1)
        | true => match Nat.beq (x.ap ||| (mask ||| 2 ^ i)) full with
          | true => some i
          | false => quietM full mask l (i + 1)

def planM (info : List OI) (full : Nat) : Nat → Nat → Option Pl
  | 0, mask => match readyM mask info 0 with
    | [] => some .done
    | _ => none
  | n + 1, mask => match quietM full mask info 0 with
    | some i => match planM info full n (mask ||| 2 ^ i) with
      | some p => some (.quiet i p)
      | none => none
    | none => match readyM mask info 0 with
      | [i] => match planM info full n (mask ||| 2 ^ i) with
        | some p => some (.act i p)
        | none => none
      | [i, j] => match planM info full n (mask ||| 2 ^ i), planM info full n (mask ||| 2 ^ j) with
        | some p, some q => some (.both i p j q)
        | _, _ => none
      | _ => none

def planOf (ops : Array Oper) : Option Pl :=
  if Region.noSelect ops then planM (infoOf ops ops.toList 0) (2 ^ ops.size - 1) ops.size 0 else none

def eqSt (a b : St) : Bool := eqPT eqSV a.t b.t && Nat.beq a.sz b.sz && eqPT eqObj a.h b.h && Nat.beq a.nx b.nx

theorem eqSt_eq {a b : St} (h : eqSt a b = true) : a = b := by
  obtain ⟨t, sz, hp, nx⟩ := a
  obtain ⟨t', sz', hp', nx'⟩ := b
  simp only [eqSt, Bool.and_eq_true] at h
  rw [eqPT_eq (fun _ _ h => eqSV_eq h) h.1.1.1, Nat.eq_of_beq_eq_true h.1.1.2, eqPT_eq (fun _ _ h => eqObj_eq h) h.1.2, Nat.eq_of_beq_eq_true h.2]

/-- Which operations each one waits for, one after the other, as the bits of a number. -/
def maskOf (t : List Nat) (o : Oper) : Nat :=
  o.after.toList.foldl (fun s e => if Region.binds .any e then s ||| (2 ^ e.on ||| t.getD e.on 0) else s) 0

def masks : List Oper → List Nat → List Nat
  | [], t => t
  | o :: l, t => masks l (t ++ [maskOf t o])

def indep (m : List Nat) (j k : Nat) : Bool := !(m.getD j 0).testBit k && !(m.getD k 0).testBit j

/-- One that acts. -/
def evAct (N : Fns) (B : Tab) (rec : Rn) (all : List Oper) (i : Nat) (st : St) : Option (St × Bool) :=
  match all[i]? with
  | some o => match wantS all st.t o with
    | some false => match putS st o.dst .undef with
      | some st' => some (st', false)
      | none => none
    | some true => match evOp N B rec st o with
      | some st' => some (st', true)
      | none => none
    | none => none
  | none => none

def evPlan (N : Fns) (B : Tab) (rec : Rn) (all : List Oper) : Pl → St → List (Nat × Rec) → List (Nat × Hp) → Option (St × List (Nat × Rec) × List (Nat × Hp))
  | .done, st, R, Hs => some (st, R, Hs)
  | .quiet i p, st, R, Hs => match all[i]? with
    | some o => match wantS all st.t o with
      | some false => match putS st o.dst .undef with
        | some st' => evPlan N B rec all p st' R Hs
        | none => none
      | some true => match evQ B st.h st.t o with
        | some (x, L) => match putS st o.dst x with
          | some st' => evPlan N B rec all p st' (L.map (fun r => (i, r)) ++ R) Hs
          | none => none
        | none => none
      | none => none
    | none => none
  | .act i p, st, R, Hs => match evAct N B rec all i st with
    | some (st', b) => evPlan N B rec all p st' R (if b then (i, st'.h) :: Hs else Hs)
    | none => none
  | .both i p j q, st, R, Hs => match evAct N B rec all i st, evAct N B rec all j st with
    | some (s1, b1), some (s2, b2) => match evPlan N B rec all p s1 R (if b1 then (i, s1.h) :: Hs else Hs) with
      | some (t1, R1, H1) => match evPlan N B rec all q s2 R1 (if b2 then (j, s2.h) :: H1 else H1) with
        | some (t2, R2, H2) => if eqSt t1 t2 then some (t1, R2, H2) else none
        | none => none
      | none => none
    | _, _ => none

def heldS (m : List Nat) (nx : Nat) (h0 : Hp) (R : List (Nat × Rec)) (Hs : List (Nat × Hp)) : Bool :=
  R.all fun r => Nat.blt r.2.1 nx && recOk h0 r.2 && Hs.all fun h => !indep m h.1 r.1 || recOk h.2 r.2

structure Clq where
  f : Hp → PT SV → Option (SV × List Rec)

def cQ (B : Tab) (o : Oper) : Clq :=
  match o.op with
  | .move x | .assign x => ⟨fun _ t => qMove t x⟩
  | .pick c a b => ⟨fun _ t => qPick t c a b⟩
  | .load ty a => ⟨fun h t => qLoad B h t ty a⟩
  | .nilCheck x => ⟨fun _ t => qNil t x⟩
  | .binOp op ty x y _ => ⟨fun _ t => qBin B t op ty x y⟩
  | .unOp op _ x => ⟨fun _ t => qUn t op x⟩
  | .makeInterface ty x => ⟨fun _ t => qMkI B t ty x⟩
  | .slice ty x lo hi mx => ⟨fun h t => qSlice B h t ty x lo hi mx⟩
  | .fieldAddr s x f => ⟨fun _ t => qFA B t s x f⟩
  | .field s x f => ⟨fun _ t => qF B t s x f⟩
  | .indexAddr ty x i => ⟨fun _ t => qIA B t ty x i⟩
  | .index ty x i => ⟨fun _ t => qI B t ty x i⟩
  | .extract x i => ⟨fun _ t => qEx t x i⟩
  | .build ty parts => ⟨fun _ t => qBuild B t ty parts⟩
  | _ => ⟨fun h t => evQ B h t o⟩

theorem cQ_eq (B : Tab) (h : Hp) (t : PT SV) (o : Oper) : (cQ B o).f h t = evQ B h t o := by
  unfold cQ
  split <;> rename_i ho <;> first | rfl | simp only [evQ, ho]

/-- A plan, with what each step does. -/
inductive CPl where
  | done
  | quiet (i : Nat) (g : Gd) (dst : Option Nat) (c : Clq) (p : CPl)
  | act (i : Nat) (c : CO) (p : CPl)
  | both (i : Nat) (c : CO) (p : CPl) (j : Nat) (d : CO) (q : CPl)
  | bad

def cPl (N : Fns) (B : Tab) (all : List Oper) : Pl → CPl
  | .done => .done
  | .quiet i p => match all[i]? with
    | some o => .quiet i (gdOf all o) o.dst (cQ B o) (cPl N B all p)
    | none => .bad
  | .act i p => match all[i]? with
    | some o => .act i ⟨gdOf all o, o.dst, cOp N B o⟩ (cPl N B all p)
    | none => .bad
  | .both i p j q => match all[i]?, all[j]? with
    | some o, some u => .both i ⟨gdOf all o, o.dst, cOp N B o⟩ (cPl N B all p) j ⟨gdOf all u, u.dst, cOp N B u⟩ (cPl N B all q)
    | _, _ => .bad

def isTrue (b : Option Bool) : Bool :=
  match b with
  | some true => true
  | _ => false

def runP (rec : Rn) : CPl → St → List (Nat × Rec) → List (Nat × Hp) → Option (St × List (Nat × Rec) × List (Nat × Hp))
  | .done, st, R, Hs => some (st, R, Hs)
  | .quiet i g dst c p, st, R, Hs => match wantG g st.t with
    | some false => match putS st dst .undef with
      | some st' => runP rec p st' R Hs
      | none => none
    | some true => match c.f st.h st.t with
      | some (x, L) => match putS st dst x with
        | some st' => runP rec p st' (L.map (fun r => (i, r)) ++ R) Hs
        | none => none
      | none => none
    | none => none
  | .act i c p, st, R, Hs => match oneG c rec st (wantG c.g st.t) with
    | some st' => runP rec p st' R (if isTrue (wantG c.g st.t) then (i, st'.h) :: Hs else Hs)
    | none => none
  | .both i c p j d q, st, R, Hs => match oneG c rec st (wantG c.g st.t), oneG d rec st (wantG d.g st.t) with
    | some s1, some s2 => match runP rec p s1 R (if isTrue (wantG c.g st.t) then (i, s1.h) :: Hs else Hs) with
      | some (t1, R1, H1) => match runP rec q s2 R1 (if isTrue (wantG d.g st.t) then (j, s2.h) :: H1 else H1) with
        | some (t2, R2, H2) => if eqSt t1 t2 then some (t1, R2, H2) else none
        | none => none
      | none => none
    | _, _ => none
  | .bad, _, _, _ => none

theorem act_run {N : Fns} {B : Tab} {all : List Oper} {rec : Rn} {i : Nat} {o : Oper} {st st' : St} (ho : all[i]? = some o) (h : oneG ⟨gdOf all o, o.dst, cOp N B o⟩ rec st (wantG (gdOf all o) st.t) = some st') :
    evAct N B rec all i st = some (st', isTrue (wantG (gdOf all o) st.t)) := by
  rw [wantG_eq] at h ⊢
  unfold evAct
  simp only [ho]
  unfold oneG at h
  cases hw : wantS all st.t o with
  | none => rw [hw] at h; cases h
  | some b =>
    rw [hw] at h
    cases b with
    | true =>
      have := cOp_ok (N := N) (B := B) (rec := rec) h
      simp only [this]
      rfl
    | false =>
      have : putS st o.dst .undef = some st' := h
      simp only [this]
      rfl

theorem runP_ok {N : Fns} {B : Tab} {all : List Oper} {rec : Rn} : ∀ {p : Pl} {st : St} {R : List (Nat × Rec)} {Hs : List (Nat × Hp)} {r : St × List (Nat × Rec) × List (Nat × Hp)}, runP rec (cPl N B all p) st R Hs = some r → evPlan N B rec all p st R Hs = some r
  | .done, st, R, Hs, r, h => h
  | .quiet i p, st, R, Hs, r, h => by
    simp only [cPl] at h
    simp only [evPlan]
    cases ho : all[i]? with
    | none => rw [ho] at h; cases h
    | some o =>
      rw [ho] at h
      simp only [runP, wantG_eq, cQ_eq] at h ⊢
      split at h
      · rename_i hw
        try simp only [hw]
        split at h
        · rename_i s1 h1
          try simp only [h1]
          exact runP_ok h
        · cases h
      · rename_i hw
        try simp only [hw]
        split at h
        · rename_i x L hq
          try simp only [hq]
          split at h
          · rename_i s1 h1
            try simp only [h1]
            exact runP_ok h
          · cases h
        · cases h
      · cases h
  | .act i p, st, R, Hs, r, h => by
    simp only [cPl] at h
    simp only [evPlan]
    cases ho : all[i]? with
    | none => rw [ho] at h; cases h
    | some o =>
      rw [ho] at h
      simp only [runP] at h
      split at h
      · rename_i s1 h1
        try simp only [act_run ho h1]
        exact runP_ok h
      · cases h
  | .both i p j q, st, R, Hs, r, h => by
    simp only [cPl] at h
    simp only [evPlan]
    split at h
    · rename_i o u ho hu
      simp only [runP] at h
      split at h
      · rename_i s1 s2 h1 h2
        try simp only [act_run ho h1, act_run hu h2]
        split at h
        · rename_i t1 R1 H1 h3
          try simp only [runP_ok h3]
          split at h
          · rename_i t2 R2 H2 h4
            try simp only [runP_ok h4]
            exact h
          · cases h
        · cases h
      · cases h
    · cases h

/-- What a region that is drawn comes to. -/
structure CD where
  p : Option CPl
  m : List Nat

def cDraw (N : Fns) (B : Tab) (ops : Array Oper) : CD :=
  ⟨match planOf ops with | some p => some (cPl N B ops.toList p) | none => none, masks ops.toList []⟩

def evDraw (d : CD) (rec : Rn) (st : St) : Option St :=
  match d.p with
  | some p => match runP rec p st [] [] with
    | some (st', R, Hs) => match heldS d.m st.nx st.h R Hs with
      | true => some st'
      | false => none
    | none => none
  | none => none

def loopS (rec : St → Option (Ex × St)) : Nat → St → Option (Ex × St)
  | 0, _ => none
  | k + 1, st => match rec st with
    | some (ex, st') => match ex with
      | .normal => loopS rec k st'
      | ex => some (ex, st')
    | none => none

def scopeS (rec : Rn) (body : Code) : Nat → Code → St → Option (Ex × St)
  | 0, _, _ => none
  | k + 1, c, st => match rec c st with
    | some (ex, st') => match ex with
      | .goto l => match findLabel body l with
        | some rest => scopeS rec body k rest st'
        | none => none
      | ex => some (ex, st')
    | none => none

def sSeq (rec : Rn) (b : Code) (r : Option (Ex × St)) : Option (Ex × St) :=
  match r with
  | some (ex, st') => match ex with
    | .normal => rec b st'
    | ex => some (ex, st')
  | none => none
def sCond (rec : Rn) (x : Operand) (a b : Code) (st : St) : Option (Ex × St) :=
  match evOperand st.t x with
  | some (.bool t) => rec (if t then a else b) st
  | _ => none
def sBlock (id : Nat) (r : Option (Ex × St)) : Option (Ex × St) :=
  match r with
  | some (ex, st') => match ex with
    | .exit i => if i = id then some (.normal, st') else some (.exit i, st')
    | ex => some (ex, st')
  | none => none
def sNorm (r : Option St) : Option (Ex × St) :=
  match r with
  | some st' => some (.normal, st')
  | none => none

structure Cc where
  f : Rn → St → Option (Ex × St)

def cC (N : Fns) (B : Tab) (c : Code) : Cc :=
  match c with
  | .skip => ⟨fun _ st => some (.normal, st)⟩
  | .label _ => ⟨fun _ st => some (.normal, st)⟩
  | .exit id => ⟨fun _ st => some (.exit id, st)⟩
  | .goto l => ⟨fun _ st => some (.goto l, st)⟩
  | .ret => ⟨fun _ st => some (.ret, st)⟩
  | .seq a b => ⟨fun rec st => sSeq rec b (rec a st)⟩
  | .cond x a b => ⟨fun rec st => sCond rec x a b st⟩
  | .block id b => ⟨fun rec st => sBlock id (rec b st)⟩
  | .loop b => ⟨fun rec st => loopS (rec b) 100000 st⟩
  | .scope b => ⟨fun rec st => scopeS rec b 100000 b st⟩
  | .region _ ops true => ⟨fun rec st => sNorm (evDraw (cDraw N B ops) rec st)⟩
  | .region _ ops false => ⟨fun rec st => sNorm (runL (cOps N B ops.toList ops.toList) rec st)⟩
  | _ => ⟨fun _ _ => none⟩

def stepC (N : Fns) (B : Tab) (rec : Rn) (c : Code) (st : St) : Option (Ex × St) := (cC N B c).f rec st

def evC (N : Fns) (B : Tab) (n : Nat) : Rn := Nat.rec (fun _ _ => none) (fun _ rec => stepC N B rec) n

/-! ### What holds of it -/

structure FnsOk (P : Program) (W : World) (op : List Value) (N : Fns) : Prop where
  fn : ∀ f fn, N.F f = some fn → P.funcs[f]? = some fn ∧ (fn.name == "runtime.NumGoroutine") = false
  orc : ∀ f xs v, N.O f xs = some v → ∀ (σ : Env) vs, σ.op = op → concL σ xs = some vs → ∃ fn V, P.funcs[f]? = some fn ∧ (fn.name == "runtime.NumGoroutine") = false ∧ fn.body.isSome = true ∧ conc σ v = some V ∧
    ∀ w, Below W.heap.size W w → Calls P f vs.toArray w fun e w' => e = .returned V ∧ Below w.heap.size w w'
  ext : ∀ f xs v, N.X f xs = some v → ∀ (σ : Env) vs, σ.op = op → concL σ xs = some vs → ∃ V, conc σ v = some V ∧ ∀ w, (callFunc f vs.toArray).run P w = .ok (.value V) w

section
variable {P : Program} {W : World} {op : List Value} {N : Fns} {B : Tab}

structure Gam (W : World) (op : List Value) (σ : Env) (st : St) (a : Act) (w : World) : Prop where
  op : σ.op = op
  nx : σ.bl.length = st.nx
  t : TRel σ st.t a.tmps
  sz : a.tmps.size = st.sz
  df : a.defers = []
  h : HRel W σ st.h w

def RecOk (P : Program) (W : World) (op : List Value) (rec : Rn) : Prop :=
  ∀ c st ex st', rec c st = some (ex, st') → ∀ σ a w, Gam W op σ st a w → c.wp P (fun e a' w' => e = ex.to ∧ ∃ σ', σ.le σ' ∧ Gam W op σ' st' a' w') a w

theorem putS_ok {σ : Env} {st st' : St} {a : Act} {w : World} {dst : Option Nat} {x : SV} {V : Value} (G : Gam W op σ st a w) (hx : conc σ x = some V) (he : putS st dst x = some st') :
    Gam W op σ st' (a.put dst V) w ∧ st'.h = st.h ∧ st'.nx = st.nx := by
  unfold putS at he
  cases dst with
  | none =>
    cases he
    exact ⟨⟨G.op, G.nx, G.t, G.sz, G.df, G.h⟩, rfl, rfl⟩
  | some d =>
    simp only at he
    cases hd : Nat.ble (Nat.succ d) st.sz with
    | false => rw [hd] at he; cases he
    | true =>
      rw [hd] at he
      cases he
      have hd' : d < a.tmps.size := by
        rw [G.sz]
        exact Nat.lt_of_succ_le (Nat.le_of_ble_eq_true hd)
      refine ⟨⟨G.op, G.nx, G.t.put hx hd', ?_, G.df, G.h⟩, rfl, rfl⟩
      simp [Act.put, G.sz]

theorem wantS_ok {σ : Env} {st : St} {a : Act} {w : World} {ops : Array Oper} {o : Oper} {b : Bool} (G : Gam W op σ st a w) (he : wantS ops.toList st.t o = some b) : Region.wanted o (yielded ops a.tmps) = b := by
  unfold wantS at he
  unfold Region.wanted
  split at he
  · rename_i hg
    cases he
    simp [hg]
  · rename_i j want hg
    simp only [hg, yielded]
    rw [Array.getElem?_toList] at he
    split at he
    · rename_i oj hoj
      rw [hoj, Option.bind_some]
      split at he
      · rename_i d hd
        rw [hd, Option.bind_some]
        have hT := G.t d
        split at he
        · rename_i b' hb'
          cases he
          rw [hb'] at hT
          simp only [Option.getD_some, conc, Option.some.injEq] at hT
          have : a.tmps[d]? = some (.bool b') := by
            cases hq : a.tmps[d]? with
            | none => simp [hq, undef] at hT
            | some v => simp [hq] at hT; rw [hT]
          simp [this]
        · cases he
        · rename_i hx hnb hno
          cases he
          cases hq : a.tmps[d]? with
          | none => simp
          | some v =>
            cases v with
            | bool b' =>
              exfalso
              simp only [Array.getD_eq_getD_getElem?, hq, Option.getD_some] at hT
              cases hg' : st.t.get d with
              | none => simp [hg', SV.undef, conc, concL] at hT
              | some x =>
                rw [hg', Option.getD_some] at hT
                cases x with
                | bool b2 => exact hnb _ hg'
                | opq k => exact hno _ hg'
                | _ => simp [conc, Option.bind_eq_some_iff, Option.map_eq_some_iff] at hT
            | _ => simp
      · rename_i hd
        cases he
        simp [hd]
    · rename_i hoj
      cases he
      simp [hoj]

theorem ofList_get : ∀ (l : List SV) (i : Nat) (t : PT SV) (j : Nat), (ofList i l t).get j = if i ≤ j ∧ j < i + l.length then l[j - i]? else t.get j
  | [], i, t, j => by
    simp only [ofList, List.length_nil, Nat.add_zero]
    rw [if_neg (by omega)]
  | x :: l, i, t, j => by
    simp only [ofList, ofList_get l, PT.get_set, List.length_cons]
    by_cases h1 : j = i
    · subst h1
      rw [if_neg (by omega), if_pos rfl, if_pos (by omega)]
      simp
    · by_cases h2 : i + 1 ≤ j ∧ j < i + 1 + l.length
      · rw [if_pos h2, if_pos (by omega), show j - i = (j - (i + 1)) + 1 by omega, List.getElem?_cons_succ]
      · rw [if_neg h2, if_neg h1, if_neg (by omega)]

def resOne (tmps : Array Value) (r : ResultVar) : Sem Value :=
  match r with
  | .tmp t => pure (tmps.getD t undef)
  | .cell a t => do loadVar t (← asAddr (tmps.getD a undef))

theorem evRes_ok {σ : Env} {h : Hp} {t : PT SV} {tmps : Array Value} {w : World} (hB : TabOk P W op B) (ho : σ.op = op) (H : HRel W σ h w) (ht : TRel σ t tmps) : ∀ {l : List ResultVar} {xs : List SV}, evRes B h t l = some xs →
    ∃ vs, concL σ xs = some vs ∧ (l.mapM (resOne tmps)).run P w = .ok vs w
  | [], xs, he => by
    cases he
    exact ⟨[], rfl, by simp⟩
  | r :: l, xs, he => by
    simp only [evRes] at he
    split at he
    · rename_i x xs' hx hxs
      cases he
      obtain ⟨vs, h1, h2⟩ := evRes_ok hB ho H ht hxs
      have key : ∃ v, conc σ x = some v ∧ (resOne tmps r).run P w = .ok v w := by
        cases r with
        | tmp i =>
          simp only [Option.some.injEq] at hx
          subst hx
          exact ⟨_, ht i, rfl⟩
        | cell a ty =>
          simp only at hx
          split at hx
          · rename_i id off hp
            split at hx
            · rename_i v L hl
              cases hx
              have hc := ht a
              rw [hp] at hc
              have hB' : TabOk P W σ.op B := by rw [ho]; exact hB
              obtain ⟨g1, V, g2, g3⟩ := evLoad_ok hB' H hc hl
              refine ⟨V, g2, ?_⟩
              have := g3 w H.below g1
              simp only [conc, Option.map_eq_some_iff] at hc
              obtain ⟨z, _, hz⟩ := hc
              rw [← hz] at this
              simp only [resOne, Array.getD_eq_getD_getElem?] at hz ⊢
              rw [← hz]
              simpa [Instr.loadAt, Instr.sureAddr, asAddr] using this
            · cases hx
          · cases hx
      obtain ⟨v, k1, k2⟩ := key
      refine ⟨v :: vs, concL_mk k1 h1, ?_⟩
      rw [List.mapM_cons]
      simp only [Sem.run_bind]
      rw [k2]
      simp only [Result.andThen_ok, Sem.run_bind]
      rw [h2]
      simp
    · cases he

theorem results_ok {σ : Env} {h : Hp} {t : PT SV} {tmps : Array Value} {w : World} {fn : Func} (hB : TabOk P W op B) (ho : σ.op = op) (H : HRel W σ h w) (ht : TRel σ t tmps) {xs : List SV} (he : evRes B h t fn.results.toList = some xs) :
    ∃ V, conc σ (oneOf xs) = some V ∧ (results fn tmps).run P w = .ok V w := by
  obtain ⟨vs, h1, h2⟩ := evRes_ok (P := P) hB ho H ht he
  have hlen := concL_length h1
  refine ⟨if h : vs.toArray.size = 1 then vs.toArray[0] else .tuple vs.toArray, ?_, ?_⟩
  · cases xs with
    | nil =>
      cases h1
      rfl
    | cons x xs =>
      obtain ⟨v, us, hv, hu, rfl⟩ := concL_cons h1
      cases xs with
      | nil =>
        cases hu
        simpa [oneOf] using hv
      | cons y ys =>
        have := concL_length hu
        simp only [oneOf, conc, h1, Option.map_some]
        rw [dif_neg (by simp only [List.size_toArray, List.length_cons] at this ⊢; omega)]
  · have e : results fn tmps = (do let vs ← fn.results.mapM (resOne tmps); pure (if h : vs.size = 1 then vs[0] else .tuple vs)) := rfl
    rw [e, Sem.run_bind, Array.mapM_eq_mapM_toList]
    simp only [Sem.run_map, h2]
    rfl

/-- A call. -/
theorem evCall_ok {rec : Rn} (hrec : RecOk P W op rec) (hB : TabOk P W op B) (hN : FnsOk P W op N) {σ : Env} {f : Nat} {xs : List SV} {vs : List Value} {h h' : Hp} {nx n' : Nat} {v : SV} {w : World}
    (ho : σ.op = op) (hn : σ.bl.length = nx) (H : HRel W σ h w) (hx : concL σ xs = some vs) (he : evCall N B rec f xs h nx = some (v, h', n')) :
    (∃ V, conc σ v = some V ∧ h' = h ∧ n' = nx ∧ (callFunc f vs.toArray).run P w = .ok (.value V) w) ∨
    ((callFunc f vs.toArray).run P w = .ok (.enter f vs.toArray) w ∧ Calls P f vs.toArray w fun e w' => ∃ V σ', e = .returned V ∧ σ.le σ' ∧ σ'.bl.length = n' ∧ conc σ' v = some V ∧ HRel W σ' h' w') := by
  have enter : ∀ fn, P.funcs[f]? = some fn → (fn.name == "runtime.NumGoroutine") = false → fn.body.isSome = true → (callFunc f vs.toArray).run P w = .ok (.enter f vs.toArray) w := by
    intro fn h1 h2 h3
    obtain ⟨c, hc⟩ := Option.isSome_iff_exists.1 h3
    simp only [callFunc, Sem.run_bind, run_program, Result.andThen_ok, h1, h2, Bool.false_eq_true, if_false, hc, Option.isNone_some]
    rfl
  simp only [evCall, evBody, retOf] at he
  split at he
  · rename_i x hx'
    cases he
    obtain ⟨V, h1, h2⟩ := hN.ext _ _ _ hx' σ vs ho hx
    exact .inl ⟨V, h1, rfl, rfl, h2 w⟩
  · split at he
    · rename_i x hx'
      cases he
      obtain ⟨fn, V, h1, h2, h3, h4, h5⟩ := hN.orc _ _ _ hx' σ vs ho hx
      refine .inr ⟨enter fn h1 h2 h3, (h5 w H.below).mono fun e w' ⟨he, hb⟩ => ⟨V, σ, he, .refl σ, hn, h4, H.kept hb⟩⟩
    · split at he
      · rename_i fn hfn
        obtain ⟨h1, h2⟩ := hN.fn _ _ hfn
        split at he
        · rename_i c hc
          split at he
          · rename_i hle
            have hle := Nat.le_of_ble_eq_true hle
            split at he
            · rename_i ex st hst
              split at he
              · rename_i rs hex hrs
                cases he
                refine .inr ⟨enter fn h1 h2 (by simp [hc]), ?_⟩
                have hvl := concL_length hx
                have hG : Gam W op σ ⟨ofList 0 xs .nil, fn.ntmps, h, nx⟩ { tmps := vs.toArray ++ Array.replicate (fn.ntmps - vs.toArray.size) undef, defers := [] } w := by
                  refine ⟨ho, hn, fun i => ?_, by simp; omega, rfl, H⟩
                  rw [ofList_get]
                  simp only [Array.getD_eq_getD_getElem?, Nat.zero_le, true_and, Nat.zero_add, Nat.sub_zero, PT.get_nil]
                  by_cases hi : i < xs.length
                  · rw [if_pos hi, List.getElem?_eq_getElem hi, Option.getD_some]
                    obtain ⟨v', e1, e2⟩ := concL_get hx (List.getElem?_eq_getElem hi)
                    rw [Array.getElem?_append_left (by simp; omega)]
                    simp [e1, e2]
                  · rw [if_neg hi, Option.getD_none]
                    rw [Array.getElem?_append_right (by simp; omega)]
                    by_cases hi2 : i - vs.toArray.size < fn.ntmps - vs.toArray.size
                    · rw [Array.getElem?_replicate, if_pos hi2]
                      rfl
                    · rw [Array.getElem?_replicate, if_neg hi2]
                      rfl
                refine calls_of_wp h1 hc (wp_mono (hrec _ _ _ _ hst σ _ w hG) fun e a' w' ⟨he, σ', hle', G'⟩ => ?_)
                obtain ⟨V, k1, k2⟩ := results_ok (P := P) hB G'.op G'.h G'.t hrs
                have hfin : bodyPost P fn (fun e w' => ∃ V σ', e = Ending.returned V ∧ σ.le σ' ∧ σ'.bl.length = st.nx ∧ conc σ' (oneOf rs) = some V ∧ HRel W σ' st.h w') .ret a' w' :=
                  ⟨G'.df, V, k2, V, σ', rfl, hle', G'.nx, k1, G'.h⟩
                subst he
                cases ex with
                | normal => exact hfin
                | ret => exact hfin
                | exit id => cases hex
                | goto l => cases hex
              · cases he
            · cases he
          · cases he
        · cases he
      · cases he

/-- One operation. -/
theorem evOp_ok {rec : Rn} (hrec : RecOk P W op rec) (hB : TabOk P W op B) (hN : FnsOk P W op N) {σ : Env} {st st' : St} {a : Act} {w : World} {o : Oper} (G : Gam W op σ st a w) (he : evOp N B rec st o = some st')
    {K : Act → World → Prop} {Q : Exit → Act → World → Prop} (hK : ∀ σ' a' w', σ.le σ' → Gam W op σ' st' a' w' → K a' w') : o.wp P a w K Q := by
  have hB' : TabOk P W σ.op B := by rw [G.op]; exact hB
  simp only [evOp, opCall, putC, opPlain, opAct] at he
  unfold Oper.wp
  split at he
  · rename_i f args ts ho
    split at he
    · rename_i g x y xs hf hxs
      split at he
      · rename_i v h nx hc
        have hfc := evOperand_conc G.t hf
        simp only [conc, Option.bind_eq_some_iff, Option.map_eq_some_iff] at hfc
        obtain ⟨vx, hvx, vy, hvy, hfc⟩ := hfc
        have hargs := evOperands_conc G.t hxs
        have hall := concL_append (concL_append hvx hargs) hvy
        have hrun : (execOp a.eval o).run P w = (callFunc g ((vx ++ List.map a.eval args.toList) ++ vy).toArray).run P w := by
          simp only [execOp, ho, resolve, ← hfc, Deferred.ofValue, Sem.run_bind, Sem.run_pure, Result.andThen_ok, invoke]
          congr 2
          apply Array.ext'
          simp
        rw [hrun]
        rcases evCall_ok hrec hB hN G.op G.nx G.h hall hc with ⟨V, h1, rfl, rfl, h2⟩ | ⟨h1, h2⟩
        · rw [h2, Oper.upon_value]
          obtain ⟨G', _⟩ := putS_ok (st := ⟨st.t, st.sz, st.h, st.nx⟩) ⟨G.op, G.nx, G.t, G.sz, G.df, G.h⟩ h1 he
          exact hK σ _ _ (.refl σ) G'
        · rw [h1, Oper.upon_enter]
          refine h2.mono fun e w' ⟨V, σ', hev, hle, hn', hV, H'⟩ => ?_
          subst hev
          obtain ⟨G', _⟩ := putS_ok (st := ⟨st.t, st.sz, h, nx⟩) (a := a) (w := w') ⟨hle.op.trans G.op, hn', G.t.le hle, G.sz, G.df, H'⟩ hV he
          exact hK σ' _ _ hle G'
      · cases he
    · cases he
  · split at he
    · rename_i x L hq
      obtain ⟨g1, V, g2, g3⟩ := evQ_ok hB' G.h G.t hq
      rw [g3 w G.h.below g1, Oper.upon_value]
      obtain ⟨G', _⟩ := putS_ok G g2 he
      exact hK σ _ _ (.refl σ) G'
    · split at he
      · rename_i x sk h nx hq
        obtain ⟨σ', w', g1, g2, g3, V, g4, g5, g6⟩ := evA_ok hB' G.h G.nx G.t hq
        rw [g5]
        obtain ⟨G', _⟩ := putS_ok (st := ⟨st.t, st.sz, h, nx⟩) (a := a) (w := w') ⟨g1.op.trans G.op, g2, G.t.le g1, G.sz, G.df, g3⟩ g4 he
        cases sk with
        | true =>
          have := g6 rfl
          subst this
          simp only [if_true]
          rw [Oper.upon_skip]
          exact hK σ' _ _ g1 G'
        | false =>
          simp only [Bool.false_eq_true, if_false]
          rw [Oper.upon_value]
          exact hK σ' _ _ g1 G'
      · cases he

theorem evList_ok {rec : Rn} (hrec : RecOk P W op rec) (hB : TabOk P W op B) (hN : FnsOk P W op N) {ops : Array Oper} {Q : Exit → Act → World → Prop} : ∀ {l : List Oper} {σ : Env} {st st' : St} {a : Act} {w : World}, Gam W op σ st a w → evList N B rec ops.toList l st = some st' →
    (∀ σ' a' w', σ.le σ' → Gam W op σ' st' a' w' → Q .normal a' w') → wpList P ops Q l a w
  | [], σ, st, st', a, w, G, he, hQ => by
    cases he
    exact hQ σ a w (.refl σ) G
  | o :: l, σ, st, st', a, w, G, he, hQ => by
    simp only [evList, evOne] at he
    unfold wpList
    split at he
    · rename_i st1 h1
      split at h1
      · rename_i hw
        rw [if_pos (wantS_ok G hw)]
        refine .inl (evOp_ok hrec hB hN G h1 fun σ' a' w' hle G' => ?_)
        exact evList_ok hrec hB hN G' he fun σ'' a'' w'' hle' G'' => hQ σ'' a'' w'' (hle.trans hle') G''
      · rename_i hw
        rw [if_neg (by rw [wantS_ok G hw]; simp)]
        obtain ⟨G', _⟩ := putS_ok G (conc_undef σ) h1
        exact evList_ok hrec hB hN G' he hQ
      · cases h1
    · cases he

end
end
end Go.Proofs.YtjmiaemabhlnjaaGreatDoor.Sym
