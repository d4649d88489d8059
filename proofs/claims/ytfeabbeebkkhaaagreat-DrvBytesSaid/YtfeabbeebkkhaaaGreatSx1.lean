/- A framework for walks: a function's body, as the model has it (frames of slots), is turned into a tree whose operations name values by their place in a list; a proof over the tree is a proof over the body. Nothing here speaks of one program. -/
import Derived.Calls
import Derived.Orders
import Derived.Deep.Quiet
import Derived.StillTail
namespace Go.Sx

/-! ### trees -/
/-- What a region that draws holds: an operation (its slots renamed), and under which test it stands. -/
structure Q where
  g : Option (Operand × Bool)
  o : Oper

inductive RV where
  | tmp (i : Nat)
  | cell (i : Nat) (ty : TypeId)

inductive Tree where
  | op (o : Oper) (k : Tree)
  | gop (c : Operand) (b : Bool) (o : Oper) (k : Tree)
  | draw (qs : List Q) (k : Tree)
  | cond (c : Operand) (t e : Tree)
  | ret (rs : List RV)
  | loop (ini : List Operand) (body : Tree)
  | back (lvl : Nat) (vs : List Operand)
  /-- a region that draws and in which operations that change something stand among such as do not -/
  | mix (k : Tree)
  | mq (g : Option (Operand × Bool)) (o : Oper) (k : Tree)
  | mD (k : Tree)
  | mR (k : Tree)
  | mend (k : Tree)
  /-- the next one of several operations that change something: in any order -/
  | both (a b : Tree)

abbrev Env := List Value
def ev (env : Env) : Operand → Value
  | .tmp i => env.getD i undef
  | .const v => v
  | .global g => .pointer (some ⟨g, 0, none⟩)
  | .func f => .func (.func f) #[] #[]

/-- One operation, over an environment: what may follow. -/
def opW (P : Program) (o : Oper) (env : Env) (w : World) (R : Ending → World → Prop) (K : Value → World → Prop) : Prop :=
  match (execOp (ev env) o).run P w with
  | .ok (.value v) w' => K v w'
  | .ok .skip w' => K undef w'
  | .ok (.enter f args) w' => Calls P f args w' fun
      | .returned v, w'' => K v w''
      | .panicked chain, w'' => R (.panicked chain) w''
      | .outgrown, _ => False
  | .ok (.row row args) w' => Rows P row args w' fun v w'' => K v w''
  | .halt (.panic v) w' => R (.panicked [{ v, recovered := false }]) w'
  | _ => False

def qAt (P : Program) (o : Oper) (env : Env) (C : World → Prop) (w : World) (v : Value) : Prop := Oper.quietUpon P C w v ((execOp (ev env) o).run P w)
def qOne (P : Program) (C : World → Prop) (q : Q) (env : Env) (next : Value → Prop) : Prop :=
  match q.g with
  | none => ∃ v, (∀ w, C w → qAt P q.o env C w v) ∧ next v
  | some (c, b) => (ev env c = .bool b → ∃ v, (∀ w, C w → qAt P q.o env C w v) ∧ next v) ∧ (ev env c ≠ .bool b → next undef)
def qsW (P : Program) (C : World → Prop) : List Q → Env → (Env → Prop) → Prop
  | [], env, next => next env
  | q :: qs, env, next => qOne P C q env fun v => qsW P C qs (v :: env) next

def rvW (P : Program) (env : Env) (w : World) : RV → Value → Prop
  | .tmp i, v => v = env.getD i undef
  | .cell i ty, v => ∃ a, env.getD i undef = .pointer (some a) ∧ (loadVar ty a).run P w = .ok v w
def rvsW (P : Program) (env : Env) (w : World) : List RV → List Value → Prop
  | [], [] => True
  | r :: rs, v :: vs => rvW P env w r v ∧ rvsW P env w rs vs
  | _, _ => False
def retVal : List Value → Value
  | [v] => v
  | vs => .tuple vs.toArray

def W (P : Program) (R : Ending → World → Prop) : Tree → Env → World → List (List Value → World → Prop) → Prop
  | .op o k, env, w, B => opW P o env w R fun v w' => W P R k (v :: env) w' B
  | .gop c b o k, env, w, B => (ev env c = .bool b → opW P o env w R fun v w' => W P R k (v :: env) w' B) ∧ (ev env c ≠ .bool b → W P R k (undef :: env) w B)
  | .draw qs k, env, w, B => ∃ C : World → Prop, C { w with drawn := w.drawn + 1 } ∧ qsW P C qs env fun env' => ∀ w', C w' → W P R k env' w' B
  | .cond c t e, env, w, B => ∃ b, ev env c = .bool b ∧ (b = true → W P R t env w B) ∧ (b = false → W P R e env w B)
  | .ret rs, env, w, _ => ∃ vs, rvsW P env w rs vs ∧ R (.returned (retVal vs)) w
  | .loop ini body, env, w, B => ∃ (I : List Value → World → Prop) (μ : List Value → World → Nat), I (ini.map (ev env)) w ∧
      ∀ vs w', vs.length = ini.length → I vs w' → W P R body (vs ++ env) w' (B ++ [fun vs' w'' => I vs' w'' ∧ μ vs' w'' < μ vs w'])
  | .back l vs, env, w, B => ∃ b, B[l]? = some b ∧ b (vs.map (ev env)) w
  | .mix k, env, w, B => ∃ D : World → Prop, D { w with drawn := w.drawn + 1 } ∧ W P R k env { w with drawn := w.drawn + 1 } (B ++ [fun (_ : List Value) (w : World) => D w])
  | .mq none o k, env, w, B => ∃ p, B.getLast? = some p ∧ ∃ v, (∀ w', p [] w' → qAt P o env (p []) w' v) ∧ W P R k (v :: env) w B
  | .mq (some (c, b)) o k, env, w, B => ∃ p, B.getLast? = some p ∧ (ev env c = .bool b → ∃ v, (∀ w', p [] w' → qAt P o env (p []) w' v) ∧ W P R k (v :: env) w B) ∧ (ev env c ≠ .bool b → W P R k (undef :: env) w B)
  | .mD k, env, w, B => ∃ p, B.getLast? = some p ∧ ∃ D : World → Prop, (∀ w', D w' → p [] w') ∧ D w ∧ W P R k env w (B.dropLast ++ [fun (_ : List Value) (w : World) => D w])
  | .mR k, env, w, B => ∃ D : World → Prop, D w ∧ W P R k env w (B.dropLast ++ [fun (_ : List Value) (w : World) => D w])
  | .mend k, env, w, B => W P R k env w B.dropLast
  | .both a b, env, w, B => W P R a env w B ∧ W P R b env w B

/-! ### renaming -/
def mapX (f : Operand → Operand) : Op → Op
  | .move x => .move (f x) | .assign x => .assign (f x) | .pick c a b => .pick (f c) (f a) (f b) | .alloc e => .alloc e
  | .box e v => .box e (f v) | .build t ps => .build t (ps.map fun p => (p.1, f p.2)) | .buildSlice t n ps => .buildSlice t n (ps.map fun p => (p.1, f p.2))
  | .insert t m k v => .insert t (f m) (f k) (f v) | .load t a => .load t (f a) | .store t a v => .store t (f a) (f v) | .ready g => .ready g | .waits g => .waits g
  | .nilCheck x => .nilCheck (f x) | .binOp op t x y t' => .binOp op t (f x) (f y) t' | .unOp op t x => .unOp op t (f x) | .convert s d x => .convert s d (f x)
  | .sliceToArrayPointer d x => .sliceToArrayPointer d (f x) | .makeInterface t x => .makeInterface t (f x) | .makeFunc fn fi ca => .makeFunc fn (fi.map f) (ca.map f)
  | .makeMap t r => .makeMap t (r.map f) | .makeChan t s => .makeChan t (f s) | .makeSlice t l c => .makeSlice t (f l) (f c)
  | .slice t x l h m => .slice t (f x) (l.map f) (h.map f) (m.map f) | .fieldAddr t x i => .fieldAddr t (f x) i | .field t x i => .field t (f x) i
  | .indexAddr t x i => .indexAddr t (f x) (f i) | .index t x i => .index t (f x) (f i) | .lookup t x i ok => .lookup t (f x) (f i) ok
  | .mapUpdate t m k v => .mapUpdate t (f m) (f k) (f v) | .mapEntry t m k => .mapEntry t (f m) (f k) | .entryStore t m s v => .entryStore t (f m) (f s) (f v)
  | .range t x => .range t (f x) | .next it s => .next (f it) s | .entry it => .entry (f it) | .typeAssert x a b ok => .typeAssert (f x) a b ok | .extract t i => .extract (f t) i
  | .call c => .call (mapC c) | .go c => .go (mapC c) | .defer c => .defer (mapC c) | .panic x => .panic (f x) | .send c x => .send (f c) (f x) | .recv t c ok => .recv t (f c) ok
  | .select cs b => .select cs b
where mapC (c : Call) : Call := { c with callee := (match c.callee with | .value x => .value (f x) | .invoke r m => .invoke (f r) m | .builtin b => .builtin b), args := c.args.map f }

/-- a constant stays one, and nothing else becomes one (print and '==' ask which operands are constants) -/
structure Keeps (f : Operand → Operand) : Prop where
  con : ∀ v, f (.const v) = .const v
  tmp : ∀ t, ∃ t', f (.tmp t) = .tmp t'
  glo : ∀ g, f (.global g) = .global g
  fn : ∀ g, f (.func g) = .func g

theorem resolve_map {ρ : Operand → Value} {f : Operand → Operand} (hf : Keeps f) (c : Call) (ty : TypeId) : resolve ρ (mapX.mapC f c) ty = resolve (fun x => ρ (f x)) c ty := by
  obtain ⟨callee, args, tys⟩ := c
  have hm : (args.map f).map ρ = args.map fun x => ρ (f x) := by rw [Array.map_map]; rfl
  cases callee with
  | value g => simp only [mapX.mapC, resolve, hm]
  | invoke r m => simp only [mapX.mapC, resolve, hm]
  | builtin b =>
    simp only [mapX.mapC, resolve, hm]
    congr 3
    rw [Array.map_map]
    refine Array.map_congr_left fun x _ => ?_
    cases x with
    | const v => simp [hf.con]
    | tmp t => obtain ⟨t', h⟩ := hf.tmp t; simp [h]
    | global g => simp [hf.glo]
    | func g => simp [hf.fn]

theorem eqGuard_map {f : Operand → Operand} (hf : Keeps f) (op : BinOp) (t : TypeId) (x y : Operand) (a b : Value) : eqGuard op t (f x) (f y) a b = eqGuard op t x y a b := by
  have k : ∀ x, f x = x ∨ ∃ t t', x = .tmp t ∧ f x = .tmp t' := by
    intro x
    cases x with
    | const v => exact .inl (hf.con v)
    | tmp t => obtain ⟨t', h⟩ := hf.tmp t; exact .inr ⟨t, t', rfl, h⟩
    | global g => exact .inl (hf.glo g)
    | func g => exact .inl (hf.fn g)
  rcases k x with hx | ⟨t1, t2, hx, hx'⟩ <;> rcases k y with hy | ⟨u1, u2, hy, hy'⟩
  · rw [hx, hy]
  · rw [hx, hy', hy]; rfl
  · rw [hy, hx', hx]; rfl
  · rw [hx', hx, hy', hy]; rfl

theorem execOp_map {ρ : Operand → Value} {f : Operand → Operand} (hf : Keeps f) (o : Oper) (hs : ∀ cs b, o.op ≠ .select cs b) :
    execOp ρ { o with op := mapX f o.op } = execOp (fun x => ρ (f x)) o := by
  obtain ⟨dst, op, type, pos, after, guard⟩ := o
  cases op <;> simp only [mapX, execOp, resolve_map hf, eqGuard_map hf, Array.map_map, Option.map_map] <;> first | rfl | skip
  case select cs b => exact absurd rfl (hs cs b)

/-! ### from code to a tree -/
/-- which level of the environment a slot is known to hold: the first row of a slot counts -/
abbrev SF := List (Nat × Nat)
def at_ : SF → Nat → Option Nat
  | [], _ => none
  | (i, lv) :: r, j => if i = j then some lv else at_ r j
def renX (n : Nat) (sf : SF) : Operand → Operand
  | .tmp j => .tmp (match at_ sf j with | some lv => n - 1 - lv | none => 0)
  | x => x
def known (sf : SF) : Operand → Bool
  | .tmp j => (at_ sf j).isSome
  | _ => true
def isSel : Op → Bool
  | .select .. => true
  | _ => false
def forceN {α : Type} (n : Nat) (k : Nat → α) : α :=
  match n with
  | 0 => k 0
  | m + 1 => k (m + 1)
theorem forceN_eq {α : Type} (n : Nat) (k : Nat → α) : forceN n k = k n := by cases n <;> rfl
def plainMove (o : Oper) : Option (Nat × Nat) :=
  match o.op, o.guard, o.dst with
  | .move (.tmp j), none, some d => some (j, d)
  | .assign (.tmp j), none, some d => some (j, d)
  | _, _, _ => none
def okOp (sf : SF) (o : Oper) : Bool := o.op.operands.toList.all (known sf) && !isSel o.op
/-- an operation bare of its place -/
def O (op : Op) (ty : TypeId) : Oper := { dst := none, op := op, type := ty, pos := "", after := #[], guard := none }
def renO (n : Nat) (sf : SF) (o : Oper) : Oper := O (mapX (renX n sf) o.op) o.type

abbrev KK := SF → Nat → Option Tree
/-- the slot that an operation writes, known from now on at level n -/
def bindD (sz : Nat) (o : Oper) (sf : SF) (n : Nat) (k : KK) : Option Tree :=
  match o.dst with
  | some d => if d < sz then forceN (n + 1) fun m => k ((d, n) :: sf) m else none
  | none => forceN (n + 1) fun m => k sf m
def cmpOp (sz : Nat) (ops : Array Oper) (o : Oper) (sf : SF) (n : Nat) (k : KK) : Option Tree :=
  if okOp sf o then
    match plainMove o with
    | some (j, d) => match at_ sf j with
      | some lv => if d < sz then k ((d, lv) :: sf) n else none
      | none => none
    | none =>
      match o.guard with
      | none => (bindD sz o sf n k).map (.op (renO n sf o))
      | some (j, b) =>
        match (ops[j]?).bind (·.dst) with
        | some d => if (at_ sf d).isSome then (bindD sz o sf n k).map (.gop (renX n sf (.tmp d)) b (renO n sf o)) else none
        | none => none
  else none
def cmpOps (sz : Nat) (ops : Array Oper) : List Oper → SF → Nat → KK → Option Tree
  | [], sf, n, k => k sf n
  | o :: rest, sf, n, k => cmpOp sz ops o sf n fun sf n => cmpOps sz ops rest sf n k
/-- the operations of a region that draws, gathered -/
def cmpQs (sz : Nat) (ops : Array Oper) : List Oper → SF → Nat → List Q → (List Q → KK) → Option Tree
  | [], sf, n, acc, k => k acc.reverse sf n
  | o :: rest, sf, n, acc, k =>
    if okOp sf o then
      match plainMove o with
      | some (j, d) => match at_ sf j with
        | some lv => if d < sz then cmpQs sz ops rest ((d, lv) :: sf) n acc k else none
        | none => none
      | none =>
        match o.guard with
        | none => bindD sz o sf n fun sf' m => cmpQs sz ops rest sf' m (⟨none, renO n sf o⟩ :: acc) k
        | some (j, b) =>
          match (ops[j]?).bind (·.dst) with
          | some d => if (at_ sf d).isSome then bindD sz o sf n fun sf' m => cmpQs sz ops rest sf' m (⟨some (renX n sf (.tmp d), b), renO n sf o⟩ :: acc) k else none
          | none => none
    else none

/-! ### which slots are live, as a number's bits (advice alone: nothing leans on it but that the check at a loop's back edge goes through) -/
def lookupL {α : Type} (id : Nat) : List (Nat × α) → Option α
  | [] => none
  | (i, x) :: r => if i = id then some x else lookupL id r
def bit (s : Nat) : Nat := 1 <<< s
def without (x s : Nat) : Nat := x ^^^ (x &&& bit s)
def addTmps : List Operand → Nat → Nat
  | [], x => x
  | .tmp t :: r, x => addTmps r (x ||| bit t)
  | _ :: r, x => addTmps r x
def liveOps (ops : Array Oper) : List Oper → Nat → (Nat → Nat) → Nat
  | [], out, k => k out
  | o :: rest, out, k => liveOps ops rest out fun x =>
    forceN (addTmps o.op.operands.toList (match o.guard with | some (j, _) => (match (ops[j]?).bind (·.dst) with | some d => bit d | none => 0) | none => 0) ||| (match o.dst with | some d => without x d | none => x)) k
def live (rl : Nat) : Code → Nat → List (Nat × Nat) → Nat
  | .region _ ops _, out, _ => liveOps ops ops.toList out id
  | .seq a b, out, bs => forceN (live rl b out bs) fun o => live rl a o bs
  | .cond c a b, out, bs => forceN (live rl a out bs) fun x => forceN (live rl b out bs) fun y => addTmps [c] (x ||| y)
  | .block id b, out, bs => live rl b out ((id, out) :: bs)
  | .loop b, _, bs => live rl b 0 bs
  | .exit id, _, bs => (lookupL id bs).getD 0
  | .ret, _, _ => rl
  | _, out, _ => out
def writeOps : List Oper → Nat → Nat
  | [], x => x
  | o :: r, x => match o.dst with | some d => forceN (x ||| bit d) fun x => writeOps r x | none => writeOps r x
def writes : Code → Nat → Nat
  | .region _ ops _, x => writeOps ops.toList x
  | .seq a b, x => forceN (writes a x) fun x => writes b x
  | .cond _ a b, x => forceN (writes a x) fun x => writes b x
  | .block _ b, x => writes b x
  | .loop b, x => writes b x
  | _, x => x

/-! ### the compiler -/
abbrev K := SF → Nat → Nat → Option Tree
def rvOf (n : Nat) (sf : SF) : ResultVar → Option RV
  | .tmp s => (at_ sf s).map fun lv => .tmp (n - 1 - lv)
  | .cell s ty => (at_ sf s).map fun lv => .cell (n - 1 - lv) ty
def rvsOf (n : Nat) (sf : SF) : List ResultVar → Option (List RV)
  | [] => some []
  | r :: rs => match rvOf n sf r, rvsOf n sf rs with | some a, some b => some (a :: b) | _, _ => none
/-- where the tail of a region that draws begins: what stands before it may come in any order -/
def headB (ops : Array Oper) : Nat → Nat → Array Bool → Nat → Bool
  | 0, k, listed, g => Region.seqB .any ops g k listed
  | f + 1, k, listed, g => (Region.ready .any ops listed).contains k && Region.free .any ops listed k && headB ops f (k + 1) (listed.setIfInBounds k true) g
def cutB (ops : Array Oper) (n : Nat) : Bool :=
  Region.noSelect ops && decide (n < ops.size) && Region.sinkB .any ops n && Region.chainB .any ops n && headB ops n 0 (Array.replicate ops.size false) (ops.size - n)
/-- an operation that calls nothing -/
def isNow : Op → Bool
  | .move _ | .assign _ | .pick .. | .load .. | .nilCheck _ | .binOp .. | .unOp .. | .convert .. | .makeInterface .. | .slice .. | .fieldAddr .. | .field .. | .indexAddr .. | .index .. | .lookup .. | .typeAssert .. | .extract .. | .build .. => true
  | .call { callee := .builtin b, .. } => (match b with | .len | .cap | .max | .min => true | _ => false)
  | _ => false
/-- an operation of a region that draws, now ready, that may come at any time: it calls nothing, and no other one looks at its slot but such as wait for it -/
def calmB (ops : Array Oper) (listed : Array Bool) (i : Nat) : Bool :=
  match ops[i]? with
  | some o => isNow o.op && Region.free .any ops listed i
  | none => false
def cmpMQ (sz : Nat) (ops : Array Oper) (o : Oper) (sf : SF) (n : Nat) (k : KK) : Option Tree :=
  if okOp sf o then
    match plainMove o with
    | some (j, d) => match at_ sf j with
      | some lv => if d < sz then k ((d, lv) :: sf) n else none
      | none => none
    | none =>
      match o.guard with
      | none => (bindD sz o sf n k).map (.mq none (renO n sf o))
      | some (j, b) =>
        match (ops[j]?).bind (·.dst) with
        | some d => if (at_ sf d).isSome then (bindD sz o sf n k).map (.mq (some (renX n sf (.tmp d), b)) (renO n sf o)) else none
        | none => none
  else none
/-- what an operation waits for, and what that waits for -/
def ancs (ops : Array Oper) : Nat → List Nat → List Nat
  | 0, s => s
  | f + 1, s =>
    match (s.flatMap fun j => match ops[j]? with | some o => (o.after.toList.filter (Region.binds .any)).map (·.on) | none => []).filter fun x => !s.contains x with
    | [] => s
    | new => ancs ops f (s ++ new)
/-- it waits for all that is listed -/
def coversB (ops : Array Oper) (listed : Array Bool) (i : Nat) : Bool :=
  (List.range listed.size).all fun j => !listed.getD j false || (ancs ops ops.size [i]).contains j
def allT (g : Nat → Option Tree) : List Nat → Option Tree
  | [] => none
  | [i] => g i
  | i :: j :: is => match g i, allT g (j :: is) with
    | some a, some b => some (.both a b)
    | _, _ => none
/-- what is calm first; what is not, only when nothing else is ready -/
def cmpMix (sz : Nat) (ops : Array Oper) : Nat → Array Bool → SF → Nat → KK → Option Tree
  | 0, listed, sf, n, k => if (Region.ready .any ops listed).isEmpty then (k sf n).map .mend else none
  | f + 1, listed, sf, n, k =>
    match (Region.ready .any ops listed).find? (calmB ops listed) with
    | some i => match ops[i]? with
      | some o => cmpMQ sz ops o sf n fun sf n => cmpMix sz ops f (listed.setIfInBounds i true) sf n k
      | none => none
    | none => allT (fun i => match ops[i]? with
        | some o => cmpOp sz ops o sf n fun sf n => (cmpMix sz ops f (listed.setIfInBounds i true) sf n k).map (if coversB ops listed i then .mR else .mD)
        | none => none) (Region.ready .any ops listed)
/-- an operation that writes, or whose value is not told by the world's cells: it stands in no part of a region that draws -/
def loud : Op → Bool
  | .move _ | .assign _ | .pick .. | .load .. | .nilCheck _ | .binOp .. | .unOp .. | .convert .. | .makeInterface .. | .makeFunc .. | .slice .. | .fieldAddr .. | .field .. | .indexAddr .. | .index .. | .lookup .. | .typeAssert .. | .extract .. | .build .. => false
  | .call { callee := .builtin b, .. } => (match b with | .len | .cap | .max | .min => false | _ => true)
  | .call _ => false
  | _ => true
/-- advice: where to cut -/
def cutOf (ops : Array Oper) : Option Nat := (List.range (ops.size + 1)).findSome? fun i => if (ops.toList.take (ops.size - i)).all (fun o => !loud o.op) then some (ops.size - i) else none
def cutsOf : Code → List (Nat × Nat)
  | .region id ops true => match cutOf ops with | some m => if m = ops.size then (if Region.lexB .any ops then [] else [(id, m + 1)]) else if cutB ops m then [(id, m)] else [(id, ops.size + 1)] | none => []
  | .seq a b => cutsOf a ++ cutsOf b
  | .cond _ a b => cutsOf a ++ cutsOf b
  | .block _ b => cutsOf b
  | .loop b => cutsOf b
  | _ => []

/-- the slots below m whose bits are set, with levels from n on: the last slot first -/
def slotsOf (m : Nat) (bits : Nat) : List Nat → List Nat
  | acc => match m with
    | 0 => acc
    | m + 1 => slotsOf m bits (if (bits >>> m) % 2 = 1 then m :: acc else acc)
def numbered : List Nat → Nat → SF → SF
  | [], _, sf => sf
  | s :: r, n, sf => (s, n + r.length) :: numbered r n sf
def kept (bits : Nat) : SF → SF
  | [] => []
  | (s, lv) :: r => if (bits >>> s) % 2 = 1 then kept bits r else (s, lv) :: kept bits r
def okBack (sf'' : SF) (lv : List Nat) (sf : SF) : Bool := lv.all (fun s => (at_ sf'' s).isSome) && sf.all fun p => lv.contains p.1 || at_ sf'' p.1 == at_ sf p.1

def cmp (hs : List (Nat × Nat)) (sz : Nat) (rs : List ResultVar) (rl : Nat) : Code → SF → Nat → List (Nat × (K × Nat)) → Nat → K → Nat → Option Tree
  | .skip, sf, n, _, l, k, _ => k sf n l
  | .label _, sf, n, _, l, k, _ => k sf n l
  | .seq a b, sf, n, bs, l, k, out => forceN (live rl b out (bs.map fun x => (x.1, x.2.2))) fun o => cmp hs sz rs rl a sf n bs l (fun sf n l => cmp hs sz rs rl b sf n bs l k out) o
  | .cond c a b, sf, n, bs, l, k, out =>
    if known sf c then
      match cmp hs sz rs rl a sf n bs l k out, cmp hs sz rs rl b sf n bs l k out with
      | some x, some y => some (.cond (renX n sf c) x y)
      | _, _ => none
    else none
  | .block id b, sf, n, bs, l, k, out => cmp hs sz rs rl b sf n ((id, (k, out)) :: bs) l k out
  | .exit id, sf, n, bs, l, _, _ => match lookupL id bs with
    | some (k, _) => k sf n l
    | none => none
  | .ret, sf, n, _, _, _, _ => (rvsOf n sf rs).map .ret
  | .region _ ops false, sf, n, _, l, k, _ => cmpOps sz ops ops.toList sf n fun sf n => k sf n l
  | .region id ops true, sf, n, _, l, k, _ =>
    match lookupL id hs with
    | none => if Region.lexB .any ops then cmpQs sz ops ops.toList sf n [] fun qs sf n => (k sf n l).map (.draw qs) else none
    | some m => if ops.size < m then (if Region.noSelect ops then (cmpMix sz ops ops.size (Array.replicate ops.size false) sf n fun sf n => k sf n l).map .mix else none) else if cutB ops m then cmpQs sz ops (ops.toList.take m) sf n [] fun qs sf n => (cmpOps sz ops (ops.toList.drop m) sf n fun sf n => k sf n l).map (.draw qs) else none
  | .loop b, sf, n, bs, l, _, _ =>
    forceN (writes b 0) fun ws =>
    forceN (live rl b 0 (bs.map fun x => (x.1, x.2.2)) &&& ws) fun lvb =>
    match slotsOf sz lvb [] with
    | lv =>
      if lv.all (fun s => (at_ sf s).isSome && decide (s < sz)) && decide lv.Nodup then
        (cmp hs sz rs rl b (numbered lv n (kept ws sf)) (n + lv.length) bs (l + 1)
          (fun sf'' n'' _ => if okBack sf'' lv (kept ws sf) then some (.back l (lv.map fun s => renX n'' sf'' (.tmp s))) else none) lvb).map
          (.loop (lv.map fun s => renX n sf (.tmp s)))
      else none
  | .refuse _, _, _, _, _, _, _ => some (.cond (.const .nilFunc) (.ret []) (.ret []))
  | _, _, _, _, _, _, _ => none

def initSF (nargs : Nat) : SF := (List.range nargs).map fun j => (j, nargs - 1 - j)
def resBits : List ResultVar → Nat
  | [] => 0
  | .tmp s :: r => resBits r ||| bit s
  | .cell s _ :: r => resBits r ||| bit s
/-- a function's tree: its environment begins with its arguments, the first one at the head -/
def tree (hs : List (Nat × Nat)) (fn : Func) (nargs : Nat) : Option Tree :=
  match fn.body with
  | some c => forceN (resBits fn.results.toList) fun rl => cmp hs fn.ntmps fn.results.toList rl c (initSF nargs) nargs [] 0 (fun sf n _ => (rvsOf n sf fn.results.toList).map .ret) rl
  | none => none

end Go.Sx
