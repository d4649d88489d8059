/- Part 1. -/
import Derived.Calls
import Derived.Orders
import Derived.Deep.Quiet
import Derived.StillTail
import Derived.Below
import Derived.KernelRfl
import Derived.Laws.Sem
import Derived.Test.YtfebkkmmagbnlaaGreatDoorProg
namespace Go.Sx
/-! short names -/
theorem bnA : (∀ a b : Bool, ((a && b) = true) = (a = true ∧ b = true)) ∧ (∀ a b : Bool, ((a || b) = true) = (a = true ∨ b = true)) ∧ (∀ a b : Bool, ((a && b) = false) = (a = false ∨ b = false)) ∧ (∀ a b : Bool, ((a || b) = false) = (a = false ∧ b = false)) ∧ (∀ a : Bool, ((!a) = true) = (a = false)) ∧ (∀ a : Bool, ((!a) = false) = (a = true)) ∧ (∀ (p : Prop) [Decidable p], (decide p = true) = p) ∧ (∀ (p : Prop) [Decidable p], (decide p = false) = ¬p) ∧ (∀ (α : Type) [BEq α] [LawfulBEq α] (a b : α), ((a == b) = true) = (a = b)) ∧ (∀ (α : Type) [BEq α] [LawfulBEq α] (a b : α), ((a == b) = false) = (a ≠ b)) ∧ (∀ (α : Type) [BEq α] [LawfulBEq α] (a b : α), ((a != b) = true) = (a ≠ b)) ∧ (∀ (α : Type) [BEq α] [LawfulBEq α] (a b : α), ((a != b) = false) = (a = b)) ∧ (∀ (α : Type) (a b : α), (a ≠ b) = ¬(a = b)) ∧ (∀ n : Nat, ((n : Int)).toNat = n) := by
  exact ⟨by decide, by decide, by decide, by decide, by decide, by decide, fun p _ => by simp, fun p _ => by simp, fun α _ _ a b => by simp, fun α _ _ a b => by simp, fun α _ _ a b => by simp, fun α _ _ a b => by simp, fun α a b => rfl, fun n => rfl⟩
theorem slR {α : Type} (l : List α) : l.Sublist l := List.Sublist.refl l
theorem slN {α : Type} (l : List α) : ([] : List α).Sublist l := List.nil_sublist l
theorem slC {α : Type} {a : α} {l m : List α} (h : l.Sublist m) : (a :: l).Sublist (a :: m) := List.Sublist.cons_cons a h
theorem slD {α : Type} {a : α} {l m : List α} (h : l.Sublist m) : l.Sublist (a :: m) := List.Sublist.cons a h
end Go.Sx
/-! Sx1 -/
namespace Go.Sx
structure Q where
 g : Option (Operand × Bool)
 o : Oper
inductive RV where
 | tmp (i : Nat)
 | cell (i : Nat) (ty : TypeId)
inductive Tree where
 | op (o : Oper) (k : Tree)
 | gop (c : Operand) (b : Bool) (o : Oper) (k : Tree)
 | draw (qs : List Q) (k : Tree)
 | cond (c : Operand) (t e : Tree)
 | ret (rs : List RV)
 | loop (ini : List Operand) (body : Tree)
 | back (lvl : Nat) (vs : List Operand)
  | mix (k : Tree)
 | mq (g : Option (Operand × Bool)) (o : Oper) (k : Tree)
 | mD (k : Tree)
 | mR (k : Tree)
 | mend (k : Tree)
  | both (a b : Tree)
abbrev Env := List Value
def ev (env : Env) : Operand → Value
 | .tmp i => env.getD i undef
 | .const v => v
 | .global g => .pointer (some ⟨g, 0, none⟩)
 | .func f => .func (.func f) #[] #[]
def opW (P : Program) (o : Oper) (env : Env) (w : World) (R : Ending → World → Prop) (K : Value → World → Prop) : Prop :=
 match (execOp (ev env) o).run P w with
 | .ok (.value v) w' => K v w'
 | .ok .skip w' => K undef w'
 | .ok (.enter f args) w' => Calls P f args w' fun
   | .returned v, w'' => K v w''
   | .panicked chain, w'' => R (.panicked chain) w''
   | .outgrown, _ => False
 | .ok (.row row args) w' => Rows P row args w' fun v w'' => K v w''
 | .halt (.panic v) w' => R (.panicked [{ v, recovered := false }]) w'
 | _ => False
def qAt (P : Program) (o : Oper) (env : Env) (C : World → Prop) (w : World) (v : Value) : Prop := Oper.quietUpon P C w v ((execOp (ev env) o).run P w)
def qOne (P : Program) (C : World → Prop) (q : Q) (env : Env) (next : Value → Prop) : Prop :=
 match q.g with
 | none => ∃ v, (∀ w, C w → qAt P q.o env C w v) ∧ next v
 | some (c, b) => (ev env c = .bool b → ∃ v, (∀ w, C w → qAt P q.o env C w v) ∧ next v) ∧ (ev env c ≠ .bool b → next undef)
def qsW (P : Program) (C : World → Prop) : List Q → Env → (Env → Prop) → Prop
 | [], env, next => next env
 | q :: qs, env, next => qOne P C q env fun v => qsW P C qs (v :: env) next
def rvW (P : Program) (env : Env) (w : World) : RV → Value → Prop
 | .tmp i, v => v = env.getD i undef
 | .cell i ty, v => ∃ a, env.getD i undef = .pointer (some a) ∧ (loadVar ty a).run P w = .ok v w
def rvsW (P : Program) (env : Env) (w : World) : List RV → List Value → Prop
 | [], [] => True
 | r :: rs, v :: vs => rvW P env w r v ∧ rvsW P env w rs vs
 | _, _ => False
def retVal : List Value → Value
 | [v] => v
 | vs => .tuple vs.toArray
def W (P : Program) (R : Ending → World → Prop) : Tree → Env → World → List (List Value → World → Prop) → Prop
 | .op o k, env, w, B => opW P o env w R fun v w' => W P R k (v :: env) w' B
 | .gop c b o k, env, w, B => (ev env c = .bool b → opW P o env w R fun v w' => W P R k (v :: env) w' B) ∧ (ev env c ≠ .bool b → W P R k (undef :: env) w B)
 | .draw qs k, env, w, B => ∃ C : World → Prop, C { w with drawn := w.drawn + 1 } ∧ qsW P C qs env fun env' => ∀ w', C w' → W P R k env' w' B
 | .cond c t e, env, w, B => ∃ b, ev env c = .bool b ∧ (b = true → W P R t env w B) ∧ (b = false → W P R e env w B)
 | .ret rs, env, w, _ => ∃ vs, rvsW P env w rs vs ∧ R (.returned (retVal vs)) w
 | .loop ini body, env, w, B => ∃ (I : List Value → World → Prop) (μ : List Value → World → Nat), I (ini.map (ev env)) w ∧
   ∀ vs w', vs.length = ini.length → I vs w' → W P R body (vs ++ env) w' (B ++ [fun vs' w'' => I vs' w'' ∧ μ vs' w'' < μ vs w'])
 | .back l vs, env, w, B => ∃ b, B[l]? = some b ∧ b (vs.map (ev env)) w
 | .mix k, env, w, B => ∃ D : World → Prop, D { w with drawn := w.drawn + 1 } ∧ W P R k env { w with drawn := w.drawn + 1 } (B ++ [fun (_ : List Value) (w : World) => D w])
 | .mq none o k, env, w, B => ∃ p, B.getLast? = some p ∧ ∃ v, (∀ w', p [] w' → qAt P o env (p []) w' v) ∧ W P R k (v :: env) w B
 | .mq (some (c, b)) o k, env, w, B => ∃ p, B.getLast? = some p ∧ (ev env c = .bool b → ∃ v, (∀ w', p [] w' → qAt P o env (p []) w' v) ∧ W P R k (v :: env) w B) ∧ (ev env c ≠ .bool b → W P R k (undef :: env) w B)
 | .mD k, env, w, B => ∃ p, B.getLast? = some p ∧ ∃ D : World → Prop, (∀ w', D w' → p [] w') ∧ D w ∧ W P R k env w (B.dropLast ++ [fun (_ : List Value) (w : World) => D w])
 | .mR k, env, w, B => ∃ D : World → Prop, D w ∧ W P R k env w (B.dropLast ++ [fun (_ : List Value) (w : World) => D w])
 | .mend k, env, w, B => W P R k env w B.dropLast
 | .both a b, env, w, B => W P R a env w B ∧ W P R b env w B
def mapX (f : Operand → Operand) : Op → Op
 | .move x => .move (f x) | .assign x => .assign (f x) | .pick c a b => .pick (f c) (f a) (f b) | .alloc e => .alloc e
 | .box e v => .box e (f v) | .build t ps => .build t (ps.map fun p => (p.1, f p.2)) | .buildSlice t n ps => .buildSlice t n (ps.map fun p => (p.1, f p.2))
 | .insert t m k v => .insert t (f m) (f k) (f v) | .load t a => .load t (f a) | .store t a v => .store t (f a) (f v) | .ready g => .ready g | .waits g => .waits g
 | .nilCheck x => .nilCheck (f x) | .binOp op t x y t' => .binOp op t (f x) (f y) t' | .unOp op t x => .unOp op t (f x) | .convert s d x => .convert s d (f x)
 | .sliceToArrayPointer d x => .sliceToArrayPointer d (f x) | .makeInterface t x => .makeInterface t (f x) | .makeFunc fn fi ca => .makeFunc fn (fi.map f) (ca.map f)
 | .makeMap t r => .makeMap t (r.map f) | .makeChan t s => .makeChan t (f s) | .makeSlice t l c => .makeSlice t (f l) (f c)
 | .slice t x l h m => .slice t (f x) (l.map f) (h.map f) (m.map f) | .fieldAddr t x i => .fieldAddr t (f x) i | .field t x i => .field t (f x) i
 | .indexAddr t x i => .indexAddr t (f x) (f i) | .index t x i => .index t (f x) (f i) | .lookup t x i ok => .lookup t (f x) (f i) ok
 | .mapUpdate t m k v => .mapUpdate t (f m) (f k) (f v) | .mapEntry t m k => .mapEntry t (f m) (f k) | .entryStore t m s v => .entryStore t (f m) (f s) (f v)
 | .range t x => .range t (f x) | .next it s => .next (f it) s | .entry it => .entry (f it) | .typeAssert x a b ok => .typeAssert (f x) a b ok | .extract t i => .extract (f t) i
 | .call c => .call (mapC c) | .go c => .go (mapC c) | .defer c => .defer (mapC c) | .panic x => .panic (f x) | .send c x => .send (f c) (f x) | .recv t c ok => .recv t (f c) ok
 | .select cs b => .select cs b
where mapC (c : Call) : Call := { c with callee := (match c.callee with | .value x => .value (f x) | .invoke r m => .invoke (f r) m | .builtin b => .builtin b), args := c.args.map f }
structure Keeps (f : Operand → Operand) : Prop where
 con : ∀ v, f (.const v) = .const v
 tmp : ∀ t, ∃ t', f (.tmp t) = .tmp t'
 glo : ∀ g, f (.global g) = .global g
 fn : ∀ g, f (.func g) = .func g
theorem resolve_map {ρ : Operand → Value} {f : Operand → Operand} (hf : Keeps f) (c : Call) (ty : TypeId) : resolve ρ (mapX.mapC f c) ty = resolve (fun x => ρ (f x)) c ty := by
 obtain ⟨callee, args, tys⟩ := c
 have hm : (args.map f).map ρ = args.map fun x => ρ (f x) := by rw [Array.map_map]; rfl
 cases callee with
 | value g => simp only [mapX.mapC, resolve, hm]
 | invoke r m => simp only [mapX.mapC, resolve, hm]
 | builtin b =>
  simp only [mapX.mapC, resolve, hm]
  congr 3
  rw [Array.map_map]
  refine Array.map_congr_left fun x _ => ?_
  cases x with
  | const v => simp [hf.con]
  | tmp t => obtain ⟨t', h⟩ := hf.tmp t; simp [h]
  | global g => simp [hf.glo]
  | func g => simp [hf.fn]
theorem eqGuard_map {f : Operand → Operand} (hf : Keeps f) (op : BinOp) (t : TypeId) (x y : Operand) (a b : Value) : eqGuard op t (f x) (f y) a b = eqGuard op t x y a b := by
 have k : ∀ x, f x = x ∨ ∃ t t', x = .tmp t ∧ f x = .tmp t' := by
  intro x
  cases x with
  | const v => exact .inl (hf.con v)
  | tmp t => obtain ⟨t', h⟩ := hf.tmp t; exact .inr ⟨t, t', rfl, h⟩
  | global g => exact .inl (hf.glo g)
  | func g => exact .inl (hf.fn g)
 rcases k x with hx | ⟨t1, t2, hx, hx'⟩ <;> rcases k y with hy | ⟨u1, u2, hy, hy'⟩
 ·rw [hx, hy]
 ·rw [hx, hy', hy]; rfl
 ·rw [hy, hx', hx]; rfl
 ·rw [hx', hx, hy', hy]; rfl
theorem execOp_map {ρ : Operand → Value} {f : Operand → Operand} (hf : Keeps f) (o : Oper) (hs : ∀ cs b, o.op ≠ .select cs b) :
  execOp ρ { o with op := mapX f o.op } = execOp (fun x => ρ (f x)) o := by
 obtain ⟨dst, op, type, pos, after, guard⟩ := o
 cases op <;> simp only [mapX, execOp, resolve_map hf, eqGuard_map hf, Array.map_map, Option.map_map] <;> first | rfl | skip
 case select cs b => exact absurd rfl (hs cs b)
abbrev SF := List (Nat × Nat)
def at_ : SF → Nat → Option Nat
 | [], _ => none
 | (i, lv) :: r, j => if i = j then some lv else at_ r j
def renX (n : Nat) (sf : SF) : Operand → Operand
 | .tmp j => .tmp (match at_ sf j with | some lv => n - 1 - lv | none => 0)
 | x => x
def known (sf : SF) : Operand → Bool
 | .tmp j => (at_ sf j).isSome
 | _ => true
def isSel : Op → Bool
 | .select .. => true
 | _ => false
def forceN {α : Type} (n : Nat) (k : Nat → α) : α :=
 match n with
 | 0 => k 0
 | m + 1 => k (m + 1)
theorem forceN_eq {α : Type} (n : Nat) (k : Nat → α) : forceN n k = k n := by cases n <;> rfl
def plainMove (o : Oper) : Option (Nat × Nat) :=
 match o.op, o.guard, o.dst with
 | .move (.tmp j), none, some d => some (j, d)
 | .assign (.tmp j), none, some d => some (j, d)
 | _, _, _ => none
def okOp (sf : SF) (o : Oper) : Bool := o.op.operands.toList.all (known sf) && !isSel o.op
def O (op : Op) (ty : TypeId) : Oper := { dst := none, op := op, type := ty, pos := "", after := #[], guard := none }
def renO (n : Nat) (sf : SF) (o : Oper) : Oper := O (mapX (renX n sf) o.op) o.type
abbrev KK := SF → Nat → Option Tree
def bindD (sz : Nat) (o : Oper) (sf : SF) (n : Nat) (k : KK) : Option Tree :=
 match o.dst with
 | some d => if d < sz then forceN (n + 1) fun m => k ((d, n) :: sf) m else none
 | none => forceN (n + 1) fun m => k sf m
def cmpOp (sz : Nat) (ops : Array Oper) (o : Oper) (sf : SF) (n : Nat) (k : KK) : Option Tree :=
 if okOp sf o then
  match plainMove o with
  | some (j, d) => match at_ sf j with
   | some lv => if d < sz then k ((d, lv) :: sf) n else none
   | none => none
  | none =>
   match o.guard with
   | none => (bindD sz o sf n k).map (.op (renO n sf o))
   | some (j, b) =>
    match (ops[j]?).bind (·.dst) with
    | some d => if (at_ sf d).isSome then (bindD sz o sf n k).map (.gop (renX n sf (.tmp d)) b (renO n sf o)) else none
    | none => none
 else none
def cmpOps (sz : Nat) (ops : Array Oper) : List Oper → SF → Nat → KK → Option Tree
 | [], sf, n, k => k sf n
 | o :: rest, sf, n, k => cmpOp sz ops o sf n fun sf n => cmpOps sz ops rest sf n k
def cmpQs (sz : Nat) (ops : Array Oper) : List Oper → SF → Nat → List Q → (List Q → KK) → Option Tree
 | [], sf, n, acc, k => k acc.reverse sf n
 | o :: rest, sf, n, acc, k =>
  if okOp sf o then
   match plainMove o with
   | some (j, d) => match at_ sf j with
    | some lv => if d < sz then cmpQs sz ops rest ((d, lv) :: sf) n acc k else none
    | none => none
   | none =>
    match o.guard with
    | none => bindD sz o sf n fun sf' m => cmpQs sz ops rest sf' m (⟨none, renO n sf o⟩ :: acc) k
    | some (j, b) =>
     match (ops[j]?).bind (·.dst) with
     | some d => if (at_ sf d).isSome then bindD sz o sf n fun sf' m => cmpQs sz ops rest sf' m (⟨some (renX n sf (.tmp d), b), renO n sf o⟩ :: acc) k else none
     | none => none
  else none
def lookupL {α : Type} (id : Nat) : List (Nat × α) → Option α
 | [] => none
 | (i, x) :: r => if i = id then some x else lookupL id r
def bit (s : Nat) : Nat := 1 <<< s
def without (x s : Nat) : Nat := x ^^^ (x &&& bit s)
def addTmps : List Operand → Nat → Nat
 | [], x => x
 | .tmp t :: r, x => addTmps r (x ||| bit t)
 | _ :: r, x => addTmps r x
def liveOps (ops : Array Oper) : List Oper → Nat → (Nat → Nat) → Nat
 | [], out, k => k out
 | o :: rest, out, k => liveOps ops rest out fun x =>
  forceN (addTmps o.op.operands.toList (match o.guard with | some (j, _) => (match (ops[j]?).bind (·.dst) with | some d => bit d | none => 0) | none => 0) ||| (match o.dst with | some d => without x d | none => x)) k
def live (rl : Nat) : Code → Nat → List (Nat × Nat) → Nat
 | .region _ ops _, out, _ => liveOps ops ops.toList out id
 | .seq a b, out, bs => forceN (live rl b out bs) fun o => live rl a o bs
 | .cond c a b, out, bs => forceN (live rl a out bs) fun x => forceN (live rl b out bs) fun y => addTmps [c] (x ||| y)
 | .block id b, out, bs => live rl b out ((id, out) :: bs)
 | .loop b, _, bs => live rl b 0 bs
 | .exit id, _, bs => (lookupL id bs).getD 0
 | .ret, _, _ => rl
 | _, out, _ => out
def writeOps : List Oper → Nat → Nat
 | [], x => x
 | o :: r, x => match o.dst with | some d => forceN (x ||| bit d) fun x => writeOps r x | none => writeOps r x
def writes : Code → Nat → Nat
 | .region _ ops _, x => writeOps ops.toList x
 | .seq a b, x => forceN (writes a x) fun x => writes b x
 | .cond _ a b, x => forceN (writes a x) fun x => writes b x
 | .block _ b, x => writes b x
 | .loop b, x => writes b x
 | _, x => x
abbrev K := SF → Nat → Nat → Option Tree
def rvOf (n : Nat) (sf : SF) : ResultVar → Option RV
 | .tmp s => (at_ sf s).map fun lv => .tmp (n - 1 - lv)
 | .cell s ty => (at_ sf s).map fun lv => .cell (n - 1 - lv) ty
def rvsOf (n : Nat) (sf : SF) : List ResultVar → Option (List RV)
 | [] => some []
 | r :: rs => match rvOf n sf r, rvsOf n sf rs with | some a, some b => some (a :: b) | _, _ => none
def headB (ops : Array Oper) : Nat → Nat → Array Bool → Nat → Bool
 | 0, k, listed, g => Region.seqB .any ops g k listed
 | f + 1, k, listed, g => (Region.ready .any ops listed).contains k && Region.free .any ops listed k && headB ops f (k + 1) (listed.setIfInBounds k true) g
def cutB (ops : Array Oper) (n : Nat) : Bool :=
 Region.noSelect ops && decide (n < ops.size) && Region.sinkB .any ops n && Region.chainB .any ops n && headB ops n 0 (Array.replicate ops.size false) (ops.size - n)
def isNow : Op → Bool
 | .move _ | .assign _ | .pick .. | .load .. | .nilCheck _ | .binOp .. | .unOp .. | .convert .. | .makeInterface .. | .slice .. | .fieldAddr .. | .field .. | .indexAddr .. | .index .. | .lookup .. | .typeAssert .. | .extract .. | .build .. => true
 | .call { callee := .builtin b, .. } => (match b with | .len | .cap | .max | .min => true | _ => false)
 | _ => false
def calmB (ops : Array Oper) (listed : Array Bool) (i : Nat) : Bool :=
 match ops[i]? with
 | some o => isNow o.op && Region.free .any ops listed i
 | none => false
def cmpMQ (sz : Nat) (ops : Array Oper) (o : Oper) (sf : SF) (n : Nat) (k : KK) : Option Tree :=
 if okOp sf o then
  match plainMove o with
  | some (j, d) => match at_ sf j with
   | some lv => if d < sz then k ((d, lv) :: sf) n else none
   | none => none
  | none =>
   match o.guard with
   | none => (bindD sz o sf n k).map (.mq none (renO n sf o))
   | some (j, b) =>
    match (ops[j]?).bind (·.dst) with
    | some d => if (at_ sf d).isSome then (bindD sz o sf n k).map (.mq (some (renX n sf (.tmp d), b)) (renO n sf o)) else none
    | none => none
 else none
def ancs (ops : Array Oper) : Nat → List Nat → List Nat
 | 0, s => s
 | f + 1, s =>
  match (s.flatMap fun j => match ops[j]? with | some o => (o.after.toList.filter (Region.binds .any)).map (·.on) | none => []).filter fun x => !s.contains x with
  | [] => s
  | new => ancs ops f (s ++ new)
def coversB (ops : Array Oper) (listed : Array Bool) (i : Nat) : Bool :=
 (List.range listed.size).all fun j => !listed.getD j false || (ancs ops ops.size [i]).contains j
def allT (g : Nat → Option Tree) : List Nat → Option Tree
 | [] => none
 | [i] => g i
 | i :: j :: is => match g i, allT g (j :: is) with
  | some a, some b => some (.both a b)
  | _, _ => none
def isConvTo (d : Nat) : Op → Bool
 | .convert _ d' _ => d' == d
 | _ => false
def calmU (m : Nat) (ops : Array Oper) (listed : Array Bool) (i : Nat) : Bool :=
 (match ops[i]? with | some o => !isConvTo (m - 1000) o.op | none => true) && calmB ops listed i
def cmpMix (m sz : Nat) (ops : Array Oper) : Nat → Array Bool → SF → Nat → KK → Option Tree
 | 0, listed, sf, n, k => if (Region.ready .any ops listed).isEmpty then (k sf n).map .mend else none
 | f + 1, listed, sf, n, k =>
  match (Region.ready .any ops listed).find? (calmU m ops listed) with
  | some i => match ops[i]? with
   | some o => cmpMQ sz ops o sf n fun sf n => cmpMix m sz ops f (listed.setIfInBounds i true) sf n k
   | none => none
  | none => allT (fun i => match ops[i]? with
    | some o => cmpOp sz ops o sf n fun sf n => (cmpMix m sz ops f (listed.setIfInBounds i true) sf n k).map (if coversB ops listed i then .mR else .mD)
    | none => none) (Region.ready .any ops listed)
def slotsOf (m : Nat) (bits : Nat) : List Nat → List Nat
 | acc => match m with
  | 0 => acc
  | m + 1 => slotsOf m bits (if (bits >>> m) % 2 = 1 then m :: acc else acc)
def numbered : List Nat → Nat → SF → SF
 | [], _, sf => sf
 | s :: r, n, sf => (s, n + r.length) :: numbered r n sf
def kept (bits : Nat) : SF → SF
 | [] => []
 | (s, lv) :: r => if (bits >>> s) % 2 = 1 then kept bits r else (s, lv) :: kept bits r
def okBack (sf'' : SF) (lv : List Nat) (sf : SF) : Bool := lv.all (fun s => (at_ sf'' s).isSome) && sf.all fun p => lv.contains p.1 || at_ sf'' p.1 == at_ sf p.1
def cmp (hs : List (Nat × Nat)) (sz : Nat) (rs : List ResultVar) (rl : Nat) : Code → SF → Nat → List (Nat × (K × Nat)) → Nat → K → Nat → Option Tree
 | .skip, sf, n, _, l, k, _ => k sf n l
 | .label _, sf, n, _, l, k, _ => k sf n l
 | .seq a b, sf, n, bs, l, k, out => forceN (live rl b out (bs.map fun x => (x.1, x.2.2))) fun o => cmp hs sz rs rl a sf n bs l (fun sf n l => cmp hs sz rs rl b sf n bs l k out) o
 | .cond c a b, sf, n, bs, l, k, out =>
  if known sf c then
   match cmp hs sz rs rl a sf n bs l k out, cmp hs sz rs rl b sf n bs l k out with
   | some x, some y => some (.cond (renX n sf c) x y)
   | _, _ => none
  else none
 | .block id b, sf, n, bs, l, k, out => cmp hs sz rs rl b sf n ((id, (k, out)) :: bs) l k out
 | .exit id, sf, n, bs, l, _, _ => match lookupL id bs with
  | some (k, _) => k sf n l
  | none => none
 | .ret, sf, n, _, _, _, _ => (rvsOf n sf rs).map .ret
 | .region _ ops false, sf, n, _, l, k, _ => cmpOps sz ops ops.toList sf n fun sf n => k sf n l
 | .region id ops true, sf, n, _, l, k, _ =>
  match lookupL id hs with
  | none => if Region.lexB .any ops then cmpQs sz ops ops.toList sf n [] fun qs sf n => (k sf n l).map (.draw qs) else none
  | some m => if ops.size < m then (if Region.noSelect ops then (cmpMix m sz ops ops.size (Array.replicate ops.size false) sf n fun sf n => k sf n l).map .mix else none) else if cutB ops m then cmpQs sz ops (ops.toList.take m) sf n [] fun qs sf n => (cmpOps sz ops (ops.toList.drop m) sf n fun sf n => k sf n l).map (.draw qs) else none
 | .loop b, sf, n, bs, l, _, _ =>
  forceN (writes b 0) fun ws =>
  forceN (live rl b 0 (bs.map fun x => (x.1, x.2.2)) &&& ws) fun lvb =>
  match slotsOf sz lvb [] with
  | lv =>
   if lv.all (fun s => (at_ sf s).isSome && decide (s < sz)) && decide lv.Nodup then
    (cmp hs sz rs rl b (numbered lv n (kept ws sf)) (n + lv.length) bs (l + 1)
     (fun sf'' n'' _ => if okBack sf'' lv (kept ws sf) then some (.back l (lv.map fun s => renX n'' sf'' (.tmp s))) else none) lvb).map
     (.loop (lv.map fun s => renX n sf (.tmp s)))
   else none
 | .refuse _, _, _, _, _, _, _ => some (.cond (.const .nilFunc) (.ret []) (.ret []))
 | _, _, _, _, _, _, _ => none
def initSF (nargs : Nat) : SF := (List.range nargs).map fun j => (j, nargs - 1 - j)
def resBits : List ResultVar → Nat
 | [] => 0
 | .tmp s :: r => resBits r ||| bit s
 | .cell s _ :: r => resBits r ||| bit s
def tree (hs : List (Nat × Nat)) (fn : Func) (nargs : Nat) : Option Tree :=
 match fn.body with
 | some c => forceN (resBits fn.results.toList) fun rl => cmp hs fn.ntmps fn.results.toList rl c (initSF nargs) nargs [] 0 (fun sf n _ => (rvsOf n sf fn.results.toList).map .ret) rl
 | none => none
end Go.Sx
/-! Sx2 -/
namespace Go.Sx
open Go
variable {P : Program} {R : Ending → World → Prop} {ds : List Deferred}
def val (env : Env) (lv : Nat) : Value := env.getD (env.length - 1 - lv) undef
theorem val_cons (v : Value) (env : Env) (lv : Nat) (h : lv < env.length) : val (v :: env) lv = val env lv := by
 unfold val
 have : (v :: env).length - 1 - lv = (env.length - 1 - lv) + 1 := by simp only [List.length_cons]; omega
 rw [this]
 simp
theorem val_new (v : Value) (env : Env) : val (v :: env) env.length = v := by simp [val]
theorem val_suffix {env env' : Env} (h : env <:+ env') (lv : Nat) (hl : lv < env.length) : val env' lv = val env lv := by
 obtain ⟨t, rfl⟩ := h
 unfold val
 have : (t ++ env).length - 1 - lv = t.length + (env.length - 1 - lv) := by simp only [List.length_append]; omega
 rw [this]
 simp [List.getElem?_append_right]
structure Rel (sf : SF) (env : Env) (t : Array Value) : Prop where
 at_ : ∀ j lv, at_ sf j = some lv → j < t.size ∧ lv < env.length ∧ t.getD j undef = val env lv
theorem Rel.alias {sf : SF} {env : Env} {t : Array Value} (h : Rel sf env t) {d lv : Nat} (hd : d < t.size) (hl : lv < env.length) : Rel ((d, lv) :: sf) env (t.setIfInBounds d (val env lv)) := by
 constructor
 intro j l hj
 simp only [Sx.at_] at hj
 split at hj
 ·rename_i e
  subst e
  injection hj with e
  subst e
  exact ⟨by simpa using hd, hl, by simp [hd]⟩
 ·rename_i e
  obtain ⟨h1, h2, h3⟩ := h.at_ j l hj
  exact ⟨by simpa using h1, h2, by simpa [Array.getElem?_setIfInBounds_ne e] using h3⟩
theorem Rel.push {sf : SF} {env : Env} {t : Array Value} (h : Rel sf env t) (v : Value) : Rel sf (v :: env) t :=
 ⟨fun j l hj => by
  obtain ⟨h1, h2, h3⟩ := h.at_ j l hj
  exact ⟨h1, by simp; omega, by rw [val_cons v env l h2]; exact h3⟩⟩
theorem Rel.bind {sf : SF} {env : Env} {t : Array Value} (h : Rel sf env t) {d : Nat} (hd : d < t.size) (v : Value) : Rel ((d, env.length) :: sf) (v :: env) (t.setIfInBounds d v) := by
 have := (h.push v).alias (d := d) (lv := env.length) hd (by simp)
 rwa [val_new] at this
theorem ev_ren {sf : SF} {env : Env} {a : Act} (h : Rel sf env a.tmps) (x : Operand) (hk : known sf x = true) : ev env (renX env.length sf x) = a.eval x := by
 cases x with
 | tmp j =>
  simp only [known] at hk
  obtain ⟨lv, hlv⟩ := Option.isSome_iff_exists.1 hk
  obtain ⟨_, h2, h3⟩ := h.at_ j lv hlv
  simp only [renX, hlv, ev, Act.eval]
  rw [h3]; rfl
 | const v => rfl
 | global g => rfl
 | func g => rfl
theorem keeps_ren (n : Nat) (sf : SF) : Keeps (renX n sf) := ⟨fun _ => rfl, fun _ => ⟨_, rfl⟩, fun _ => rfl, fun _ => rfl⟩
theorem exec_ren {sf : SF} {env : Env} {a : Act} (h : Rel sf env a.tmps) {o : Oper} (hk : okOp sf o = true) : execOp (ev env) (renO env.length sf o) = execOp a.eval o := by
 simp only [okOp, Bool.and_eq_true, List.all_eq_true] at hk
 have hs : ∀ cs b, o.op ≠ .select cs b := by
  intro cs b e
  have h2 := hk.2
  rw [e] at h2
  simp [isSel] at h2
 have e : execOp (ev env) (renO env.length sf o) = execOp (ev env) { o with op := mapX (renX env.length sf) o.op } := by
  unfold renO O
  generalize mapX (renX env.length sf) o.op = op
  cases op <;> rfl
 rw [e, execOp_map (keeps_ren _ _) o hs]
 exact execOp_congr o hs fun x hx => ev_ren h x (hk.1 x (by simpa using hx))
def Post (P : Program) (R : Ending → World → Prop) (ds : List Deferred) (env0 : Env) (B0 : List (List Value → World → Prop)) (sz : Nat) (k : K) (q : Act → World → Prop) : Prop :=
 ∀ sf n l T env w t B, k sf n l = some T → env.length = n → B.length = l → env0 <:+ env → B0 <+: B → Rel sf env t → t.size = sz → W P R T env w B → q ⟨t, ds⟩ w
theorem Post.mono {env0 env1 : Env} {B0 B1 : List (List Value → World → Prop)} {sz : Nat} {k : K} {q : Act → World → Prop} (h : Post P R ds env0 B0 sz k q) (he : env0 <:+ env1) (hB : B0 <+: B1) : Post P R ds env1 B1 sz k q :=
 fun sf n l T env w t B hT hn hl h1 h2 => h sf n l T env w t B hT hn hl (he.trans h1) (hB.trans h2)
def PostO (P : Program) (R : Ending → World → Prop) (ds : List Deferred) (env0 : Env) (B : List (List Value → World → Prop)) (sz : Nat) (k : KK) (q : Act → World → Prop) : Prop :=
 ∀ sf n T env w t, k sf n = some T → env.length = n → env0 <:+ env → Rel sf env t → t.size = sz → W P R T env w B → q ⟨t, ds⟩ w
theorem PostO.mono {env0 env1 : Env} {B : List (List Value → World → Prop)} {sz : Nat} {k : KK} {q : Act → World → Prop} (h : PostO P R ds env0 B sz k q) (he : env0 <:+ env1) : PostO P R ds env1 B sz k q :=
 fun sf n T env w t hT hn h1 => h sf n T env w t hT hn (he.trans h1)
theorem plainMove_spec {o : Oper} {j d : Nat} (h : plainMove o = some (j, d)) : o.guard = none ∧ o.dst = some d ∧ (o.op = .move (.tmp j) ∨ o.op = .assign (.tmp j)) := by
 unfold plainMove at h
 split at h
 ·rename_i h1 h2 h3; injection h with h; injection h with e1 e2; subst e1; subst e2; exact ⟨h2, h3, .inl h1⟩
 ·rename_i h1 h2 h3; injection h with h; injection h with e1 e2; subst e1; subst e2; exact ⟨h2, h3, .inr h1⟩
 ·cases h
theorem upon_of_opW {o o' : Oper} {env : Env} {a : Act} {w : World} {KV : Value → World → Prop} {K' : Act → World → Prop} {Q : Exit → Act → World → Prop}
  (he : execOp (ev env) o' = execOp a.eval o) (h : opW P o' env w R KV) (hK : ∀ v w', KV v w' → K' (a.put o.dst v) w') (hP : ∀ ch w', R (.panicked ch) w' → Q (.panic ch) a w') : o.wp P a w K' Q := by
 unfold opW at h
 rw [he] at h
 unfold Oper.wp
 generalize (execOp a.eval o).run P w = r at *
 cases r with
 | ok x w' =>
  cases x <;> simp only [Oper.upon] at h ⊢
  case value v => exact hK _ _ h
  case skip => exact hK _ _ h
  case enter f args => exact Calls.mono h fun e w'' he => by cases e with | returned v => exact hK _ _ he | panicked ch => exact hP _ _ he | outgrown => exact he.elim
  case row row args => exact Rows.mono h fun v w'' hv => hK _ _ hv
 | halt x w' =>
  cases x <;> simp only [Oper.upon] at h ⊢
  case panic v => exact hP _ _ h
theorem wanted_iff {ops : Array Oper} {o : Oper} {t : Array Value} {j d : Nat} {b : Bool} (hg : o.guard = some (j, b)) (hd : (ops[j]?).bind (·.dst) = some d) (hsz : d < t.size) :
  Region.wanted o (yielded ops t) = true ↔ t.getD d undef = .bool b := by
 simp only [Region.wanted, hg, yielded, hd, Option.bind_some]
 have : t[d]? = some (t.getD d undef) := by simp [hsz]
 rw [this]
 generalize t.getD d undef = v
 cases v <;> simp
theorem bindD_spec {sz : Nat} {o : Oper} {sf : SF} {n : Nat} {k : KK} {T : Tree} (h : bindD sz o sf n k = some T) :
  (∃ d : Nat, o.dst = some d ∧ d < sz ∧ k ((d, n) :: sf) (n + 1) = some T) ∨ (o.dst = none ∧ k sf (n + 1) = some T) := by
 unfold bindD at h
 split at h
 ·rename_i d hd
  split at h
  ·rename_i hlt; rw [forceN_eq] at h; exact .inl ⟨d, hd, hlt, h⟩
  ·cases h
 ·rename_i hd; rw [forceN_eq] at h; exact .inr ⟨hd, h⟩
theorem PostO.bound {env : Env} {B : List (List Value → World → Prop)} {sz : Nat} {k : KK} {q : Act → World → Prop} (hk : PostO P R ds env B sz k q) {o : Oper} {sf : SF} {t : Array Value} {T : Tree}
  (hT : bindD sz o sf env.length k = some T) (hr : Rel sf env t) (hsz : t.size = sz) (v : Value) (w : World) (h : W P R T (v :: env) w B) : q ((⟨t, ds⟩ : Act).put o.dst v) w := by
 rcases bindD_spec hT with ⟨d, hd, hlt, hT⟩ | ⟨hd, hT⟩
 ·rw [hd]
  exact hk _ _ T (v :: env) w _ hT (by simp) (List.suffix_cons _ _) (hr.bind (show d < t.size by omega) v) (by simpa using hsz) h
 ·rw [hd]
  exact hk _ _ T (v :: env) w t hT (by simp) (List.suffix_cons _ _) (hr.push v) hsz h
theorem cmpOp_sound {sz : Nat} {ops : Array Oper} {o : Oper} {sf : SF} {k : KK} {T : Tree} {env : Env} {w : World} {t : Array Value} {B : List (List Value → World → Prop)} {Q : Exit → Act → World → Prop} {K' : Act → World → Prop}
  (hc : cmpOp sz ops o sf env.length k = some T) (hr : Rel sf env t) (hsz : t.size = sz) (hW : W P R T env w B)
  (hk : PostO P R ds env B sz k K') (hP : ∀ ch a w', R (.panicked ch) w' → a.defers = ds → Q (.panic ch) a w') :
  if Region.wanted o (yielded ops t) then o.wp P ⟨t, ds⟩ w K' Q else K' ((⟨t, ds⟩ : Act).put o.dst undef) w := by
 unfold cmpOp at hc
 split at hc
 next hok =>
  split at hc
  ·rename_i j d hm
   obtain ⟨hg, hd, hop⟩ := plainMove_spec hm
   split at hc
   ·rename_i lv hlv
    split at hc
    ·rename_i hlt
     rw [if_pos (by simp [Region.wanted, hg])]
     obtain ⟨_, h2, h3⟩ := hr.at_ j lv hlv
     have hv : (execOp (⟨t, ds⟩ : Act).eval o) = pure (.value (val env lv)) := by
      rcases hop with e | e <;> simp only [execOp, e, Act.eval, h3]
     unfold Oper.wp
     rw [hv]
     show K' ((⟨t, ds⟩ : Act).put o.dst (val env lv)) w
     rw [hd]
     exact hk _ _ T env w _ hc rfl (List.suffix_refl _) (hr.alias (show d < t.size by omega) h2) (by simpa using hsz) hW
    ·cases hc
   ·cases hc
  ·split at hc
   ·rename_i hg
    rw [if_pos (by simp [Region.wanted, hg])]
    obtain ⟨T', hT', rfl⟩ := Option.map_eq_some_iff.1 hc
    exact upon_of_opW (exec_ren (a := ⟨t, ds⟩) hr hok) hW (fun v w' h => hk.bound hT' hr hsz v w' h) (fun ch w' h => hP ch _ w' h rfl)
   ·rename_i j b hg
    split at hc
    ·rename_i d hd
     split at hc
     ·rename_i hkn
      obtain ⟨lv, hlv⟩ := Option.isSome_iff_exists.1 hkn
      obtain ⟨h1, h2, h3⟩ := hr.at_ d lv hlv
      have hw := wanted_iff (ops := ops) (o := o) (t := t) hg hd h1
      obtain ⟨T', hT', rfl⟩ := Option.map_eq_some_iff.1 hc
      have hev : ev env (renX env.length sf (.tmp d)) = t.getD d undef := ev_ren (a := ⟨t, ds⟩) hr (.tmp d) (by simpa [known] using hkn)
      obtain ⟨hy, hn⟩ := hW
      split
      ·rename_i hwt
       exact upon_of_opW (exec_ren (a := ⟨t, ds⟩) hr hok) (hy (by rw [hev]; exact hw.1 hwt)) (fun v w' h => hk.bound hT' hr hsz v w' h) (fun ch w' h => hP ch _ w' h rfl)
      ·rename_i hwt
       exact hk.bound hT' hr hsz undef w (hn (by rw [hev]; exact fun e => hwt (hw.2 e)))
     ·cases hc
    ·cases hc
 next => cases hc
theorem cmpOps_sound {sz : Nat} {ops : Array Oper} {Q : Exit → Act → World → Prop} {B : List (List Value → World → Prop)} (hP : ∀ ch a w', R (.panicked ch) w' → a.defers = ds → Q (.panic ch) a w') :
  ∀ (l : List Oper) (sf : SF) (k : KK) (T : Tree) (env : Env) (w : World) (t : Array Value), cmpOps sz ops l sf env.length k = some T → Rel sf env t → t.size = sz → W P R T env w B →
   PostO P R ds env B sz k (Q .normal) → wpList P ops Q l ⟨t, ds⟩ w
 | [], sf, k, T, env, w, t, hc, hr, hsz, hW, hk => hk _ _ _ _ _ _ hc rfl (List.suffix_refl _) hr hsz hW
 | o :: l, sf, k, T, env, w, t, hc, hr, hsz, hW, hk => by
  have key := cmpOp_sound (P := P) (R := R) (K' := wpList P ops Q l) (Q := Q) hc hr hsz hW
   (fun sf' n T' env' w' t' hT hn he hr' hsz' hW' => by
    subst hn
    exact cmpOps_sound hP l sf' k T' env' w' t' hT hr' hsz' hW' (hk.mono he)) hP
  unfold wpList
  split
  ·rename_i h; rw [if_pos h] at key; exact .inl key
  ·rename_i h; rw [if_neg h] at key; exact key
theorem qAt_ren {sf : SF} {env : Env} {a : Act} (h : Rel sf env a.tmps) {o : Oper} (hk : okOp sf o = true) {C : World → Prop} {w : World} {v : Value} (hq : qAt P (renO env.length sf o) env C w v) : o.quietAt P a C w v := by
 unfold qAt at hq
 unfold Oper.quietAt
 rwa [exec_ren h hk] at hq
theorem cmpQs_sound {sz : Nat} {ops : Array Oper} : ∀ (l : List Oper) (sf : SF) (n : Nat) (acc : List Q) (k : List Q → KK) (T : Tree), cmpQs sz ops l sf n acc k = some T →
  ∃ qs sf' n', k (acc.reverse ++ qs) sf' n' = some T ∧ ∀ (C : World → Prop) (env : Env) (t : Array Value) (next : Env → Prop) (q : Act → Prop), env.length = n → Rel sf env t → t.size = sz → qsW P C qs env next →
   (∀ env' t', env'.length = n' → env <:+ env' → Rel sf' env' t' → t'.size = sz → next env' → q ⟨t', ds⟩) → wpQuiet P ops C q l ⟨t, ds⟩
 | [], sf, n, acc, k, T, hc => ⟨[], sf, n, by simpa [cmpQs] using hc, fun C env t next q hn hr hsz hq hk => hk env t hn (List.suffix_refl _) hr hsz hq⟩
 | o :: l, sf, n, acc, k, T, hc => by
  unfold cmpQs at hc
  split at hc
  next hok =>
   split at hc
   ·rename_i j d hm
    obtain ⟨hg, hd, hop⟩ := plainMove_spec hm
    split at hc
    ·rename_i lv hlv
     split at hc
     ·rename_i hlt
      obtain ⟨qs, sf', n', hk', H⟩ := cmpQs_sound l _ n acc k T hc
      refine ⟨qs, sf', n', hk', fun C env t next q hn hr hsz hq hk => ?_⟩
      subst hn
      obtain ⟨_, h2, h3⟩ := hr.at_ j lv hlv
      unfold wpQuiet
      rw [if_pos (by simp [Region.wanted, hg])]
      refine ⟨val env lv, fun w _ => ?_, ?_⟩
      ·have hv : (execOp (⟨t, ds⟩ : Act).eval o) = pure (.value (val env lv)) := by
        rcases hop with e | e <;> simp only [execOp, e, Act.eval, h3]
       unfold Oper.quietAt
       rw [hv]
       exact ⟨rfl, rfl⟩
      ·rw [hd]
       exact H C env _ next q rfl (hr.alias (show d < t.size by omega) h2) (by simpa using hsz) hq hk
     ·cases hc
    ·cases hc
   ·split at hc
    ·rename_i hg
     -- a bare operation
     rcases bindD_spec hc with ⟨d, hd, hlt, hT⟩ | ⟨hd, hT⟩
     all_goals
      obtain ⟨qs, sf', n', hk', H⟩ := cmpQs_sound l _ _ _ k T hT
      refine ⟨⟨none, renO n sf o⟩ :: qs, sf', n', by simpa using hk', fun C env t next q hn hr hsz hq hk => ?_⟩
      subst hn
      simp only [qsW, qOne] at hq
      obtain ⟨v, hv, hq⟩ := hq
      unfold wpQuiet
      rw [if_pos (by simp [Region.wanted, hg])]
      refine ⟨v, fun w hw => qAt_ren (a := ⟨t, ds⟩) hr hok (hv w hw), ?_⟩
      rw [hd]
     ·exact H C (v :: env) _ next q (by simp) (hr.bind (show d < t.size by omega) v) (by simpa using hsz) hq (fun env' t' h1 h2 => hk env' t' h1 ((List.suffix_cons _ _).trans h2))
     ·exact H C (v :: env) _ next q (by simp) (hr.push v) hsz hq (fun env' t' h1 h2 => hk env' t' h1 ((List.suffix_cons _ _).trans h2))
    ·rename_i j b hg
     split at hc
     ·rename_i d0 hd0
      split at hc
      ·rename_i hkn
       obtain ⟨lv, hlv⟩ := Option.isSome_iff_exists.1 hkn
       rcases bindD_spec hc with ⟨d, hd, hlt, hT⟩ | ⟨hd, hT⟩
       all_goals
        obtain ⟨qs, sf', n', hk', H⟩ := cmpQs_sound l _ _ _ k T hT
        refine ⟨⟨some (renX n sf (.tmp d0), b), renO n sf o⟩ :: qs, sf', n', by simpa using hk', fun C env t next q hn hr hsz hq hk => ?_⟩
        subst hn
        obtain ⟨h1, h2, h3⟩ := hr.at_ d0 lv hlv
        have hw := wanted_iff (ops := ops) (o := o) (t := t) hg hd0 h1
        have hev : ev env (renX env.length sf (.tmp d0)) = t.getD d0 undef := ev_ren (a := ⟨t, ds⟩) hr (.tmp d0) (by simpa [known] using hkn)
        simp only [qsW, qOne] at hq
        obtain ⟨hy, hn⟩ := hq
        unfold wpQuiet
        split
       ·rename_i hwt
        obtain ⟨v, hv, hq⟩ := hy (by rw [hev]; exact hw.1 hwt)
        refine ⟨v, fun w hw => qAt_ren (a := ⟨t, ds⟩) hr hok (hv w hw), ?_⟩
        rw [hd]
        exact H C (v :: env) _ next q (by simp) (hr.bind (show d < t.size by omega) v) (by simpa using hsz) hq (fun env' t' h1 h2 => hk env' t' h1 ((List.suffix_cons _ _).trans h2))
       ·rename_i hwt
        rw [hd]
        exact H C (undef :: env) _ next q (by simp) (hr.bind (show d < t.size by omega) undef) (by simpa using hsz) (hn (by rw [hev]; exact fun e => hwt (hw.2 e))) (fun env' t' h1 h2 => hk env' t' h1 ((List.suffix_cons _ _).trans h2))
       ·rename_i hwt
        obtain ⟨v, hv, hq⟩ := hy (by rw [hev]; exact hw.1 hwt)
        refine ⟨v, fun w hw => qAt_ren (a := ⟨t, ds⟩) hr hok (hv w hw), ?_⟩
        rw [hd]
        exact H C (v :: env) _ next q (by simp) (hr.push v) hsz hq (fun env' t' h1 h2 => hk env' t' h1 ((List.suffix_cons _ _).trans h2))
       ·rename_i hwt
        rw [hd]
        exact H C (undef :: env) _ next q (by simp) (hr.push undef) hsz (hn (by rw [hev]; exact fun e => hwt (hw.2 e))) (fun env' t' h1 h2 => hk env' t' h1 ((List.suffix_cons _ _).trans h2))
      ·cases hc
     ·cases hc
  next => cases hc
/-! ### quiet operations in any order, then a tail in one order -/
section
variable {ops : Array Oper} {md : Region.Mode} {C : World → Prop}
def anyH (P : Program) (md : Region.Mode) (ops : Array Oper) (C : World → Prop) (n : Nat) (L : Array Bool → Act → Prop) : Nat → Array Bool → Act → Prop
 | 0, listed, a => L listed a
 | f + 1, listed, a => Region.ready md ops listed ≠ [] ∧ ∀ i ∈ Region.ready md ops listed, i < n ∧ qOp P ops C i (anyH P md ops C n L f (listed.setIfInBounds i true)) a
theorem wpAny_of_anyH {n g : Nat} {L : Array Bool → Act → Prop} {Q' : Exit → Act → World → Prop} (hL : ∀ listed a w, C w → L listed a → wpAny P md ops Q' g listed a w) :
  ∀ (f : Nat) (listed : Array Bool) (a : Act) (w : World), C w → anyH P md ops C n L f listed a → wpAny P md ops Q' (f + g) listed a w
 | 0, listed, a, w, hw, h => by rw [Nat.zero_add]; exact hL _ _ _ hw h
 | f + 1, listed, a, w, hw, h => by
  rw [show f + 1 + g = (f + g) + 1 by omega]
  exact ⟨fun h0 => absurd h0 h.1, fun i hi => wpOp_of_qOp hw (fun a' w' hw' h' => wpAny_of_anyH hL f _ a' w' hw' h') (h.2 i hi).2⟩
theorem anyH_first {n i : Nat} {oi : Oper} {v : Value} {L : Array Bool → Act → Prop} (hi : ops[i]? = some oi) (hsel : ∀ (j : Nat) (o : Oper) cs b, ops[j]? = some o → o.op ≠ .select cs b)
  (hs : Region.sinkB md ops n = true) (hc : Region.chainB md ops n = true) (hn : n < ops.size) (hin : i < n) (hdone : ∀ listed a, L listed a → ∀ j ∈ Region.ready md ops listed, n ≤ j) :
  ∀ (f : Nat) (listed : Array Bool) (a : Act), HeadInv md ops n listed →
   (∀ j oj, ops[j]? = some oj → j ≠ i → listed.getD j true = false → (∀ e ∈ oj.after, Region.binds md e = true → e.on ≠ i) → oi.apart ops oj = true) →
   i ∈ Region.ready md ops listed → YieldsIn P ops C oi v a → anyH P md ops C n L f (listed.setIfInBounds i true) (a.put oi.dst v) → anyH P md ops C n L (f + 1) listed a := by
 intro f
 have below : ∀ (listed : Array Bool), HeadInv md ops n listed → i ∈ Region.ready md ops listed → ∀ j ∈ Region.ready md ops listed, j < n := fun listed inv hr j hj => by
  rcases Nat.lt_or_ge j n with h | h
  ·exact h
  ·exact absurd hj (tail_waits hs hc hn inv _ i rfl hin (mem_ready.1 hr).1 j h)
 induction f with
 | zero =>
  intro listed a inv _ hr hy H
  refine ⟨fun h => (by rw [h] at hr; cases hr), fun j hj => ⟨below listed inv hr j hj, ?_⟩⟩
  by_cases hji : j = i
  ·subst hji; exact hy.qOp hi H
  ·have := hdone _ _ H j (ready_mono hj hji)
   have := below listed inv hr j hj
   omega
 | succ f ih =>
  intro listed a inv hfree hr hy H
  refine ⟨fun h => (by rw [h] at hr; cases hr), fun j hj => ?_⟩
  have hjn := below listed inv hr j hj
  refine ⟨hjn, ?_⟩
  by_cases hji : j = i
  ·subst hji; exact hy.qOp hi H
  ·have h1 := (H.2 j (ready_mono hj hji)).2
   have hun := (mem_ready.1 hr).1
   obtain ⟨hjun, oj, hoj, hall⟩ := mem_ready.1 hj
   have hnot : ∀ e ∈ oj.after, Region.binds md e = true → e.on ≠ i := fun e he hb heq => by
    have h2 := hall e he hb
    rw [heq, getD_both hun] at h2
    cases h2
   have h2 := qOp_put hoj (hfree j oj hoj hji hjun hnot) (fun cs b => hsel i oi cs b hi) (fun cs b => hsel j oj cs b hoj) hy h1
   refine qOp_mono (fun a' h3 => ih (listed.setIfInBounds j true) a' (inv.set hj hjn) ?_ (ready_mono hr (Ne.symm hji)) h3.1 ?_) h2
   ·intro k ok hk hki hunk hno
    refine hfree k ok hk hki ?_ hno
    by_cases hjk : j = k
    ·subst hjk; exact hjun
    ·rw [getD_set_ne true hjk] at hunk; exact hunk
   ·rw [Array.setIfInBounds_comm _ _ hji]
    exact h3.2
theorem headB_lex {n g : Nat} {q : Act → Prop} (hsel : Region.noSelect ops = true) (hs : Region.sinkB .any ops n = true) (hc : Region.chainB .any ops n = true) (hn : n < ops.size) :
  ∀ (l : List Oper) (k : Nat) (listed : Array Bool) (a : Act), (∀ j, j < l.length → l[j]? = ops[k + j]?) → k + l.length = n → HeadInv .any ops n listed → headB ops l.length k listed g = true → wpQuiet P ops C q l a →
   anyH P .any ops C n (fun listed' a' => Region.seqB .any ops g n listed' = true ∧ q a') l.length listed a
 | [], k, listed, a, _, hk, _, hB, h => by
  have : k = n := by simpa using hk
  subst this
  exact ⟨by simpa [headB] using hB, h⟩
 | o :: l, k, listed, a, hl, hk, inv, hB, h => by
  have h0 : ops[k]? = some o := by simpa using (hl 0 (by simp)).symm
  simp only [List.length_cons, headB, Bool.and_eq_true] at hB
  obtain ⟨⟨hr, hf⟩, hB'⟩ := hB
  have hkn : k < n := by simp only [List.length_cons] at hk; omega
  have hr' : k ∈ Region.ready .any ops listed := by simpa using hr
  have hst : qOp P ops C k (wpQuiet P ops C q l) a := by unfold qOp; simp only [h0]; exact h
  obtain ⟨v, hy, hK⟩ := yieldsIn_of_qOp h0 hst
  exact anyH_first h0 (Region.noSelect_spec hsel) hs hc hn hkn (fun listed' a' hL => seqB_ready hL.1) l.length listed a inv (Region.free_spec h0 hf) hr' hy
   (headB_lex hsel hs hc hn l (k + 1) _ _ (fun j hj => by have := hl (j + 1) (by simp; omega); simpa [Nat.add_assoc, Nat.add_comm 1 j] using this) (by simp only [List.length_cons] at hk; omega) (inv.set hr' hkn) hB' hK)
theorem wp_region_cut {id n : Nat} {Q : Exit → Act → World → Prop} {a : Act} {w : World} (hm : P.follows .mixedOrders = true) (hB : cutB ops n = true) (hC : C { w with drawn := w.drawn + 1 })
  (h : wpQuiet P ops C (fun a' => ∀ w', C w' → wpList P ops Q (ops.toList.drop n) a' w') (ops.toList.take n) a) : (Code.region id ops true).wp P Q a w := by
 simp only [cutB, Bool.and_eq_true, decide_eq_true_eq] at hB
 obtain ⟨⟨⟨⟨hsel, hn⟩, hs⟩, hc⟩, hlex⟩ := hB
 have htl : (ops.toList.take n).length = n := by simp; omega
 have hdl : (ops.toList.drop n).length = ops.size - n := by simp
 have inv0 : HeadInv .any ops n (Array.replicate ops.size false) :=
  ⟨by simp, fun j oj _ hl => (by rw [getD_replicate_false] at hl; cases hl), fun t _ ht => getD_in (by simpa using ht) (getD_replicate_false _ _)⟩
 have H := headB_lex (P := P) (C := C) (g := ops.size - n) hsel hs hc hn (ops.toList.take n) 0 _ a (fun j hj => by
  have hj' : j < n := by rw [htl] at hj; exact hj
  simp [hj']) (by simpa using htl) inv0 (by rw [htl]; exact hlex) h
 refine wp_region_any hm ?_
 have := wpAny_of_anyH (Q' := Q) (g := ops.size - n) (fun listed a' w' hw' hL => by
  have := wpAny_of_seq (md := .any) (P := P) (Q' := Q) (ops := ops) (ops.toList.drop n) n listed a' w' (fun j => by simp [List.getElem?_drop]) (by rw [hdl]; exact hL.1) (hL.2 w' hw')
  rwa [hdl] at this) _ _ _ _ hC H
 rw [htl, show n + (ops.size - n) = ops.size by omega] at this
 exact this
end
/-! ### quiet operations and others, mixed -/
set_option linter.unusedVariables false
set_option linter.unusedSimpArgs false
section
variable {ops : Array Oper} {md : Region.Mode} {D : World → Prop} {Q' : Exit → Act → World → Prop}
def exAt (P : Program) (o : Oper) (ρ : Operand → Value) (w : World) (v : Value) : Prop := (execOp ρ o).run P w = .ok (.value v) w ∨ ((execOp ρ o).run P w = .ok .skip w ∧ v = undef)
theorem no_enter {s : Sem Value} {w w' : World} {f : FuncId} {args : Array Value} : (do let x ← s; pure (Next.value x) : Sem Next).run P w ≠ .ok (.enter f args) w' := by
 rw [Sem.run_bind]
 intro h
 cases hs : s.run P w with
 | ok v w1 => rw [hs] at h; simp only [Result.andThen_ok, Sem.run_pure] at h; injection h with h; cases h
 | halt e w1 => rw [hs] at h; cases h
def NE (P : Program) (m : Sem Next) : Prop := ∀ w w' f args, m.run P w ≠ .ok (.enter f args) w'
theorem NE.at {m : Sem Next} (h : NE P m) {w w' : World} {f : FuncId} {args : Array Value} : m.run P w ≠ .ok (.enter f args) w' := h w w' f args
theorem NE.pure (v : Value) : NE P (Pure.pure (Next.value v)) := fun w w' f args h => by rw [Sem.run_pure] at h; injection h with h; cases h
theorem NE.bind {α : Type} {m : Sem α} {k : α → Sem Next} (h : ∀ x, NE P (k x)) : NE P (m >>= k) := fun w w' f args hh => by
 rw [Sem.run_bind] at hh
 cases hs : m.run P w with
 | ok v w1 => rw [hs] at hh; exact h v w1 w' f args hh
 | halt e w1 => rw [hs] at hh; cases hh
theorem NE.go {v : Value} : NE P (goPanic v) := fun w w' f args h => by cases h
theorem NE.panic {r} : NE P (runtimePanic r) := by
 unfold runtimePanic
 refine NE.bind fun p => ?_
 cases r <;> dsimp only <;> first | exact NE.go | exact NE.bind fun _ => NE.bind fun _ => NE.go
theorem now_enter {o : Oper} (h : isNow o.op = true) {ρ : Operand → Value} {w w' : World} {f : FuncId} {args : Array Value} : (execOp ρ o).run P w ≠ .ok (.enter f args) w' := by
 obtain ⟨dst, op, type, pos, after, guard⟩ := o
 cases op <;> simp only [isNow] at h <;> try (cases h)
 all_goals try exact no_enter
 case move x => intro h; simp only [execOp, Sem.run_pure] at h; injection h with h; cases h
 case assign x => intro h; simp only [execOp, Sem.run_pure] at h; injection h with h; cases h
 case pick c a b =>
  intro h
  simp only [execOp, Sem.run_bind] at h
  cases hs : (asBool (ρ c)).run P w with
  | ok v w1 => rw [hs] at h; simp only [Result.andThen_ok, Sem.run_pure] at h; injection h with h; cases h
  | halt e w1 => rw [hs] at h; cases h
 case nilCheck x =>
  refine NE.at (m := execOp ρ ⟨dst, .nilCheck x, type, pos, after, guard⟩) ?_
  simp only [execOp]
  split
  ·exact NE.panic
  ·exact NE.panic
  ·exact NE.panic
  ·split
   ·exact NE.panic
   ·refine NE.bind fun p => NE.bind fun b => ?_
    split
    ·exact NE.bind fun _ => NE.pure _
    ·exact NE.pure _
   ·exact NE.pure _
  ·exact NE.pure _
 case call c =>
  obtain ⟨callee, xs, tys⟩ := c
  cases callee with
  | value g => simp at h
  | invoke r m => simp at h
  | builtin b =>
   have e : ∃ cs, (execOp ρ ⟨dst, .call ⟨.builtin b, xs, tys⟩, type, pos, after, guard⟩) = builtin b tys type cs (xs.map ρ) := by
    refine ⟨xs.map fun | .const _ => true | _ => false, ?_⟩
    simp only [execOp, resolve, pure_bind, invoke]
    rfl
   obtain ⟨cs, e⟩ := e
   rw [e]
   cases b <;> simp at h <;> exact no_enter
theorem ex_of_q {o : Oper} {ρ : Operand → Value} {w : World} {v : Value} (hn : isNow o.op = true) (h : Oper.quietUpon P D w v ((execOp ρ o).run P w)) : exAt P o ρ w v := by
 have hne := fun f args w' => now_enter (P := P) hn (ρ := ρ) (w := w) (w' := w') (f := f) (args := args)
 unfold exAt
 generalize (execOp ρ o).run P w = r at *
 cases r with
 | ok x w' =>
  cases x <;> simp only [Oper.quietUpon] at h
  case value u => obtain ⟨rfl, rfl⟩ := h; exact .inl rfl
  case skip => obtain ⟨rfl, rfl⟩ := h; exact .inr ⟨rfl, rfl⟩
  case enter f args => exact absurd rfl (hne f args w')
 | halt x w' => simp only [Oper.quietUpon] at h
def YieldsD (P : Program) (ops : Array Oper) (D : World → Prop) (o : Oper) (v : Value) (a : Act) : Prop :=
 (Region.wanted o (yielded ops a.tmps) = true ∧ ∀ w, D w → exAt P o a.eval w v) ∨ (Region.wanted o (yielded ops a.tmps) = false ∧ v = undef)
theorem YieldsD.wpOp {i : Nat} {o : Oper} {v : Value} {a : Act} (hi : ops[i]? = some o) (hy : YieldsD P ops D o v a) {K : Act → World → Prop} {w : World} (hD : D w) (h : K (a.put o.dst v) w) : wpOp P ops Q' i K a w := by
 unfold Go.wpOp
 simp only [hi]
 rcases hy with ⟨hw, hv⟩ | ⟨hw, rfl⟩
 ·simp only [hw, if_true, Oper.wp]
  rcases hv w hD with e | ⟨e, rfl⟩
  ·rw [e]; exact .inl h
  ·rw [e]; exact .inl h
 ·simp only [hw, Bool.false_eq_true, if_false]; exact h
theorem YieldsD.of_same {o : Oper} {v : Value} {a a' : Act} (hy : YieldsD P ops D o v a) (he : execOp a'.eval o = execOp a.eval o) (hw : Region.wanted o (yielded ops a'.tmps) = Region.wanted o (yielded ops a.tmps)) : YieldsD P ops D o v a' := by
 unfold YieldsD exAt at *
 rw [he, hw]
 exact hy
theorem wpOpD_put {j : Nat} {oi oj : Oper} {v : Value} (hj : ops[j]? = some oj) (hap : oi.apart ops oj = true) (hsi : ∀ cs b, oi.op ≠ .select cs b) (hsj : ∀ cs b, oj.op ≠ .select cs b)
  (hQ : ∀ c a w, Q' (.panic c) (a.put oi.dst v) w → Q' (.panic c) a w) {K : Act → World → Prop} {a : Act} {w : World} (hy : YieldsD P ops D oi v a) (h : wpOp P ops Q' j K (a.put oi.dst v) w) :
  wpOp P ops Q' j (fun a' w' => YieldsD P ops D oi v a' ∧ K (a'.put oi.dst v) w') a w := by
 obtain ⟨h1, h2, h3⟩ := Oper.apart_spec hap
 have keep : ∀ (a : Act), YieldsD P ops D oi v a → ∀ u, YieldsD P ops D oi v (a.put oj.dst u) := fun a hy u =>
  hy.of_same (execOp_put oi hsi a oj.dst u h3) (wanted_put oi a oj.dst u h3)
 have keepD : ∀ d, YieldsD P ops D oi v { a with defers := d :: a.defers } := fun d => hy.of_same rfl rfl
 unfold wpOp at *
 simp only [hj] at *
 rw [wanted_put oj a oi.dst v h1] at h
 split
 ·rename_i hw
  simp only [hw, if_true] at h
  rcases h with h | ⟨hasks, hlets⟩
  case inr => exact .inr ⟨by unfold Oper.asks at *; rw [execOp_put oj hsj a oi.dst v h1] at hasks; exact hasks, hlets⟩
  refine .inl ?_
  unfold Oper.wp at *
  rw [execOp_put oj hsj a oi.dst v h1] at h
  generalize (execOp a.eval oj).run P w = r at *
  cases r with
  | ok n w' =>
   cases n <;> simp only [Oper.upon] at h ⊢
   case value u => exact ⟨keep a hy u, by rw [← Act.put_comm a v u h2]; exact h⟩
   case skip => exact ⟨keep a hy _, by rw [← Act.put_comm a v undef h2]; exact h⟩
   case defer d =>
    refine ⟨keep _ (keepD d) _, ?_⟩
    rw [← Act.put_comm _ v undef h2, ← Act.put_defers]
    exact h
   case enter f args =>
    refine Calls.mono h fun e w'' he => ?_
    cases e with
    | returned u => exact ⟨keep a hy u, by rw [← Act.put_comm a v u h2]; exact he⟩
    | panicked c => exact hQ _ _ _ he
    | outgrown => exact he
   case row row args => exact Rows.mono h fun u w'' he => ⟨keep a hy u, by rw [← Act.put_comm a v u h2]; exact he⟩
  | halt x w' =>
   cases x <;> simp only [Oper.upon] at h ⊢
   case panic u => exact hQ _ _ _ h
 ·rename_i hw
  simp only [hw] at h
  exact ⟨keep a hy _, by rw [← Act.put_comm a v undef h2]; exact h⟩
def closedL (ops : Array Oper) (l : Array Bool) : Prop := ∀ j oj, ops[j]? = some oj → l.getD j false = true → ∀ e ∈ oj.after, Region.binds .any e = true → l.getD e.on false = true
theorem closedL.step {l : Array Bool} {i : Nat} (h : closedL ops l) (hi : i ∈ Region.ready .any ops l) : closedL ops (l.setIfInBounds i true) := fun j oj hj hl e he hb => by
 obtain ⟨_, o, ho, hall⟩ := mem_ready.1 hi
 by_cases hij : i = j
 ·subst hij
  rw [ho] at hj
  injection hj with hj
  subst hj
  exact getD_set_true (hall e he hb)
 ·rw [getD_set_ne false hij] at hl
  exact getD_set_true (h j oj hj hl e he hb)
theorem getD_set_self {l : Array Bool} {i : Nat} (h : l.getD i true = false) : (l.setIfInBounds i true).getD i false = true := by
 have hlt : i < l.size := by
  rcases Nat.lt_or_ge i l.size with h' | h'
  ·exact h'
  ·simp [Array.getElem?_eq_none h'] at h
 simp [hlt]
theorem ancs_sound {l : Array Bool} (hc : closedL ops l) : ∀ (f : Nat) (s : List Nat), (∀ x ∈ s, l.getD x false = true) → ∀ x ∈ ancs ops f s, l.getD x false = true
 | 0, s, hs, x, hx => hs x hx
 | f + 1, s, hs, x, hx => by
  unfold ancs at hx
  split at hx
  ·exact hs x hx
  ·rename_i new hnew
   refine ancs_sound hc f _ (fun y hy => ?_) x hx
   rcases List.mem_append.1 hy with hy | hy
   ·exact hs y hy
   ·have := (List.mem_filter.1 hy).1
    obtain ⟨j, hj, hy⟩ := List.mem_flatMap.1 this
    cases ho : ops[j]? with
    | none => rw [ho] at hy; cases hy
    | some o =>
     rw [ho] at hy
     obtain ⟨e, he, rfl⟩ := List.mem_map.1 hy
     obtain ⟨he, hb⟩ := List.mem_filter.1 he
     exact hc j o ho (hs j hj) e (by simpa using he) hb
theorem covers_sound {listed l : Array Bool} {i : Nat} (h : coversB ops listed i = true) (hc : closedL ops l) (hi : l.getD i false = true) (j : Nat) (hj : listed.getD j false = true) : l.getD j false = true := by
 unfold coversB at h
 rw [List.all_eq_true] at h
 have hlt : j < listed.size := by
  rcases Nat.lt_or_ge j listed.size with h' | h'
  ·exact h'
  ·simp [Array.getElem?_eq_none h'] at hj
 have h1 := h j (List.mem_range.2 hlt)
 rw [hj] at h1
 simp only [Bool.not_true, Bool.false_or, List.contains_eq_mem, decide_eq_true_eq] at h1
 exact ancs_sound hc _ [i] (fun x hx => by rw [List.mem_singleton] at hx; rw [hx]; exact hi) j h1
def AH (P : Program) (md : Region.Mode) (ops : Array Oper) (Q' : Exit → Act → World → Prop) (D : Array Bool → World → Prop) : Nat → Array Bool → Act → World → Prop
 | 0, listed, a, w => D listed w ∧ Region.ready md ops listed = [] ∧ Q' .normal a w
 | f + 1, listed, a, w => D listed w ∧ Region.ready md ops listed ≠ [] ∧ ∀ i ∈ Region.ready md ops listed, wpOp P ops Q' i (AH P md ops Q' D f (listed.setIfInBounds i true)) a w
section
variable {D : Array Bool → World → Prop}
theorem AH.at {f : Nat} {listed : Array Bool} {a : Act} {w : World} (h : AH P md ops Q' D f listed a w) : D listed w := by cases f <;> exact h.1
theorem AH.weaken {D2 : Array Bool → World → Prop} {i : Nat} (hD : ∀ l, l.getD i false = true → ∀ w, D l w → D2 l w) : ∀ {f : Nat} {listed : Array Bool} {a : Act} {w : World}, listed.getD i false = true → AH P md ops Q' D f listed a w → AH P md ops Q' D2 f listed a w
 | 0, _, _, _, hl, h => ⟨hD _ hl _ h.1, h.2⟩
 | f + 1, _, _, _, hl, h => ⟨hD _ hl _ h.1, h.2.1, fun i hi => wpOp_mono (fun a w h => AH.weaken hD (getD_set_true hl) h) (h.2.2 i hi)⟩
theorem wpAny_of_AH : ∀ {f : Nat} {listed : Array Bool} {a : Act} {w : World}, AH P md ops Q' D f listed a w → wpAny P md ops Q' f listed a w
 | 0, _, _, _, h => h.2
 | f + 1, _, _, _, h => ⟨fun h0 => absurd h0 h.2.1, fun i hi => wpOp_mono (fun a w h => wpAny_of_AH h) (h.2.2 i hi)⟩
theorem AH_first {i : Nat} {oi : Oper} {v : Value} {C : World → Prop} (hi : ops[i]? = some oi) (hsel : ∀ (j : Nat) (o : Oper) cs b, ops[j]? = some o → o.op ≠ .select cs b)
  (hQ : ∀ c a w, Q' (.panic c) (a.put oi.dst v) w → Q' (.panic c) a w)
  (hC : ∀ l, closedL ops l → l.getD i false = false → ∀ w, D l w → C w) (hins : ∀ l, closedL ops l → ∀ w, D (l.setIfInBounds i true) w → D l w) :
  ∀ (fuel : Nat) (listed : Array Bool) (a : Act) (w : World),
   (∀ j oj, ops[j]? = some oj → j ≠ i → listed.getD j true = false → (∀ e ∈ oj.after, Region.binds .any e = true → e.on ≠ i) → oi.apart ops oj = true) →
   closedL ops listed → i ∈ Region.ready .any ops listed → YieldsD P ops C oi v a →
   AH P .any ops Q' D fuel (listed.setIfInBounds i true) (a.put oi.dst v) w → AH P .any ops Q' D (fuel + 1) listed a w := by
 intro fuel
 induction fuel with
 | zero =>
  intro listed a w _ hcl hr hy H
  have h0 := hins _ hcl _ H.at
  refine ⟨h0, fun h => (by rw [h] at hr; cases hr), fun j hj => ?_⟩
  by_cases hji : j = i
  ·subst hji; exact hy.wpOp hi (hC _ hcl (getD_both (mem_ready.1 hr).1) _ h0) H
  ·have := ready_mono hj hji
   rw [H.2.1] at this
   cases this
 | succ fuel ih =>
  intro listed a w hfree hcl hr hy H
  have h0 := hins _ hcl _ H.at
  refine ⟨h0, fun h => (by rw [h] at hr; cases hr), fun j hj => ?_⟩
  by_cases hji : j = i
  ·subst hji; exact hy.wpOp hi (hC _ hcl (getD_both (mem_ready.1 hr).1) _ h0) H
  ·have h1 := H.2.2 j (ready_mono hj hji)
   have hun := (mem_ready.1 hr).1
   obtain ⟨hjun, oj, hoj, hall⟩ := mem_ready.1 hj
   have hnot : ∀ e ∈ oj.after, Region.binds .any e = true → e.on ≠ i := fun e he hb heq => by
    have h2 := hall e he hb
    rw [heq, getD_both hun] at h2
    cases h2
   have h2 := wpOpD_put hoj (hfree j oj hoj hji hjun hnot) (fun cs b => hsel i oi cs b hi) (fun cs b => hsel j oj cs b hoj) hQ hy h1
   refine wpOp_mono (fun a' w' h3 => ih (listed.setIfInBounds j true) a' w' ?_ (hcl.step hj) (ready_mono hr (Ne.symm hji)) h3.1 ?_) h2
   ·intro k ok hk hki hunk hno
    refine hfree k ok hk hki ?_ hno
    by_cases hjk : j = k
    ·subst hjk; exact hjun
    ·rw [getD_set_ne true hjk] at hunk; exact hunk
   ·rw [Array.setIfInBounds_comm _ _ hji]
    exact h3.2
end
structure Fam (ops : Array Oper) (D : World → Prop) (listed : Array Bool) (Df : Array Bool → World → Prop) : Prop where
 old : ∀ l, closedL ops l → ∀ j, listed.getD j false = true → l.getD j false = false → ∀ w, Df l w → D w
 ins : ∀ j, listed.getD j false = true → ∀ l, closedL ops l → ∀ w, Df (l.setIfInBounds j true) w → Df l w
def Good (P : Program) (ops : Array Oper) (Q' : Exit → Act → World → Prop) (D : World → Prop) (f : Nat) (listed : Array Bool) (a : Act) (w : World) : Prop := ∃ Df, Fam ops D listed Df ∧ AH P .any ops Q' Df f listed a w
theorem Good.first {i : Nat} {oi : Oper} {v : Value} {D : World → Prop} {f : Nat} {listed : Array Bool} {a : Act} {w : World} (hi : ops[i]? = some oi) (hsel : ∀ (j : Nat) (o : Oper) cs b, ops[j]? = some o → o.op ≠ .select cs b)
  (hQ : ∀ c a w, Q' (.panic c) (a.put oi.dst v) w → Q' (.panic c) a w)
  (hfree : ∀ j oj, ops[j]? = some oj → j ≠ i → listed.getD j true = false → (∀ e ∈ oj.after, Region.binds .any e = true → e.on ≠ i) → oi.apart ops oj = true)
  (hcl : closedL ops listed) (hr : i ∈ Region.ready .any ops listed) (hy : YieldsD P ops D oi v a)
  (h : Good P ops Q' D f (listed.setIfInBounds i true) (a.put oi.dst v) w) : Good P ops Q' D (f + 1) listed a w := by
 obtain ⟨Df, hF, hA⟩ := h
 have hself := getD_set_self (mem_ready.1 hr).1
 exact ⟨Df, ⟨fun l hl j hj => hF.old l hl j (getD_set_true hj), fun j hj => hF.ins j (getD_set_true hj)⟩,
  AH_first hi hsel hQ (fun l hl hli => hF.old l hl i hself hli) (fun l hl => hF.ins i hself l hl) f listed a w hfree hcl hr hy hA⟩
theorem isNow_move {o : Oper} {j d : Nat} (h : plainMove o = some (j, d)) : ∀ (ρ : Operand → Value) w, (execOp ρ o).run P w = .ok (.value (ρ (.tmp j))) w := by
 obtain ⟨_, _, hop⟩ := plainMove_spec h
 intro ρ w
 rcases hop with e | e <;> simp only [execOp, e, Sem.run_pure]
theorem allT_spec {g : Nat → Option Tree} {env : Env} {w : World} {B : List (List Value → World → Prop)} : ∀ {is : List Nat} {T : Tree}, allT g is = some T → W P R T env w B → is ≠ [] ∧ ∀ i ∈ is, ∃ T', g i = some T' ∧ W P R T' env w B
 | [], T, h, _ => by cases h
 | [i], T, h, hW => ⟨by simp, fun j hj => by
  rw [List.mem_singleton] at hj
  subst hj
  exact ⟨T, h, hW⟩⟩
 | i :: j :: is, T, h, hW => ⟨by simp, fun k hk => by
  unfold allT at h
  split at h
  ·rename_i a b ha hb
   injection h with h
   subst h
   simp only [W] at hW
   rcases List.mem_cons.1 hk with rfl | hk
   ·exact ⟨a, ha, hW.1⟩
   ·exact (allT_spec hb hW.2).2 k hk
  ·cases h⟩
theorem cmpMix_sound {m sz : Nat} {B : List (List Value → World → Prop)} (hsel : Region.noSelect ops = true) (hP : ∀ ch a w', R (.panicked ch) w' → a.defers = ds → Q' (.panic ch) a w') (hQ : ∀ c d v a w, Q' (.panic c) (Act.put a d v) w → Q' (.panic c) a w) :
  ∀ (f : Nat) (listed : Array Bool) (sf : SF) (k : KK) (T : Tree) (env : Env) (w : World) (t : Array Value) (D : World → Prop), cmpMix m sz ops f listed sf env.length k = some T → Rel sf env t → t.size = sz → closedL ops listed → D w → W P R T env w (B ++ [fun _ => D]) →
   PostO P R ds env B sz k (Q' .normal) → Good P ops Q' D f listed ⟨t, ds⟩ w
 | 0, listed, sf, k, T, env, w, t, D, hc, hr, hsz, hcl, hD, hW, hk => by
  unfold cmpMix at hc
  split at hc
  ·rename_i hre
   obtain ⟨T', hT', rfl⟩ := Option.map_eq_some_iff.1 hc
   simp only [W, List.dropLast_concat] at hW
   exact ⟨fun _ => D, ⟨fun _ _ _ _ _ _ h => h, fun _ _ _ _ _ h => h⟩, hD, by simpa using hre, hk _ _ _ _ _ _ hT' rfl (List.suffix_refl _) hr hsz hW⟩
  ·cases hc
 | f + 1, listed, sf, k, T, env, w, t, D, hc, hr, hsz, hcl, hD, hW, hk => by
  unfold cmpMix at hc
  split at hc
  ·rename_i i hfi
   have hmem := List.mem_of_find?_eq_some hfi
   have hcalm := List.find?_some hfi
   split at hc
   ·rename_i o ho
    simp only [calmU, calmB, ho, Bool.and_eq_true] at hcalm
    obtain ⟨_, hnow, hfree⟩ := hcalm
    -- what the rest is good for
    have hrest : ∀ sf' T' env' t', cmpMix m sz ops f (listed.setIfInBounds i true) sf' env'.length k = some T' → env <:+ env' → Rel sf' env' t' → t'.size = sz → W P R T' env' w (B ++ [fun _ => D]) → Good P ops Q' D f (listed.setIfInBounds i true) ⟨t', ds⟩ w :=
     fun sf' T' env' t' hT' he hr' hsz' hW' => cmpMix_sound hsel hP hQ f _ sf' k T' env' w t' D hT' hr' hsz' (hcl.step hmem) hD hW' (hk.mono he)
    have first : ∀ v, YieldsD P ops D o v ⟨t, ds⟩ → Good P ops Q' D f (listed.setIfInBounds i true) ((⟨t, ds⟩ : Act).put o.dst v) w → Good P ops Q' D (f + 1) listed ⟨t, ds⟩ w := fun v hy h =>
     Good.first ho (Region.noSelect_spec hsel) (fun c a w => hQ c _ v a w) (Region.free_spec ho hfree) hcl hmem hy h
    have bound : ∀ (v : Value) (T' : Tree), bindD sz o sf env.length (fun sf n => cmpMix m sz ops f (listed.setIfInBounds i true) sf n k) = some T' → W P R T' (v :: env) w (B ++ [fun _ => D]) → Good P ops Q' D f (listed.setIfInBounds i true) ((⟨t, ds⟩ : Act).put o.dst v) w := fun v T' hT' hW' => by
     rcases bindD_spec hT' with ⟨d, hd, hlt, hT'⟩ | ⟨hd, hT'⟩
     ·rw [hd]
      exact hrest _ T' (v :: env) _ (by simpa using hT') (List.suffix_cons _ _) (hr.bind (show d < t.size by omega) v) (by simpa using hsz) hW'
     ·rw [hd]
      exact hrest _ T' (v :: env) t (by simpa using hT') (List.suffix_cons _ _) (hr.push v) hsz hW'
    unfold cmpMQ at hc
    split at hc
    next hok =>
     split at hc
     ·rename_i j d hm
      obtain ⟨hg, hd, hop⟩ := plainMove_spec hm
      split at hc
      ·rename_i lv hlv
       split at hc
       ·rename_i hlt
        obtain ⟨_, h2, h3⟩ := hr.at_ j lv hlv
        refine first (val env lv) (.inl ⟨by simp [Region.wanted, hg], fun w' _ => .inl ?_⟩) ?_
        ·rw [isNow_move hm]
         simp only [Act.eval, h3]
        ·rw [hd]
         exact hrest _ T env _ hc (List.suffix_refl _) (hr.alias (show d < t.size by omega) h2) (by simpa using hsz) hW
       ·cases hc
      ·cases hc
     ·split at hc
      ·rename_i hg
       obtain ⟨T', hT', rfl⟩ := Option.map_eq_some_iff.1 hc
       simp only [W, List.getLast?_concat] at hW
       obtain ⟨p, hp, v, hv, hW⟩ := hW
       injection hp with hp
       subst hp
       refine first v (.inl ⟨by simp [Region.wanted, hg], fun w' hw' => ?_⟩) (bound v T' hT' hW)
       have := hv w' hw'
       unfold qAt at this
       rw [exec_ren (a := ⟨t, ds⟩) hr hok] at this
       exact ex_of_q hnow this
      ·rename_i j b hg
       split at hc
       ·rename_i d hd
        split at hc
        ·rename_i hkn
         obtain ⟨lv, hlv⟩ := Option.isSome_iff_exists.1 hkn
         obtain ⟨h1, h2, h3⟩ := hr.at_ d lv hlv
         have hw := wanted_iff (ops := ops) (o := o) (t := t) hg hd h1
         obtain ⟨T', hT', rfl⟩ := Option.map_eq_some_iff.1 hc
         have hev : ev env (renX env.length sf (.tmp d)) = t.getD d undef := ev_ren (a := ⟨t, ds⟩) hr (.tmp d) (by simpa [known] using hkn)
         simp only [W, List.getLast?_concat] at hW
         obtain ⟨p, hp, hy, hn⟩ := hW
         injection hp with hp
         subst hp
         by_cases hwt : Region.wanted o (yielded ops t) = true
         ·obtain ⟨v, hv, hW⟩ := hy (by rw [hev]; exact hw.1 hwt)
          refine first v (.inl ⟨hwt, fun w' hw' => ?_⟩) (bound v T' hT' hW)
          have := hv w' hw'
          unfold qAt at this
          rw [exec_ren (a := ⟨t, ds⟩) hr hok] at this
          exact ex_of_q hnow this
         ·exact first undef (.inr ⟨by simpa using hwt, rfl⟩) (bound undef T' hT' (hn (by rw [hev]; exact fun e => hwt (hw.2 e))))
        ·cases hc
       ·cases hc
    next => cases hc
   ·cases hc
  ·obtain ⟨hne, hall⟩ := allT_spec hc hW
   have hne' : ∀ {i j : Nat}, i ∈ Region.ready .any ops listed → listed.getD j false = true → j ≠ i := fun {i j} hi hj e => by
    have hun := getD_both (mem_ready.1 hi).1
    rw [e, hun] at hj
    cases hj
   refine ⟨fun l w => (∀ i ∈ Region.ready .any ops listed, l.getD i false = false) ∧ D w ∨ ∃ i ∈ Region.ready .any ops listed, l.getD i false = true ∧ ∃ (D2 : World → Prop) (Df2 : Array Bool → World → Prop), (coversB ops listed i = true ∨ ∀ w, D2 w → D w) ∧ Fam ops D2 (listed.setIfInBounds i true) Df2 ∧ Df2 l w,
    ⟨fun l hl j hj hjl w' h => ?_, fun j hj l hl w' h => ?_⟩, .inl ⟨fun i hi => getD_both (mem_ready.1 hi).1, hD⟩, hne, fun j hj => ?_⟩
   ·rcases h with h | ⟨i, hi, hli, D2, Df2, h1, h2, h3⟩
    ·exact h.2
    ·rcases h1 with hcv | h1
     ·rw [covers_sound hcv hl hli j hj] at hjl
      cases hjl
     ·exact h1 _ (h2.old l hl j (getD_set_true hj) hjl w' h3)
   ·rcases h with h | ⟨i, hi, hli, D2, Df2, h1, h2, h3⟩
    ·exact .inl ⟨fun i hi => by have := h.1 i hi; rwa [getD_set_ne false (hne' hi hj)] at this, h.2⟩
    ·rw [getD_set_ne false (hne' hi hj)] at hli
     exact .inr ⟨i, hi, hli, D2, Df2, h1, h2, h2.ins j (getD_set_true hj) l hl w' h3⟩
   ·obtain ⟨T', hTj, hWj⟩ := hall j hj
    split at hTj
    ·rename_i o ho
     have hself := getD_set_self (mem_ready.1 hj).1
     have hcl' := hcl.step hj
     have key := cmpOp_sound (P := P) (R := R) (Q := Q') (K' := AH P .any ops Q' (fun l w => (∀ i ∈ Region.ready .any ops listed, l.getD i false = false) ∧ D w ∨ ∃ i ∈ Region.ready .any ops listed, l.getD i false = true ∧ ∃ (D2 : World → Prop) (Df2 : Array Bool → World → Prop), (coversB ops listed i = true ∨ ∀ w, D2 w → D w) ∧ Fam ops D2 (listed.setIfInBounds i true) Df2 ∧ Df2 l w) f (listed.setIfInBounds j true)) hTj hr hsz hWj (fun sf' n T' env' w' t' hT hn he hr' hsz' hW' => by
      subst hn
      obtain ⟨T2, hT2, rfl⟩ := Option.map_eq_some_iff.1 hT
      by_cases hcv : coversB ops listed j = true
      ·rw [if_pos hcv] at hW'
       simp only [W, List.dropLast_concat] at hW'
       obtain ⟨D2, hDw, hW'⟩ := hW'
       obtain ⟨Df2, hF2, hA⟩ := cmpMix_sound hsel hP hQ f _ sf' k T2 env' w' t' D2 hT2 hr' hsz' hcl' hDw hW' (hk.mono he)
       exact hA.weaken (fun l hl w h => .inr ⟨j, hj, hl, D2, Df2, .inl hcv, hF2, h⟩) hself
      ·rw [if_neg hcv] at hW'
       simp only [W, List.getLast?_concat, List.dropLast_concat] at hW'
       obtain ⟨p, hp, D2, hD2, hDw, hW'⟩ := hW'
       injection hp with hp
       subst hp
       obtain ⟨Df2, hF2, hA⟩ := cmpMix_sound hsel hP hQ f _ sf' k T2 env' w' t' D2 hT2 hr' hsz' hcl' hDw hW' (hk.mono he)
       exact hA.weaken (fun l hl w h => .inr ⟨j, hj, hl, D2, Df2, .inr hD2, hF2, h⟩) hself) hP
     unfold wpOp
     simp only [ho]
     split
     ·rename_i h; rw [if_pos h] at key; exact .inl key
     ·rename_i h; rw [if_neg h] at key; exact key
    ·cases hTj
end
end Go.Sx
/-! Sx3 -/
namespace Go.Sx
open Go
variable {P : Program} {R : Ending → World → Prop} {ds : List Deferred}
def rvG (t : Array Value) (r : ResultVar) : Sem Value := match r with | .tmp s => pure (t.getD s undef) | .cell s ty => do loadVar ty (← asAddr (t.getD s undef))
theorem rv_run {sf : SF} {env : Env} {t : Array Value} {w : World} (hr : Rel sf env t) {r : ResultVar} {a : RV} {v : Value} (h : rvOf env.length sf r = some a) (hv : rvW P env w a v) :
  (rvG t r).run P w = .ok v w := by
 cases r with
 | tmp s =>
  obtain ⟨lv, hlv, rfl⟩ := Option.map_eq_some_iff.1 h
  obtain ⟨_, _, h3⟩ := hr.at_ s lv hlv
  simp only [rvW] at hv
  subst hv
  simp only [rvG, h3]
  rfl
 | cell s ty =>
  obtain ⟨lv, hlv, rfl⟩ := Option.map_eq_some_iff.1 h
  obtain ⟨_, _, h3⟩ := hr.at_ s lv hlv
  obtain ⟨ad, had, hl⟩ := hv
  have : t.getD s undef = .pointer (some ad) := by rw [h3]; exact had
  simp only [rvG, this, asAddr]
  exact hl
theorem rvs_run {sf : SF} {env : Env} {t : Array Value} {w : World} (hr : Rel sf env t) : ∀ (l : List ResultVar) (rs : List RV) (vs : List Value), rvsOf env.length sf l = some rs → rvsW P env w rs vs →
  (l.mapM (rvG t)).run P w = .ok vs w
 | [], rs, vs, h, hv => by
  simp only [rvsOf] at h
  injection h with h
  subst h
  match vs, hv with
  | [], _ => rfl
 | r :: l, rs, vs, h, hv => by
  simp only [rvsOf] at h
  split at h
  ·rename_i a b h0 hb
   injection h with h
   subst h
   match vs, hv with
   | v :: vs, hv =>
    have e0 := rv_run hr h0 hv.1
    have e1 := rvs_run hr l b vs hb hv.2
    rw [List.mapM_cons]
    simp only [Sem.run_bind, e0, e1, Result.andThen_ok, Sem.run_pure]
  ·cases h
theorem results_run {fn : Func} {sf : SF} {env : Env} {t : Array Value} {w : World} {rs : List RV} {vs : List Value} (hr : Rel sf env t) (h : rvsOf env.length sf fn.results.toList = some rs) (hv : rvsW P env w rs vs) :
  (results fn t).run P w = .ok (retVal vs) w := by
 have e := rvs_run hr _ rs vs h hv
 have hd : results fn t = (do let vs ← fn.results.mapM (rvG t); pure (if h : vs.size = 1 then vs[0] else .tuple vs)) := rfl
 have hm : fn.results.mapM (rvG t) = List.toArray <$> fn.results.toList.mapM (rvG t) := by
  rw [← List.mapM_toArray, Array.toArray_toList]
 rw [hd, hm]
 simp only [map_eq_pure_bind, Sem.run_bind, e, Result.andThen_ok, Sem.run_pure, bind_assoc, pure_bind]
 congr 1
 match vs with
 | [] => rfl
 | [v] => rfl
 | a :: b :: r => simp [retVal]
theorem at_numbered : ∀ (l : List Nat) (n : Nat) (sf : SF) (j : Nat), l.Nodup → at_ (numbered l n sf) j = match l.idxOf? j with | some i => some (n + (l.length - 1 - i)) | none => at_ sf j
 | [], n, sf, j, _ => rfl
 | s :: l, n, sf, j, hnd => by
  have ih := at_numbered l n sf j (List.nodup_cons.1 hnd).2
  simp only [numbered, at_, List.idxOf?_cons]
  by_cases e : s = j
  ·subst e
   simp
  ·have : (s == j) = false := by simpa using e
   rw [if_neg e, ih, this]
   cases h : l.idxOf? j with
   | none => simp
   | some i =>
    have hi : i < l.length := by
     have := List.idxOf?_eq_some_iff.1 h
     obtain ⟨h1, _⟩ := this
     exact h1
    simp
    omega
theorem at_kept {bits : Nat} : ∀ (sf : SF) (j lv : Nat), at_ (kept bits sf) j = some lv → at_ sf j = some lv
 | [], _, _, h => h
 | (s, l) :: r, j, lv, h => by
  simp only [kept] at h
  split at h
  ·rename_i hb
   have ih := at_kept r j lv h
   simp only [at_]
   split
   ·rename_i e
    subst e
    exact absurd h (by rw [not_at_kept r s hb]; simp)
   ·exact ih
  ·simp only [at_] at h ⊢
   split
   ·rename_i e; rw [if_pos e] at h; exact h
   ·rename_i e; rw [if_neg e] at h; exact at_kept r j lv h
where
 not_at_kept {bits : Nat} : ∀ (r : SF) (s : Nat), (bits >>> s) % 2 = 1 → at_ (kept bits r) s = none
 | [], _, _ => rfl
 | (a, l) :: r, s, hb => by
  simp only [kept]
  split
  ·exact not_at_kept r s hb
  ·rename_i hn
   simp only [at_]
   rw [if_neg (fun e => hn (by rw [e]; exact hb))]
   exact not_at_kept r s hb
theorem at_slot {l : List Nat} {n : Nat} {sf : SF} (hnd : l.Nodup) {j lv : Nat} (h : at_ (numbered l n sf) j = some lv) :
  (∃ i, l.idxOf? j = some i ∧ i < l.length ∧ l[i]? = some j ∧ lv = n + (l.length - 1 - i)) ∨ (j ∉ l ∧ at_ sf j = some lv) := by
 rw [at_numbered l n sf j hnd] at h
 split at h
 ·rename_i i hi
  injection h with h
  obtain ⟨h1, h2⟩ := List.idxOf?_eq_some_iff.1 hi
  refine .inl ⟨i, hi, h1, ?_, h.symm⟩
  rw [List.getElem?_eq_getElem h1]
  simpa using h2.1
 ·rename_i hi
  exact .inr ⟨by simpa using hi, h⟩
theorem mem_of_at : ∀ {sf : SF} {j lv : Nat}, at_ sf j = some lv → ∃ l, (j, l) ∈ sf
 | (s, l) :: r, j, lv, h => by
  simp only [at_] at h
  split at h
  ·rename_i e; subst e; exact ⟨l, List.mem_cons_self⟩
  ·obtain ⟨l', hl⟩ := mem_of_at h; exact ⟨l', List.mem_cons_of_mem _ hl⟩
theorem val_loop (vs : List Value) (env : Env) (i : Nat) (hi : i < vs.length) : val (vs ++ env) (env.length + (vs.length - 1 - i)) = vs.getD i undef := by
 unfold val
 have : (vs ++ env).length - 1 - (env.length + (vs.length - 1 - i)) = i := by simp only [List.length_append]; omega
 rw [this]
 simp only [List.getD_eq_getElem?_getD, List.getElem?_append_left hi]
theorem val_under (vs : List Value) (env : Env) (lv : Nat) (h : lv < env.length) : val (vs ++ env) lv = val env lv := val_suffix (List.suffix_append vs env) lv h
theorem cmp_sound {hs : List (Nat × Nat)} {sz : Nat} {fn : Func} {rl : Nat} (hmix : P.follows .mixedOrders = true) :
  ∀ (c : Code) (sf : SF) (n : Nat) (bs : List (Nat × (K × Nat))) (l : Nat) (k : K) (out : Nat) (T : Tree) (env : Env) (w : World) (t : Array Value) (B : List (List Value → World → Prop)) (Q : Exit → Act → World → Prop),
   cmp hs sz fn.results.toList rl c sf n bs l k out = some T → env.length = n → B.length = l → Rel sf env t → t.size = sz → W P R T env w B →
   Post P R ds env B sz k (Q .normal) → (∀ id kk, lookupL id bs = some kk → Post P R ds env B sz kk.1 (Q (.exit id))) →
   (∀ a w v, a.defers = ds → (results fn a.tmps).run P w = .ok v w → R (.returned v) w → Q .ret a w) → (∀ ch a w', R (.panicked ch) w' → a.defers = ds → Q (.panic ch) a w') →
   c.wp P Q ⟨t, ds⟩ w
 | .skip, sf, n, bs, l, k, out, T, env, w, t, B, Q, hc, hn, hl, hr, hsz, hW, hk, hb, hret, hP => wp_skip (hk _ _ _ _ _ _ _ _ hc hn hl (List.suffix_refl _) (List.prefix_refl _) hr hsz hW)
 | .label _, sf, n, bs, l, k, out, T, env, w, t, B, Q, hc, hn, hl, hr, hsz, hW, hk, hb, hret, hP => wp_label (hk _ _ _ _ _ _ _ _ hc hn hl (List.suffix_refl _) (List.prefix_refl _) hr hsz hW)
 | .seq a b, sf, n, bs, l, k, out, T, env, w, t, B, Q, hc, hn, hl, hr, hsz, hW, hk, hb, hret, hP => by
  simp only [cmp, forceN_eq] at hc
  refine wp_seq ?_
  refine cmp_sound hmix a sf n bs l _ _ T env w t B _ hc hn hl hr hsz hW ?_ (fun id kk h => hb id kk h) hret hP
  intro sf' n' l' T' env' w' t' B' hT hn' hl' he hB hr' hsz' hW'
  exact cmp_sound hmix b sf' n' bs l' k out T' env' w' t' B' Q hT hn' hl' hr' hsz' hW' (hk.mono he hB) (fun id kk h => (hb id kk h).mono he hB) hret hP
 | .cond c a b, sf, n, bs, l, k, out, T, env, w, t, B, Q, hc, hn, hl, hr, hsz, hW, hk, hb, hret, hP => by
  simp only [cmp] at hc
  split at hc
  ·rename_i hkn
   split at hc
   ·rename_i x y hx hy
    injection hc with hc
    subst hc
    obtain ⟨bb, hbb, h1, h2⟩ := hW
    subst hn
    have hev := ev_ren (a := ⟨t, ds⟩) hr c hkn
    refine wp_cond (t := bb) (by rw [← hev]; exact hbb) ?_
    cases bb with
    | true => exact cmp_sound hmix a sf _ bs l k out x env w t B Q hx rfl hl hr hsz (h1 rfl) hk hb hret hP
    | false => exact cmp_sound hmix b sf _ bs l k out y env w t B Q hy rfl hl hr hsz (h2 rfl) hk hb hret hP
   ·cases hc
  ·cases hc
 | .block id b, sf, n, bs, l, k, out, T, env, w, t, B, Q, hc, hn, hl, hr, hsz, hW, hk, hb, hret, hP => by
  simp only [cmp] at hc
  refine wp_block ?_
  refine cmp_sound hmix b sf n _ l k out T env w t B _ hc hn hl hr hsz hW hk ?_ hret hP
  intro id' kk h
  simp only [lookupL] at h
  intro sf' n' l' T' env' w' t' B' hT hn' hl' he hB hr' hsz' hW'
  by_cases e : id' = id
  ·subst e
   rw [if_pos rfl] at h
   injection h with h
   subst h
   simp only [Exit.inBlock, if_true]
   exact hk _ _ _ _ _ _ _ _ hT hn' hl' he hB hr' hsz' hW'
  ·rw [if_neg (fun h => e h.symm)] at h
   simp only [Exit.inBlock, if_neg e]
   exact hb id' kk h _ _ _ _ _ _ _ _ hT hn' hl' he hB hr' hsz' hW'
 | .exit id, sf, n, bs, l, k, out, T, env, w, t, B, Q, hc, hn, hl, hr, hsz, hW, hk, hb, hret, hP => by
  simp only [cmp] at hc
  split at hc
  ·rename_i kk o h
   exact wp_exit (hb id _ h _ _ _ _ _ _ _ _ hc hn hl (List.suffix_refl _) (List.prefix_refl _) hr hsz hW)
  ·cases hc
 | .ret, sf, n, bs, l, k, out, T, env, w, t, B, Q, hc, hn, hl, hr, hsz, hW, hk, hb, hret, hP => by
  simp only [cmp] at hc
  obtain ⟨rs, hrs, rfl⟩ := Option.map_eq_some_iff.1 hc
  subst hn
  obtain ⟨vs, hv, hR⟩ := hW
  exact wp_ret (hret ⟨t, ds⟩ w _ rfl (results_run hr hrs hv) hR)
 | .region id ops false, sf, n, bs, l, k, out, T, env, w, t, B, Q, hc, hn, hl, hr, hsz, hW, hk, hb, hret, hP => by
  simp only [cmp] at hc
  subst hn
  refine wp_region_list ?_
  refine cmpOps_sound hP ops.toList sf _ T env w t hc hr hsz hW ?_
  intro sf' n' T' env' w' t' hT hn' he hr' hsz' hW'
  exact hk _ _ _ _ _ _ _ _ hT hn' hl he (List.prefix_refl _) hr' hsz' hW'
 | .region id ops true, sf, n, bs, l, k, out, T, env, w, t, B, Q, hc, hn, hl, hr, hsz, hW, hk, hb, hret, hP => by
  simp only [cmp] at hc
  subst hn
  split at hc
  ·split at hc
   ·rename_i hlex
    obtain ⟨qs, sf', n', hk', H⟩ := cmpQs_sound (P := P) _ _ _ _ _ _ hc
    obtain ⟨T', hT', rfl⟩ := Option.map_eq_some_iff.1 hk'
    obtain ⟨C, hC, hq⟩ := hW
    simp only [List.reverse_nil, List.nil_append] at hq
    refine wp_region_quiet hmix hlex hC ?_
    refine H C env t _ _ rfl hr hsz hq ?_
    intro env' t' hn' he hr' hsz' hnext w' hw'
    exact hk _ _ _ _ _ _ _ _ hT' hn' hl he (List.prefix_refl _) hr' hsz' (hnext w' hw')
   ·cases hc
  ·rename_i m _
   split at hc
   ·split at hc
    ·rename_i hsel
     obtain ⟨T', hT', rfl⟩ := Option.map_eq_some_iff.1 hc
     obtain ⟨D, hD, hW⟩ := hW
     let Q2 : Exit → Act → World → Prop := fun e a w => match e with | .panic ch => R (.panicked ch) w ∧ a.defers = ds | e => Q e a w
     have put_defers : ∀ (a : Act) (d : Option Tmp) (v : Value), (a.put d v).defers = a.defers := fun a d v => by cases d <;> rfl
     have H := cmpMix_sound (P := P) (R := R) (Q' := Q2) (B := B) hsel (fun ch a w' h1 h2 => ⟨h1, h2⟩) (fun c d v a w h => ⟨h.1, by rw [← put_defers a d v]; exact h.2⟩) ops.size (Array.replicate ops.size false) sf _ T' env _ t D hT' hr hsz (fun j oj _ hl => by rw [Array.getD_eq_getD_getElem?, Array.getElem?_replicate] at hl; split at hl <;> cases hl) hD hW
      (fun sf' n' T2 env' w' t' hT2 hn' he hr' hsz' hW' => hk _ _ _ _ _ _ _ _ hT2 hn' hl he (List.prefix_refl _) hr' hsz' hW')
     obtain ⟨_, _, H⟩ := H
     refine wp_mono (wp_region_any hmix (wpAny_of_AH H)) fun e a w h => ?_
     cases e with
     | panic ch => exact hP ch a w h.1 h.2
     | _ => exact h
    ·cases hc
   split at hc
   ·rename_i hcut
    obtain ⟨qs, sf', n', hk', H⟩ := cmpQs_sound (P := P) _ _ _ _ _ _ hc
    obtain ⟨T', hT', rfl⟩ := Option.map_eq_some_iff.1 hk'
    obtain ⟨C, hC, hq⟩ := hW
    simp only [List.reverse_nil, List.nil_append] at hq
    refine wp_region_cut hmix hcut hC ?_
    refine H C env t _ _ rfl hr hsz hq ?_
    intro env' t' hn' he hr' hsz' hnext w' hw'
    subst hn'
    refine cmpOps_sound hP _ sf' _ T' env' w' t' hT' hr' hsz' (hnext w' hw') ?_
    intro sf'' n'' T'' env'' w'' t'' hT'' hn'' he'' hr'' hsz'' hW''
    exact hk _ _ _ _ _ _ _ _ hT'' hn'' hl (he.trans he'') (List.prefix_refl _) hr'' hsz'' hW''
   ·cases hc
 | .loop b, sf, n, bs, l, k, out, T, env, w, t, B, Q, hc, hn, hl, hr, hsz, hW, hk, hb, hret, hP => by
  simp only [cmp, forceN_eq] at hc
  generalize slotsOf sz _ [] = lv at hc
  split at hc
  ·rename_i hlv
   simp only [Bool.and_eq_true, List.all_eq_true, decide_eq_true_eq] at hlv
   obtain ⟨hlv, hnd⟩ := hlv
   obtain ⟨T', hT', rfl⟩ := Option.map_eq_some_iff.1 hc
   subst hn
   obtain ⟨I, μ, h0, hbody⟩ := hW
   simp only [List.map_map, List.length_map] at h0 hbody
   -- the values of the loop's slots in a frame
   have hini : (lv.map fun s => t.getD s undef) = lv.map (ev env ∘ fun s => renX env.length sf (.tmp s)) := by
    refine List.map_congr_left fun s hs => ?_
    exact (ev_ren (a := ⟨t, ds⟩) hr (.tmp s) (by simpa [known] using (hlv s hs).1)).symm
   let sf' := numbered lv env.length (kept (writes b 0) sf)
   let get : Array Value → List Value := fun t => lv.map fun s => t.getD s undef
   refine wp_loop (fun a w => a.defers = ds ∧ a.tmps.size = sz ∧ I (get a.tmps) w ∧ Rel sf' (get a.tmps ++ env) a.tmps) (fun a w => μ (get a.tmps) w) ⟨rfl, hsz, ?_, ?_⟩ ?_
   ·show I (get t) w
    rw [show get t = _ from hini]
    exact h0
   ·-- the relation at the head
    constructor
    intro j lv' hj
    have hlen : (get t).length = lv.length := by simp [get]
    rcases at_slot hnd hj with ⟨i, _, hi, hij, rfl⟩ | ⟨hnot, hj⟩
    ·have hmem : j ∈ lv := List.mem_of_getElem? hij
     have h1 := (hlv j hmem).2
     refine ⟨show j < t.size by omega, show _ < (get t ++ env).length by simp only [List.length_append, hlen]; omega, ?_⟩
     show t.getD j undef = val (get t ++ env) _
     rw [← hlen, val_loop _ _ _ (by omega)]
     simp [get, hij]
    ·obtain ⟨h1, h2, h3⟩ := hr.at_ j lv' (at_kept _ _ _ hj)
     exact ⟨h1, show _ < (get t ++ env).length by simp only [List.length_append]; omega, by show t.getD j undef = val (get t ++ env) _; rw [val_under _ _ _ h2]; exact h3⟩
   ·intro a w' ⟨hd, hsz', hI, hrel⟩
    obtain ⟨ta, da⟩ := a
    simp only at hd hsz' hI hrel
    have hd' := hd.symm
    subst hd'
    have hlen : (get ta).length = lv.length := by simp [get]
    have hW' := hbody (get ta) w' hlen hI
    refine cmp_sound hmix b sf' (env.length + lv.length) bs (l + 1) _ _ T' (get ta ++ env) w' ta _ _ hT' (by simp only [List.length_append, hlen]; omega) (by simp [hl]) hrel hsz' hW' ?_
     (fun id kk h => ?_) hret hP
    ·intro sf'' n'' l'' T'' env'' w'' t'' B'' hT'' hn'' hl'' he hB hr'' hsz'' hW''
     dsimp only at hT''
     split at hT''
     ·rename_i hok
      injection hT'' with hT''
      subst hT''
      subst hn''
      obtain ⟨bb, hbb, hpost⟩ := hW''
      have hget : B''[l]? = some (fun vs' w'' => I vs' w'' ∧ μ vs' w'' < μ (get ta) w') := by
       obtain ⟨tl, rfl⟩ := hB
       rw [List.getElem?_append_left (by simp [hl])]
       rw [← hl]
       simp
      rw [hget] at hbb
      injection hbb with hbb
      subst hbb
      simp only [List.map_map] at hpost
      simp only [okBack, Bool.and_eq_true, List.all_eq_true] at hok
      obtain ⟨hok1, hok2⟩ := hok
      have hvals : get t'' = lv.map (ev env'' ∘ fun s => renX env''.length sf'' (.tmp s)) := by
       refine List.map_congr_left fun s hs => ?_
       exact (ev_ren (a := ⟨t'', ds⟩) hr'' (.tmp s) (by simpa [known] using hok1 s hs)).symm
      rw [← hvals] at hpost
      have he' : env <:+ env'' := (List.suffix_append _ _).trans he
      refine ⟨⟨rfl, hsz'', hpost.1, ?_⟩, hpost.2⟩
      constructor
      intro j lv' hj
      have hlen' : (get t'').length = lv.length := by simp [get]
      rcases at_slot hnd hj with ⟨i, _, hi, hij, rfl⟩ | ⟨hnot, hj⟩
      ·have hmem : j ∈ lv := List.mem_of_getElem? hij
       have h1 := (hlv j hmem).2
       refine ⟨show j < t''.size by omega, show _ < (get t'' ++ env).length by simp only [List.length_append, hlen']; omega, ?_⟩
       show t''.getD j undef = val (get t'' ++ env) _
       rw [← hlen', val_loop _ _ _ (by omega)]
       simp [get, hij]
      ·obtain ⟨h1, h2, h3⟩ := hr.at_ j lv' (at_kept _ _ _ hj)
       have hmem := mem_of_at hj
       have hok := hok2 _ hmem.choose_spec
       simp only [Bool.or_eq_true, beq_iff_eq] at hok
       rcases hok with hok | hok
       ·exact absurd (by simpa using hok) hnot
       ·have hj' : at_ sf'' j = some lv' := by rw [hok]; exact hj
        obtain ⟨h1', _, h3'⟩ := hr''.at_ j lv' hj'
        refine ⟨h1', show _ < (get t'' ++ env).length by simp only [List.length_append]; omega, ?_⟩
        show t''.getD j undef = val (get t'' ++ env) _
        rw [val_under _ _ _ h2, ← val_suffix he' lv' h2]
        exact h3'
     ·cases hT''
    ·exact (hb id kk h).mono (List.suffix_append _ _) (List.prefix_append _ _)
  ·cases hc
 | .rangeFunc .., _, _, _, _, _, _, _, _, _, _, _, _, hc, _, _, _, _, _, _, _, _, _ => by simp [cmp] at hc
 | .scope _, _, _, _, _, _, _, _, _, _, _, _, _, hc, _, _, _, _, _, _, _, _, _ => by simp [cmp] at hc
 | .goto _, _, _, _, _, _, _, _, _, _, _, _, _, hc, _, _, _, _, _, _, _, _, _ => by simp [cmp] at hc
 | .refuse _, _, _, _, _, _, _, _, _, _, _, _, _, hc, _, _, _, _, hW, _, _, _, _ => by
  simp only [cmp, Option.some.injEq] at hc
  subst hc
  obtain ⟨b, hb, _⟩ := hW
  cases hb
theorem at_init : ∀ (m k : Nat) (j lv : Nat) , at_ ((List.range' k m).map fun j => (j, k + m - 1 - j)) j = some lv → k ≤ j ∧ j < k + m ∧ lv = k + m - 1 - j
 | 0, k, j, lv, h => by simp [at_] at h
 | m + 1, k, j, lv, h => by
  rw [List.range'_succ] at h
  simp only [List.map_cons, at_] at h
  split at h
  ·rename_i e; injection h with h; subst e; exact ⟨Nat.le_refl _, by omega, by omega⟩
  ·have e : (List.range' (k + 1) m).map (fun j => (j, k + (m + 1) - 1 - j)) = (List.range' (k + 1) m).map (fun j => (j, (k + 1) + m - 1 - j)) := by
    refine List.map_congr_left fun x _ => ?_
    rw [show k + (m + 1) = (k + 1) + m by omega]
   rw [e] at h
   obtain ⟨h1, h2, h3⟩ := at_init m (k + 1) j lv h
   exact ⟨by omega, by omega, by omega⟩
theorem calls_of_tree {f : FuncId} {fn : Func} {c : Code} {args : List Value} {w : World} {hs : List (Nat × Nat)} {T : Tree} (hmix : P.follows .mixedOrders = true) (hf : P.funcs[f]? = some fn) (hb : fn.body = some c)
  (hT : tree hs fn args.length = some T) (hn : args.length ≤ fn.ntmps) (hW : W P R T args w []) : Calls P f args.toArray w R := by
 refine calls_of_wp hf hb ?_
 simp only [tree, hb, forceN_eq] at hT
 have hsz : (args.toArray ++ Array.replicate (fn.ntmps - args.toArray.size) undef).size = fn.ntmps := by simp; omega
 have hrel : Rel (initSF args.length) args (args.toArray ++ Array.replicate (fn.ntmps - args.toArray.size) undef) := by
  constructor
  intro j lv hj
  have e : initSF args.length = (List.range' 0 args.length).map fun j => (j, 0 + args.length - 1 - j) := by
   unfold initSF
   rw [List.range_eq_range']
   refine List.map_congr_left fun x _ => ?_
   rw [Nat.zero_add]
  rw [e] at hj
  obtain ⟨_, h2, h3⟩ := at_init _ _ _ _ hj
  refine ⟨by rw [hsz]; omega, by omega, ?_⟩
  unfold val
  have h4 : args.length - 1 - lv = j := by omega
  rw [h4]
  have h5 : j < args.length := by omega
  simp [Array.getElem?_append, h5]
 refine cmp_sound (fn := fn) hmix c _ _ [] 0 _ _ T args w _ [] _ hT rfl rfl hrel hsz hW ?_ (fun id kk h => by simp [lookupL] at h) ?_ ?_
 ·intro sf n l T' env w' t B hk hn' _ _ _ hr _ hW'
  obtain ⟨rs, hrs, rfl⟩ := Option.map_eq_some_iff.1 hk
  subst hn'
  obtain ⟨vs, hv, hR⟩ := hW'
  exact ⟨rfl, _, results_run hr hrs hv, hR⟩
 ·intro a w' v hd hr hR
  exact ⟨hd, v, hr, hR⟩
 ·intro ch a w' hR hd
  exact ⟨hd, hR⟩
end Go.Sx
/-! Sx4 -/
namespace Go.Sx
open Go
abbrev SH := List (Nat × Obj)
abbrev dom (l : SH) : List Nat := l.map Prod.fst
structure Base where
 w0 : World
 D : List Nat
structure Sig (b : Base) (S : List SH) (w : World) : Prop where
 os : w.os = b.w0.os
 tape : w.tape = b.w0.tape
 output : w.output = b.w0.output
 size : b.w0.heap.size ≤ w.heap.size
 own : ∀ p ∈ S.flatten, w.heap[p.1]? = some p.2
 nodup : (dom S.flatten).Nodup
 dom_ : ∀ k ∈ dom S.flatten, k ∈ b.D ∨ b.w0.heap.size ≤ k
 frame : ∀ k, k < b.w0.heap.size → k ∉ b.D → w.heap[k]? = b.w0.heap[k]?
theorem lt_of_get {w : World} {k : Nat} {o : Obj} (h : w.heap[k]? = some o) : k < w.heap.size := (Array.getElem?_eq_some_iff.1 h).1
theorem Sig.drew {b : Base} {S : List SH} {w : World} (h : Sig b S w) : Sig b S { w with drawn := w.drawn + 1 } := ⟨h.os, h.tape, h.output, h.size, h.own, h.nodup, h.dom_, h.frame⟩
theorem Sig.perm {b : Base} {S S' : List SH} {w : World} (h : Sig b S w) (hp : S.flatten.Perm S'.flatten) : Sig b S' w :=
 ⟨h.os, h.tape, h.output, h.size, fun p hm => h.own p (hp.mem_iff.2 hm), (hp.map _).nodup_iff.1 h.nodup, fun k hk => h.dom_ k ((hp.map _).mem_iff.2 hk), h.frame⟩
theorem Sig.sub {b : Base} {S S' : List SH} {w : World} (h : Sig b S w) (hs : S'.flatten.Sublist S.flatten) : Sig b S' w :=
 ⟨h.os, h.tape, h.output, h.size, fun p hm => h.own p (hs.subset hm), (hs.map _).nodup h.nodup, fun k hk => h.dom_ k ((hs.map _).subset hk), h.frame⟩
theorem flatten_set {S : List SH} {k : Nat} {c : SH} (h : S[k]? = some c) (c' : SH) : ∃ r, S.flatten.Perm (c ++ r) ∧ (S.set k c').flatten.Perm (c' ++ r) := by
 induction S generalizing k with
 | nil => simp at h
 | cons a S ih =>
  cases k with
  | zero =>
   simp at h
   subst h
   exact ⟨S.flatten, by simp, by simp⟩
  | succ k =>
   simp at h
   obtain ⟨r, h1, h2⟩ := ih h
   refine ⟨a ++ r, ?_, ?_⟩
   ·simp only [List.flatten_cons]
    exact (h1.append_left a).trans (by rw [← List.append_assoc, ← List.append_assoc]; exact List.perm_append_comm.append_right r)
   ·simp only [List.set_cons_succ, List.flatten_cons]
    exact (h2.append_left a).trans (by rw [← List.append_assoc, ← List.append_assoc]; exact List.perm_append_comm.append_right r)
theorem mem_flatten_of {S : List SH} {k : Nat} {c : SH} (h : S[k]? = some c) {p : Nat × Obj} (hp : p ∈ c) : p ∈ S.flatten := List.mem_flatten.2 ⟨c, List.mem_of_getElem? h, hp⟩
theorem Sig.set {b : Base} {S : List SH} {w w' : World} (h : Sig b S w) {k g : Nat} {o o' : Obj} (hk : S[k]? = some [(g, o)]) (hos : w'.os = w.os) (ht : w'.tape = w.tape) (hou : w'.output = w.output) (hs : w'.heap.size = w.heap.size)
  (hg : w'.heap[g]? = some o') (hne : ∀ j, j ≠ g → w'.heap[j]? = w.heap[j]?) : Sig b (S.set k [(g, o')]) w' := by
 obtain ⟨r, h1, h2⟩ := flatten_set hk [(g, o')]
 have hnd := (h1.map Prod.fst).nodup_iff.1 h.nodup
 simp only [List.map_cons, List.cons_append, List.nil_append, List.nodup_cons] at hnd
 have hgm : g ∈ dom S.flatten := (h1.map Prod.fst).mem_iff.2 (by simp)
 refine ⟨hos.trans h.os, ht.trans h.tape, hou.trans h.output, by rw [hs]; exact h.size, fun p hp => ?_, ?_, fun j hj => ?_, fun j hj hD => ?_⟩
 ·have := h2.mem_iff.1 hp
  simp only [List.cons_append, List.nil_append, List.mem_cons] at this
  rcases this with rfl | hr
  ·exact hg
  ·rw [hne p.1 (fun e => hnd.1 (by rw [← e]; exact List.mem_map_of_mem hr))]
   exact h.own p (h1.mem_iff.2 (by simp [hr]))
 ·refine (h2.map Prod.fst).nodup_iff.2 ?_
  simpa using hnd
 ·have := (h2.map Prod.fst).mem_iff.1 hj
  simp only [List.cons_append, List.nil_append, List.map_cons, List.mem_cons] at this
  rcases this with rfl | hr
  ·exact h.dom_ _ hgm
  ·exact h.dom_ j ((h1.map Prod.fst).mem_iff.2 (by simp at hr ⊢; exact .inr hr))
 ·rcases h.dom_ g hgm with hd | hd
  ·rw [hne j (fun e => hD (e ▸ hd))]; exact h.frame j hj hD
  ·rw [hne j (by omega)]; exact h.frame j hj hD
theorem Sig.new {b : Base} {S : List SH} {w w' : World} (h : Sig b S w) {o : Obj} (hos : w'.os = w.os) (ht : w'.tape = w.tape) (hou : w'.output = w.output) (hh : w'.heap = w.heap.push o) : Sig b ([(w.heap.size, o)] :: S) w' ∧ w.heap.size ∉ dom S.flatten ∧ b.w0.heap.size ≤ w.heap.size := by
 have hlt : ∀ p ∈ S.flatten, p.1 < w.heap.size := fun p hp => lt_of_get (h.own p hp)
 have hnot : w.heap.size ∉ dom S.flatten := fun hm => by
  obtain ⟨p, hp, e⟩ := List.mem_map.1 hm
  have := hlt p hp
  omega
 have hsz := h.size
 refine ⟨⟨hos.trans h.os, ht.trans h.tape, hou.trans h.output, by rw [hh]; simp; omega, fun p hp => ?_, ?_, fun j hj => ?_, fun j hj hD => ?_⟩, hnot, hsz⟩
 ·simp only [List.flatten_cons, List.cons_append, List.nil_append, List.mem_cons] at hp
  rcases hp with rfl | hp
  ·rw [hh]; simp
  ·have := hlt p hp
   rw [hh, Array.getElem?_push, if_neg (by omega)]
   exact h.own p hp
 ·simp only [dom, List.flatten_cons, List.cons_append, List.nil_append, List.map_cons, List.nodup_cons]
  exact ⟨hnot, h.nodup⟩
 ·simp only [dom, List.flatten_cons, List.cons_append, List.nil_append, List.map_cons, List.mem_cons] at hj
  rcases hj with rfl | hj
  ·exact .inr hsz
  ·exact h.dom_ j hj
 ·rw [hh, Array.getElem?_push, if_neg (by omega)]
  exact h.frame j hj hD
theorem Sig.call {b : Base} {S S' S2 : List SH} {w w' : World} {Fp Fr : SH} (h : Sig b S w) (hp : S.flatten.Perm (Fp ++ Fr)) (hc : Sig ⟨w, dom Fp⟩ S' w') (h2 : S2.flatten.Perm (S'.flatten ++ Fr)) : Sig b S2 w' := by
 have hnd := (hp.map Prod.fst).nodup_iff.1 h.nodup
 rw [List.map_append, List.nodup_append] at hnd
 have hFr : ∀ p ∈ Fr, w'.heap[p.1]? = some p.2 := fun p hpf => by
  have ho := h.own p (hp.mem_iff.2 (by simp [hpf]))
  have := hc.frame p.1 (lt_of_get ho) (fun hm => hnd.2.2 _ hm _ (List.mem_map_of_mem hpf) rfl)
  exact this.trans ho
 refine ⟨hc.os.trans h.os, hc.tape.trans h.tape, hc.output.trans h.output, Nat.le_trans h.size hc.size, fun p hpm => ?_, ?_, fun j hj => ?_, fun j hj hD => ?_⟩
 ·rcases List.mem_append.1 (h2.mem_iff.1 hpm) with hm | hm
  ·exact hc.own p hm
  ·exact hFr p hm
 ·refine (h2.map Prod.fst).nodup_iff.2 ?_
  rw [List.map_append, List.nodup_append]
  refine ⟨hc.nodup, hnd.2.1, fun a ha c hcm hac => ?_⟩
  subst hac
  obtain ⟨p, hpf, rfl⟩ := List.mem_map.1 hcm
  have hlt := lt_of_get (h.own p (hp.mem_iff.2 (by simp [hpf])))
  rcases hc.dom_ _ ha with hd | hd
  ·exact hnd.2.2 _ hd _ hcm rfl
  ·exact absurd hlt (by simpa using hd)
 ·have := (h2.map Prod.fst).mem_iff.1 hj
  rw [List.map_append, List.mem_append] at this
  rcases this with hm | hm
  ·rcases hc.dom_ j hm with hd | hd
   ·exact h.dom_ j ((hp.map Prod.fst).mem_iff.2 (by rw [List.map_append]; exact List.mem_append.2 (.inl hd)))
   ·exact .inr (Nat.le_trans h.size hd)
  ·exact h.dom_ j ((hp.map Prod.fst).mem_iff.2 (by rw [List.map_append]; exact List.mem_append.2 (.inr hm)))
 ·have hj' : j < w.heap.size := Nat.lt_of_lt_of_le hj h.size
  refine (hc.frame j hj' fun hm => ?_).trans (h.frame j hj hD)
  rcases h.dom_ j ((hp.map Prod.fst).mem_iff.2 (by rw [List.map_append]; exact List.mem_append.2 (.inl hm))) with hd | hd
  ·exact hD hd
  ·omega
/-! ### the judgement -/
variable {P : Program} {R : Ending → World → Prop}
abbrev JB := List (List Value → List SH → Prop)
def lift (b : Base) (p : List Value → List SH → Prop) (vs : List Value) (w : World) : Prop := ∃ S, p vs S ∧ Sig b S w
def J (P : Program) (R : Ending → World → Prop) (T : Tree) (env : Env) (S : List SH) (b : Base) (B : JB) : Prop := ∀ w, Sig b S w → W P R T env w (B.map (lift b))
def QS (P : Program) (o : Oper) (env : Env) (b : Base) (S : List SH) (v : Value) : Prop := ∀ w, Sig b S w → qAt P o env (Sig b S) w v
variable {env : Env} {b : Base} {S : List SH} {B : JB} {T : Tree} {o : Oper} {v : Value}
theorem qs_val (h : ∀ w, Sig b S w → (execOp (ev env) o).run P w = .ok (.value v) w) : QS P o env b S v := fun w hw => by
 unfold qAt
 rw [h w hw]
 exact ⟨rfl, rfl⟩
theorem qs_run (h : ∀ w, (execOp (ev env) o).run P w = .ok (.value v) w) : QS P o env b S v := qs_val fun w _ => h w
theorem opW_of_q {w : World} {K : Value → World → Prop} (h : qAt P o env (Sig b S) w v) (hw : Sig b S w) (hK : ∀ w', Sig b S w' → K v w') : opW P o env w R K := by
 unfold qAt at h
 unfold opW
 generalize (execOp (ev env) o).run P w = r at *
 cases r with
 | ok x w' =>
  cases x <;> simp only [Oper.quietUpon] at h ⊢
  case value u => obtain ⟨rfl, rfl⟩ := h; exact hK _ hw
  case skip => obtain ⟨rfl, rfl⟩ := h; exact hK _ hw
  case enter f args =>
   obtain ⟨rfl, hc⟩ := h
   exact hc.mono fun e w'' ⟨he, hw''⟩ => by subst he; exact hK _ hw''
 | halt x w' => cases x <;> simp only [Oper.quietUpon] at h
theorem j_q (hq : QS P o env b S v) (h : J P R T (v :: env) S b B) : J P R (.op o T) env S b B := fun w hw => opW_of_q (hq w hw) hw fun w' hw' => h w' hw'
def gd (b0 want : Bool) (v : Value) : Value := if b0 = want then v else undef
theorem j_g {c : Operand} {b0 want : Bool} (hc : ev env c = .bool b0) (hq : b0 = want → QS P o env b S v) (h : J P R T (gd b0 want v :: env) S b B) : J P R (.gop c want o T) env S b B := fun w hw => by
 refine ⟨fun e => ?_, fun e => ?_⟩
 ·rw [hc] at e
  injection e with e
  exact opW_of_q (hq e w hw) hw fun w' hw' => by have := h w' hw'; rwa [gd, if_pos e] at this
 ·rw [hc] at e
  have := h w hw
  rwa [gd, if_neg (fun h => e (by rw [h]))] at this
theorem gd_eq {b0 want : Bool} (h : b0 = want) {v : Value} : gd b0 want v = v := by rw [gd, if_pos h]
theorem gd_eq2 {b0 w0 b1 w1 : Bool} (h : b0 = w0) (h' : b1 = w1) {v : Value} : gd b0 w0 (gd b1 w1 v) = v := by rw [gd_eq h, gd_eq h']
theorem j_gg {c : Operand} {b0 w0 b1 want : Bool} (hc : ev env c = gd b0 w0 (.bool b1)) (hq : b0 = w0 → b1 = want → QS P o env b S v) (h : J P R T (gd b0 w0 (gd b1 want v) :: env) S b B) : J P R (.gop c want o T) env S b B := by
 by_cases h0 : b0 = w0
 ·rw [gd_eq h0] at hc h
  exact j_g hc (hq h0) h
 ·intro w hw
  refine ⟨fun e => ?_, fun _ => ?_⟩
  ·rw [hc, gd, if_neg h0] at e
   cases e
  ·have := h w hw
   rwa [gd, if_neg h0] at this
theorem j_gt {c : Operand} {want : Bool} (hc : ev env c = .bool want) (hq : QS P o env b S v) (h : J P R T (v :: env) S b B) : J P R (.gop c want o T) env S b B := by
 refine j_g hc (fun _ => hq) ?_
 rw [gd, if_pos rfl]
 exact h
theorem j_gf {c : Operand} {b0 want : Bool} (hc : ev env c = .bool b0) (hne : b0 ≠ want) (h : J P R T (undef :: env) S b B) : J P R (.gop c want o T) env S b B := fun w hw =>
 ⟨fun e => absurd (by rw [hc] at e; injection e) hne, fun _ => h w hw⟩
theorem j_ga {c : Operand} {want : Bool} (hc : ev env c = .bool want) (h : J P R (.op o T) env S b B) : J P R (.gop c want o T) env S b B := fun w hw =>
 ⟨fun _ => h w hw, fun e => absurd hc e⟩
def JQ (P : Program) (b : Base) (S : List SH) (qs : List Q) (env : Env) (next : Env → Prop) : Prop := qsW P (Sig b S) qs env next
theorem j_draw {qs : List Q} (h : JQ P b S qs env fun env' => J P R T env' S b B) : J P R (.draw qs T) env S b B := fun w hw => by
 refine ⟨Sig b S, hw.drew, ?_⟩
 refine mono qs env h
where
 mono : ∀ (qs : List Q) (env : Env), qsW P (Sig b S) qs env (fun env' => J P R T env' S b B) → qsW P (Sig b S) qs env fun env' => ∀ w', Sig b S w' → W P R T env' w' (B.map (lift b))
 | [], env, h => h
 | q :: qs, env, h => by
  unfold qsW qOne at *
  cases hg : q.g with
  | none =>
   simp only [hg] at h ⊢
   obtain ⟨v, hv, h⟩ := h
   exact ⟨v, hv, mono qs _ h⟩
  | some c =>
   simp only [hg] at h ⊢
   exact ⟨fun e => let ⟨v, hv, h⟩ := h.1 e; ⟨v, hv, mono qs _ h⟩, fun e => mono qs _ (h.2 e)⟩
theorem jq_nil {next : Env → Prop} (h : next env) : JQ P b S [] env next := h
theorem jq_q {o : Oper} {qs : List Q} {next : Env → Prop} (hq : QS P o env b S v) (h : JQ P b S qs (v :: env) next) : JQ P b S (⟨none, o⟩ :: qs) env next := ⟨v, fun w hw => hq w hw, h⟩
theorem jq_g {o : Oper} {qs : List Q} {next : Env → Prop} {c : Operand} {b0 want : Bool} (hc : ev env c = .bool b0) (hq : b0 = want → QS P o env b S v) (h : JQ P b S qs (gd b0 want v :: env) next) : JQ P b S (⟨some (c, want), o⟩ :: qs) env next := by
 refine ⟨fun e => ?_, fun e => ?_⟩
 ·rw [hc] at e
  injection e with e
  refine ⟨v, fun w hw => hq e w hw, ?_⟩
  have := h
  rw [gd, if_pos e] at this
  exact this
 ·rw [hc] at e
  have := h
  rw [gd, if_neg (fun h => e (by rw [h]))] at this
  exact this
theorem jq_gf {o : Oper} {qs : List Q} {next : Env → Prop} {c : Operand} {b0 want : Bool} (hc : ev env c = .bool b0) (hne : b0 ≠ want) (h : JQ P b S qs (undef :: env) next) : JQ P b S (⟨some (c, want), o⟩ :: qs) env next :=
 ⟨fun e => absurd (by rw [hc] at e; injection e) hne, fun _ => h⟩
def Le (S0 S : List SH) : Prop := ∃ l : SH, S0.flatten.Perm l ∧ l.Sublist S.flatten
theorem Sig.le {S0 : List SH} {w : World} (h : Sig b S w) (hl : Le S0 S) : Sig b S0 w := by
 obtain ⟨l, h1, h2⟩ := hl
 exact ((h.sub (S' := [l]) (by simpa using h2)).perm (S' := S0) (by simpa using h1.symm))
theorem Le.refl (S : List SH) : Le S S := ⟨_, .refl _, .refl _⟩
theorem sub_flatten {S0 S : List SH} (h : S0.Sublist S) : S0.flatten.Sublist S.flatten := by
 induction h with
 | slnil => simp
 | cons a h ih => simp only [List.flatten_cons]; exact ih.trans (List.sublist_append_right _ _)
 | cons_cons a h ih => simp only [List.flatten_cons]; exact ih.append_left _
theorem Le.of_sub {S0 S : List SH} (h : S0.Sublist S) : Le S0 S := ⟨_, .refl _, sub_flatten h⟩
abbrev dw (S0 : List SH) : List Value → List SH → Prop := fun _ S => S = S0
theorem lift_dw (S0 : List SH) : lift b (dw S0) = fun _ w => Sig b S0 w := by
 funext vs w
 apply propext
 exact ⟨fun ⟨_, h1, h2⟩ => by rw [← h1]; exact h2, fun h => ⟨S0, rfl, h⟩⟩
theorem j_mix (S0 : List SH) (hl : Le S0 S) (h : J P R T env S b (B ++ [dw S0])) : J P R (.mix T) env S b B := fun w hw => by
 refine ⟨Sig b S0, (hw.drew).le hl, ?_⟩
 have := h _ hw.drew
 rw [List.map_append, List.map_singleton, lift_dw] at this
 exact this
theorem j_mq {S0 : List SH} (hq : QS P o env b S0 v) (h : J P R T (v :: env) S b (B ++ [dw S0])) : J P R (.mq none o T) env S b (B ++ [dw S0]) := fun w hw => by
 have h1 := h w hw
 rw [List.map_append, List.map_singleton, lift_dw] at h1 ⊢
 exact ⟨_, List.getLast?_concat, v, fun w' hw' => hq w' hw', h1⟩
theorem j_mg {S0 : List SH} {c : Operand} {b0 want : Bool} (hc : ev env c = .bool b0) (hq : b0 = want → QS P o env b S0 v) (h : J P R T (gd b0 want v :: env) S b (B ++ [dw S0])) : J P R (.mq (some (c, want)) o T) env S b (B ++ [dw S0]) := fun w hw => by
 have h1 := h w hw
 rw [List.map_append, List.map_singleton, lift_dw] at h1 ⊢
 refine ⟨_, List.getLast?_concat, fun e => ⟨v, fun w' hw' => hq (by rw [hc] at e; injection e) w' hw', ?_⟩, fun e => ?_⟩
 ·rw [hc] at e
  injection e with e
  rwa [gd, if_pos e] at h1
 ·rw [hc] at e
  rwa [gd, if_neg (fun h => e (by rw [h]))] at h1
theorem j_mD {S0 : List SH} (S1 : List SH) (h1 : Le S0 S1) (h2 : Le S1 S) (h : J P R T env S b (B ++ [dw S1])) : J P R (.mD T) env S b (B ++ [dw S0]) := fun w hw => by
 have h3 := h w hw
 rw [List.map_append, List.map_singleton, lift_dw] at h3 ⊢
 exact ⟨_, List.getLast?_concat, Sig b S1, fun w' hw' => hw'.le h1, hw.le h2, by rw [List.dropLast_concat]; exact h3⟩
theorem j_mD0 {S0 : List SH} (h2 : Le S0 S) (h : J P R T env S b (B ++ [dw S0])) : J P R (.mD T) env S b (B ++ [dw S0]) := j_mD S0 (.refl _) h2 h
theorem j_mR {p : List Value → List SH → Prop} (S1 : List SH) (h2 : Le S1 S) (h : J P R T env S b (B ++ [dw S1])) : J P R (.mR T) env S b (B ++ [p]) := fun w hw => by
 have h3 := h w hw
 rw [List.map_append, List.map_singleton, lift_dw] at h3
 rw [List.map_append, List.map_singleton]
 exact ⟨Sig b S1, hw.le h2, by rw [List.dropLast_concat]; exact h3⟩
theorem j_mend {p : List Value → List SH → Prop} (h : J P R T env S b B) : J P R (.mend T) env S b (B ++ [p]) := fun w hw => by
 have h1 := h w hw
 rw [List.map_append, List.map_singleton]
 show W P R T env w (List.dropLast _)
 rw [List.dropLast_concat]
 exact h1
theorem j_cond {c : Operand} {t e : Tree} {b0 : Bool} (hc : ev env c = .bool b0) (ht : b0 = true → J P R t env S b B) (he : b0 = false → J P R e env S b B) : J P R (.cond c t e) env S b B := fun w hw =>
 ⟨b0, hc, fun h => ht h w hw, fun h => he h w hw⟩
theorem j_ret {rs : List RV} {vs : List Value} (hv : ∀ w, Sig b S w → rvsW P env w rs vs) (h : ∀ w, Sig b S w → R (.returned (retVal vs)) w) : J P R (.ret rs) env S b B := fun w hw => ⟨vs, hv w hw, h w hw⟩
theorem j_back {l : Nat} {vs : List Operand} {p : List Value → List SH → Prop} (hp : B[l]? = some p) (h : p (vs.map (ev env)) S) : J P R (.back l vs) env S b B := fun w hw =>
 ⟨lift b p, by simp [hp], S, h, hw⟩
theorem j_perm {S' : List SH} (hp : S.flatten.Perm S'.flatten) (h : J P R T env S' b B) : J P R T env S b B := fun w hw => h w (hw.perm hp)
theorem j_sub {S' : List SH} (hp : S'.flatten.Sublist S.flatten) (h : J P R T env S' b B) : J P R T env S b B := fun w hw => h w (hw.sub hp)
theorem exists_least {p : Nat → Prop} (h : ∃ n, p n) : ∃ n, p n ∧ ∀ m, p m → n ≤ m := by
 obtain ⟨n, hn⟩ := h
 induction n using Nat.strongRecOn with
 | _ n ih =>
  by_cases h : ∃ m, m < n ∧ p m
  ·obtain ⟨m, hm, hp⟩ := h; exact ih m hm hp
  ·exact ⟨n, hn, fun m hp => by
    rcases Nat.lt_or_ge m n with hl | hl
    ·exact absurd ⟨m, hl, hp⟩ h
    ·exact hl⟩
open Classical in
noncomputable def leastN (p : Nat → Prop) : Nat := if h : ∃ n, p n then (exists_least h).choose else 0
theorem leastN_spec {p : Nat → Prop} (h : ∃ n, p n) : p (leastN p) := by unfold leastN; rw [dif_pos h]; exact (exists_least h).choose_spec.1
theorem leastN_min {p : Nat → Prop} {m : Nat} (hm : p m) : leastN p ≤ m := by unfold leastN; rw [dif_pos ⟨m, hm⟩]; exact (exists_least ⟨m, hm⟩).choose_spec.2 m hm
theorem j_loop (I : Nat → List Value → List SH → Prop) {ini : List Operand} {body : Tree} (h0 : ∃ n, I n (ini.map (ev env)) S)
  (hb : ∀ n vs S', vs.length = ini.length → I n vs S' → J P R body (vs ++ env) S' b (B ++ [fun vs' S'' => ∃ n', n' < n ∧ I n' vs' S''])) : J P R (.loop ini body) env S b B := fun w hw => by
 let X : List Value → World → Nat → Prop := fun vs w n => ∃ S', I n vs S' ∧ Sig b S' w
 refine ⟨fun vs w => ∃ n, X vs w n, fun vs w => leastN (X vs w), ?_, ?_⟩
 ·obtain ⟨n, hn⟩ := h0
  exact ⟨n, S, hn, hw⟩
 ·intro vs w' hl hX
  obtain ⟨S', hI, hS⟩ := leastN_spec hX
  have H := hb _ vs S' hl hI w' hS
  rw [List.map_append] at H
  simp only [List.map_cons, List.map_nil] at H
  have e : (fun vs' w'' => (∃ n, X vs' w'' n) ∧ leastN (X vs' w'') < leastN (X vs w')) = lift b (fun vs' S'' => ∃ n', n' < leastN (X vs w') ∧ I n' vs' S'') := by
   funext vs' w''
   apply propext
   constructor
   ·rintro ⟨h1, h2⟩
    obtain ⟨S'', hI'', hS''⟩ := leastN_spec h1
    exact ⟨S'', ⟨_, h2, hI''⟩, hS''⟩
   ·rintro ⟨S'', ⟨n', hn', hI''⟩, hS''⟩
    have h1 : X vs' w'' n' := ⟨S'', hI'', hS''⟩
    exact ⟨⟨n', h1⟩, Nat.lt_of_le_of_lt (leastN_min h1) hn'⟩
  rw [e]
  exact H
def Con (P : Program) (f : FuncId) (args : List Value) (w : World) (Fp : SH) (post : Value → List SH → Prop) : Prop :=
 (∀ p ∈ Fp, w.heap[p.1]? = some p.2) → (dom Fp).Nodup → Calls P f args.toArray w fun e w' => ∃ v S', e = .returned v ∧ post v S' ∧ Sig ⟨w, dom Fp⟩ S' w'
theorem con_of_tree {f : FuncId} {fn : Func} {args : List Value} {w : World} {Fp : SH} {post : Value → List SH → Prop} {hs : List (Nat × Nat)} (hmix : P.follows .mixedOrders = true) (hf : P.funcs[f]? = some fn)
  (hT : tree hs fn args.length = some T) (hn : Nat.ble args.length fn.ntmps = true)
  (h : J P (fun e w' => ∃ v S', e = .returned v ∧ post v S' ∧ Sig ⟨w, dom Fp⟩ S' w') T args [Fp] ⟨w, dom Fp⟩ []) : Con P f args w Fp post := fun hown hnd => by
 obtain ⟨c, hb⟩ : ∃ c, fn.body = some c := by
  cases hb : fn.body with
  | none => simp [tree, hb] at hT
  | some c => exact ⟨c, rfl⟩
 exact calls_of_tree hmix hf hb hT (Nat.le_of_ble_eq_true hn) (h w ⟨rfl, rfl, rfl, Nat.le_refl _, by simpa using hown, by simpa using hnd, fun k hk => .inl (by simpa using hk), fun _ _ _ => rfl⟩)
theorem j_ret_con {w : World} {Fp : SH} {post : Value → List SH → Prop} {rs : List RV} {vs : List Value} (hv : ∀ w', Sig ⟨w, dom Fp⟩ S w' → rvsW P env w' rs vs) (h : post (retVal vs) S) :
  J P (fun e w' => ∃ v S', e = .returned v ∧ post v S' ∧ Sig ⟨w, dom Fp⟩ S' w') (.ret rs) env S ⟨w, dom Fp⟩ B := j_ret hv fun _ hw => ⟨_, S, rfl, h, hw⟩
structure Enters (P : Program) (f : FuncId) : Prop where
 ex : ∃ fn, P.funcs[f]? = some fn ∧ (fn.name == "runtime.NumGoroutine") = false ∧ fn.body.isNone = false
theorem run_callFunc {f : FuncId} (h : Enters P f) (args : Array Value) (w : World) : (callFunc f args).run P w = .ok (.enter f args) w := by
 obtain ⟨fn, h1, h2, h3⟩ := h.ex
 simp only [callFunc, program, Sem.run_bind, Sem.run, Result.andThen_ok, h1, h2, h3]
 rfl
theorem run_call {f : FuncId} (h : Enters P f) {xs : Array Operand} {tys : Array TypeId} (g : Operand) (ho : o.op = .call ⟨.value g, xs, tys⟩) {first cap : Array Value} (hg : ev env g = .func (.func f) first cap) (w : World) :
  (execOp (ev env) o).run P w = .ok (.enter f (first ++ xs.map (ev env) ++ cap)) w := by
 simp only [execOp, ho, resolve, hg, Deferred.ofValue, invoke, Sem.run_bind, Sem.run_pure, Result.andThen_ok, run_callFunc h]
theorem qs_call {f : FuncId} {xs : Array Operand} {tys : Array TypeId} {g : Operand} {args : List Value} (h : Enters P f) (ho : o.op = .call ⟨.value g, xs, tys⟩) (hg : ev env g = .func (.func f) #[] #[]) (ha : xs.toList.map (ev env) = args)
  (hc : ∀ w, Sig b S w → Con P f args w [] fun u _ => u = v) : QS P o env b S v := fun w hw => by
 unfold qAt
 rw [run_call h g ho hg w]
 have e : (#[] ++ xs.map (ev env) ++ #[] : Array Value) = args.toArray := by
  rw [← ha]; apply Array.ext'; simp
 rw [e]
 refine ⟨rfl, (hc w hw (by simp) (by simp)).mono ?_⟩
 rintro e w' ⟨u, S', rfl, rfl, hS⟩
 refine ⟨rfl, ?_⟩
 have := Sig.call (Fp := []) (Fr := S.flatten) (S2 := S'.flatten :: S) hw (by simp) hS (by simp)
 exact this.sub (by simp)
theorem j_call {f : FuncId} {xs : Array Operand} {tys : Array TypeId} {g : Operand} {args : List Value} {post : Value → List SH → Prop} (k : Nat) {c : SH} (h : Enters P f) (ho : o.op = .call ⟨.value g, xs, tys⟩) (hg : ev env g = .func (.func f) #[] #[]) (ha : xs.toList.map (ev env) = args)
  (hk : S[k]? = some c) (hc : ∀ w, Sig b S w → Con P f args w c post) (hn : ∀ u S', post u S' → J P R T (u :: env) (S' ++ S.set k []) b B) : J P R (.op o T) env S b B := fun w hw => by
 show opW _ _ _ _ _ _
 unfold opW
 rw [run_call h g ho hg w]
 have e : (#[] ++ xs.map (ev env) ++ #[] : Array Value) = args.toArray := by
  rw [← ha]; apply Array.ext'; simp
 rw [e]
 obtain ⟨r, h1, h2⟩ := flatten_set hk []
 have hnd : (dom c).Nodup := by
  have := (h1.map Prod.fst).nodup_iff.1 hw.nodup
  rw [List.map_append, List.nodup_append] at this
  exact this.1
 refine (hc w hw (fun p hp => hw.own p (mem_flatten_of hk hp)) hnd).mono ?_
 rintro e w' ⟨u, S', rfl, hp, hS⟩
 refine hn u S' hp w' (Sig.call (Fr := r) hw h1 hS ?_)
 rw [List.flatten_append]
 exact (by simpa using h2 : (S.set k []).flatten.Perm r).append_left _
theorem j_call0 {f : FuncId} {xs : Array Operand} {tys : Array TypeId} {g : Operand} {args : List Value} {post : Value → List SH → Prop} (h : Enters P f) (ho : o.op = .call ⟨.value g, xs, tys⟩) (hg : ev env g = .func (.func f) #[] #[]) (ha : xs.toList.map (ev env) = args)
  (hc : ∀ w, Sig b S w → Con P f args w [] post) (hn : ∀ u S', post u S' → J P R T (u :: env) (S' ++ S) b B) : J P R (.op o T) env S b B := fun w hw => by
 show opW _ _ _ _ _ _
 unfold opW
 rw [run_call h g ho hg w]
 have e : (#[] ++ xs.map (ev env) ++ #[] : Array Value) = args.toArray := by
  rw [← ha]; apply Array.ext'; simp
 rw [e]
 refine (hc w hw (by simp) (by simp)).mono ?_
 rintro e w' ⟨u, S', rfl, hp, hS⟩
 exact hn u S' hp w' (Sig.call (Fp := []) (Fr := S.flatten) hw (by simp) hS (by simp))
end Go.Sx
/-! Ta1 -/
namespace Go.Proofs.YtfebkkmmagbnlaaGreatDoor
open Go Go.Sx
set_option maxRecDepth 100000
def T8 : Tree := (.op (O (.assign (.const (.bool .false))) 4) (.op (O (.call ⟨(.value (.func 9)), #[(.const (.int .i64 100000))], #[3]⟩) 25) (.op (O (.extract (.tmp 0) 0) 23) (.op (O (.extract (.tmp 1) 1) 24) (.op (O (.call ⟨(.value (.func 10)), #[(.tmp 1), (.const (.string { data := #[112] }))], #[23, 9]⟩) 28) (.op (O (.extract (.tmp 0) 0) 27) (.op (O (.extract (.tmp 1) 1) 24) (.op (O (.binOp .neq 24 (.tmp 0) (.const (.int .i64 0)) 24) 4) (.gop (.tmp 0) .false (O (.move (.tmp 2)) 27) (.gop (.tmp 1) .false (O (.binOp .eql 27 (.tmp 0) (.const (.pointer Option.none)) 27) 4) (.op (O (.pick (.tmp 2) (.const (.bool .true)) (.tmp 0)) 4) (.cond (.tmp 0) (.op (O (.assign (.const (.bool .false))) 4) (.ret [(.tmp 0)])) (.op (O (.call ⟨(.value (.func 11)), #[(.tmp 5)], #[27]⟩) 30) (.op (O (.extract (.tmp 0) 0) 3) (.op (O (.extract (.tmp 1) 1) 24) (.op (O (.binOp .neq 3 (.tmp 1) (.const (.int .i64 0)) 3) 4) (.gop (.tmp 0) .false (O (.move (.tmp 1)) 24) (.gop (.tmp 1) .false (O (.binOp .neq 24 (.tmp 0) (.const (.int .i64 0)) 24) 4) (.op (O (.pick (.tmp 2) (.const (.bool .true)) (.tmp 0)) 4) (.gop (.tmp 0) .false (O (.move (.tmp 12)) 27) (.gop (.tmp 1) .false (O (.buildSlice 33 1 #[(0, (.const (.int .u8 120)))]) 33) (.gop (.tmp 2) .false (O (.convert 33 33 (.tmp 0)) 33) (.gop (.tmp 3) .false (O (.call ⟨(.value (.func 12)), #[(.tmp 2), (.const (.int .i64 0)), (.tmp 0)], #[27, 3, 33]⟩) 24) (.gop (.tmp 4) .false (O (.binOp .neq 24 (.tmp 0) (.const (.int .i64 0)) 24) 4) (.op (O (.pick (.tmp 5) (.const (.bool .true)) (.tmp 0)) 4) (.gop (.tmp 0) .false (O (.move (.tmp 18)) 27) (.gop (.tmp 1) .false (O (.call ⟨(.value (.func 16)), #[(.tmp 0)], #[27]⟩) 24) (.gop (.tmp 2) .false (O (.binOp .neq 24 (.tmp 0) (.const (.int .i64 0)) 24) 4) (.op (O (.pick (.tmp 3) (.const (.bool .true)) (.tmp 0)) 4) (.gop (.tmp 0) .false (O (.move (.tmp 22)) 27) (.gop (.tmp 1) .false (O (.buildSlice 33 1 #[(0, (.const (.int .u8 121)))]) 33) (.gop (.tmp 2) .false (O (.convert 33 33 (.tmp 0)) 33) (.gop (.tmp 3) .false (O (.call ⟨(.value (.func 12)), #[(.tmp 2), (.const (.int .i64 0)), (.tmp 0)], #[27, 3, 33]⟩) 24) (.gop (.tmp 4) .false (O (.binOp .neq 24 (.tmp 0) (.const (.int .i64 0)) 24) 4) (.op (O (.pick (.tmp 5) (.const (.bool .true)) (.tmp 0)) 4) (.cond (.tmp 0) (.op (O (.assign (.const (.bool .false))) 4) (.ret [(.tmp 0)])) (.op (O (.call ⟨(.value (.func 17)), #[(.tmp 28)], #[27]⟩) 0) (.op (O (.call ⟨(.value (.func 14)), #[(.tmp 29), (.const (.int .i64 0))], #[27, 3]⟩) 35) (.op (O (.extract (.tmp 0) 0) 33) (.op (O (.extract (.tmp 1) 1) 24) (.op (O (.binOp .eql 24 (.tmp 0) (.const (.int .i64 0)) 24) 4) (.gop (.tmp 0) .true (O (.move (.tmp 2)) 33) (.gop (.tmp 1) .true (O (.buildSlice 33 1 #[(0, (.const (.int .u8 120)))]) 33) (.gop (.tmp 2) .true (O (.convert 33 33 (.tmp 0)) 33) (.gop (.tmp 3) .true (O (.call ⟨(.value (.func 25)), #[(.tmp 2), (.tmp 0)], #[33, 33]⟩) 4) (.op (O (.pick (.tmp 4) (.tmp 0) (.const (.bool .false))) 4) (.ret [(.tmp 0)])))))))))))))))))))))))))))))))))))))))))))))))
def H8 : List (Nat × Nat) := [(0, 99), (1, 99), (2, 99), (3, 99), (4, 99), (5, 99), (6, 99), (7, 99), (8, 99), (9, 99), (10, 99), (11, 99), (12, 99), (13, 99), (14, 99), (15, 99), (16, 99), (17, 99), (18, 99), (19, 99), (20, 99), (21, 99), (22, 99), (23, 99), (24, 99), (25, 99), (26, 99), (27, 99), (28, 99), (29, 99), (30, 99), (31, 99), (32, 99), (33, 99), (34, 99), (35, 99), (36, 99), (37, 99), (38, 99), (39, 99), (40, 99), (41, 99), (42, 99), (43, 99), (44, 99), (45, 99), (46, 99), (47, 99), (48, 99), (49, 99), (50, 99), (51, 99), (52, 99), (53, 99), (54, 99), (55, 99), (56, 99), (57, 99), (58, 99), (59, 99)]
theorem T8_ok : tree H8 Tryz.f8 0 = some T8 := by kernel_rfl
def T16 : Tree := (.op (O (.assign (.const (.int .i64 0))) 24) (.op (O (.call ⟨(.value (.func 36)), #[(.tmp 1)], #[27]⟩) 24) (.op (O (.binOp .neq 24 (.tmp 0) (.const (.int .i64 0)) 24) 4) (.cond (.tmp 0) (.ret [(.tmp 1)]) (.op (O (.call ⟨(.value (.func 40)), #[(.tmp 3)], #[27]⟩) 49) (.op (O (.call ⟨(.builtin .len), #[(.tmp 0)], #[49]⟩) 3) (.op (O (.binOp .eql 3 (.tmp 0) (.const (.int .i64 0)) 3) 4) (.cond (.tmp 0) (.op (O (.assign (.const (.int .i64 0))) 24) (.ret [(.tmp 0)])) (.op (O (.assign (.const (.int .i64 6))) 24) (.op (O (.call ⟨(.builtin .len), #[(.tmp 3)], #[49]⟩) 3) (.op (O (.binOp .leq 3 (.tmp 0) (.const (.int .i64 900)) 3) 4) (.cond (.tmp 0) (.op (O (.call ⟨(.value (.func 41)), #[(.tmp 9), (.tmp 5)], #[27, 49]⟩) 24) (.op (O (.binOp .eql 24 (.tmp 0) (.const (.int .i64 6)) 24) 4) (.cond (.tmp 0) (.op (O (.call ⟨(.value (.func 42)), #[(.tmp 11), (.tmp 7)], #[27, 49]⟩) 24) (.op (O (.binOp .neq 24 (.tmp 0) (.const (.int .i64 0)) 24) 4) (.cond (.tmp 0) (.op (O (.binOp .neq 24 (.tmp 1) (.const (.int .i64 6)) 24) 4) (.op (O (.nilCheck (.tmp 14)) 0) (.op (O (.fieldAddr 78 (.tmp 0) 9) 0) (.op (O (.store 4 (.tmp 0) (.tmp 2)) 0) (.ret [(.tmp 5)]))))) (.op (O (.call ⟨(.value (.func 35)), #[(.tmp 13)], #[27]⟩) 0) (.op (O (.assign (.const (.int .i64 0))) 24) (.ret [(.tmp 0)])))))) (.op (O (.binOp .neq 24 (.tmp 1) (.const (.int .i64 0)) 24) 4) (.cond (.tmp 0) (.op (O (.binOp .neq 24 (.tmp 2) (.const (.int .i64 6)) 24) 4) (.op (O (.nilCheck (.tmp 13)) 0) (.op (O (.fieldAddr 78 (.tmp 0) 9) 0) (.op (O (.store 4 (.tmp 0) (.tmp 2)) 0) (.ret [(.tmp 6)]))))) (.op (O (.call ⟨(.value (.func 35)), #[(.tmp 12)], #[27]⟩) 0) (.op (O (.assign (.const (.int .i64 0))) 24) (.ret [(.tmp 0)])))))))) (.op (O (.binOp .eql 24 (.tmp 2) (.const (.int .i64 6)) 24) 4) (.cond (.tmp 0) (.op (O (.call ⟨(.value (.func 42)), #[(.tmp 10), (.tmp 6)], #[27, 49]⟩) 24) (.op (O (.binOp .neq 24 (.tmp 0) (.const (.int .i64 0)) 24) 4) (.cond (.tmp 0) (.op (O (.binOp .neq 24 (.tmp 1) (.const (.int .i64 6)) 24) 4) (.op (O (.nilCheck (.tmp 13)) 0) (.op (O (.fieldAddr 78 (.tmp 0) 9) 0) (.op (O (.store 4 (.tmp 0) (.tmp 2)) 0) (.ret [(.tmp 5)]))))) (.op (O (.call ⟨(.value (.func 35)), #[(.tmp 12)], #[27]⟩) 0) (.op (O (.assign (.const (.int .i64 0))) 24) (.ret [(.tmp 0)])))))) (.op (O (.binOp .neq 24 (.tmp 3) (.const (.int .i64 0)) 24) 4) (.cond (.tmp 0) (.op (O (.binOp .neq 24 (.tmp 4) (.const (.int .i64 6)) 24) 4) (.op (O (.nilCheck (.tmp 12)) 0) (.op (O (.fieldAddr 78 (.tmp 0) 9) 0) (.op (O (.store 4 (.tmp 0) (.tmp 2)) 0) (.ret [(.tmp 8)]))))) (.op (O (.call ⟨(.value (.func 35)), #[(.tmp 11)], #[27]⟩) 0) (.op (O (.assign (.const (.int .i64 0))) 24) (.ret [(.tmp 0)])))))))))))))))))))
def H16 : List (Nat × Nat) := [(0, 99), (1, 99), (2, 99), (3, 99), (4, 99), (5, 99), (6, 99), (7, 99), (8, 99), (9, 99), (10, 99), (11, 99), (12, 99), (13, 99), (14, 99), (15, 99), (16, 99), (17, 99), (18, 99), (19, 99), (20, 99), (21, 99), (22, 99), (23, 99), (24, 99), (25, 99), (26, 99), (27, 99), (28, 99), (29, 99), (30, 99), (31, 99), (32, 99), (33, 99), (34, 99), (35, 99), (36, 99), (37, 99), (38, 99), (39, 99), (40, 99), (41, 99), (42, 99), (43, 99), (44, 99), (45, 99), (46, 99), (47, 99), (48, 99), (49, 99), (50, 99), (51, 99), (52, 99), (53, 99), (54, 99), (55, 99), (56, 99), (57, 99), (58, 99), (59, 99)]
theorem T16_ok : tree H16 Tryz.f16 1 = some T16 := by kernel_rfl
def T24 : Tree := (.op (O (.binOp .eql 23 (.tmp 0) (.const (.pointer Option.none)) 23) 4) (.cond (.tmp 0) (.ret []) (.op (O (.call ⟨(.value (.func 54)), #[(.tmp 1)], #[23]⟩) 0) (.op (O (.nilCheck (.tmp 2)) 0) (.op (O (.fieldAddr 63 (.tmp 0) 3) 0) (.op (O (.load 61 (.tmp 0)) 61) (.op (O (.call ⟨(.builtin .len), #[(.tmp 0)], #[61]⟩) 3) (.op (O (.call ⟨(.builtin .min), #[(.tmp 0), (.tmp 7)], #[3, 3]⟩) 3) (.op (O (.call ⟨(.builtin .max), #[(.const (.int .i64 0)), (.tmp 0)], #[3, 3]⟩) 3) (.op (O (.call ⟨(.value (.func 55)), #[(.tmp 8), (.tmp 0)], #[23, 3]⟩) 0) (.op (O (.nilCheck (.tmp 9)) 0) (.op (O (.fieldAddr 63 (.tmp 0) 1) 0) (.op (O (.load 59 (.tmp 0)) 59) (.op (O (.call ⟨(.value (.func 56)), #[(.tmp 0)], #[59]⟩) 59) (.op (O (.nilCheck (.tmp 13)) 0) (.op (O (.fieldAddr 63 (.tmp 0) 2) 0) (.op (O (.store 59 (.tmp 0) (.tmp 2)) 0) (.op (O (.nilCheck (.tmp 16)) 0) (.op (O (.fieldAddr 63 (.tmp 0) 4) 0) (.op (O (.store 4 (.tmp 0) (.const (.bool .false))) 0) (.ret [])))))))))))))))))))))
def H24 : List (Nat × Nat) := []
theorem T24_ok : tree H24 Tryz.f24 2 = some T24 := by kernel_rfl
def T32 : Tree := (.op (O (.assign (.const (.pointer Option.none))) 68) (.op (O (.assign (.const (.int .i64 0))) 24) (.op (O (.build 133 #[]) 133) (.op (O (.box 133 (.tmp 0)) 121) (.op (O (.build 136 #[(0, (.tmp 4)), (1, (.tmp 5)), (7, (.tmp 0))]) 136) (.op (O (.box 136 (.tmp 0)) 68) (.op (O (.call ⟨(.value (.func 27)), #[(.tmp 6), (.tmp 7)], #[23, 9]⟩) 35) (.op (O (.extract (.tmp 0) 0) 33) (.op (O (.extract (.tmp 1) 1) 24) (.op (O (.binOp .eql 24 (.tmp 0) (.const (.int .i64 0)) 24) 4) (.cond (.tmp 0) (.op (O (.call ⟨(.value (.func 63)), #[(.tmp 2)], #[33]⟩) 64) (.op (O (.nilCheck (.tmp 5)) 0) (.op (O (.fieldAddr 136 (.tmp 0) 2) 0) (.op (O (.store 64 (.tmp 0) (.tmp 2)) 0) (.op (O (.nilCheck (.tmp 8)) 0) (.op (O (.fieldAddr 136 (.tmp 0) 4) 0) (.op (O (.store 3 (.tmp 0) (.const (.int .i64 (-1)))) 0) (.op (O (.assign (.const (.int .i64 0))) 3) (.loop [(.tmp 0)] (.op (O (.call ⟨(.value (.func 64)), #[(.tmp 13), (.tmp 0)], #[68, 3]⟩) 9) (.op (O (.call ⟨(.value (.func 27)), #[(.tmp 20), (.tmp 0)], #[23, 9]⟩) 35) (.op (O (.extract (.tmp 0) 0) 33) (.op (O (.extract (.tmp 1) 1) 24) (.op (O (.binOp .neq 24 (.tmp 0) (.const (.int .i64 0)) 24) 4) (.cond (.tmp 0) (.op (O (.assign (.const (.int .i64 0))) 24) (.ret [(.tmp 19), (.tmp 0)])) (.op (O (.call ⟨(.builtin .len), #[(.tmp 2)], #[33]⟩) 3) (.op (O (.nilCheck (.tmp 19)) 0) (.op (O (.fieldAddr 136 (.tmp 0) 3) 0) (.op (O (.store 3 (.tmp 0) (.tmp 8)) 0) (.op (O (.nilCheck (.tmp 22)) 0) (.op (O (.fieldAddr 136 (.tmp 0) 4) 0) (.op (O (.store 3 (.tmp 0) (.tmp 5)) 0) (.op (O (.call ⟨(.value (.func 65)), #[(.tmp 25), (.tmp 9)], #[68, 33]⟩) 4) (.op (O (.unOp .not 4 (.tmp 0)) 4) (.cond (.tmp 0) (.op (O (.binOp .add 3 (.tmp 14) (.const (.int .i64 1)) 3) 3) (.op (O (.nilCheck (.tmp 28)) 0) (.op (O (.fieldAddr 136 (.tmp 0) 3) 0) (.op (O (.store 3 (.tmp 0) (.tmp 2)) 0) (.op (O (.nilCheck (.tmp 31)) 0) (.op (O (.fieldAddr 136 (.tmp 0) 4) 0) (.op (O (.store 3 (.tmp 0) (.const (.int .i64 (-1)))) 0) (.op (O (.assign (.const (.int .i64 0))) 24) (.ret [(.tmp 35), (.tmp 0)]))))))))) (.op (O (.binOp .add 3 (.tmp 14) (.const (.int .i64 1)) 3) 3) (.back 0 [(.tmp 0)]))))))))))))))))))))))))))) (.op (O (.nilCheck (.tmp 4)) 0) (.op (O (.fieldAddr 136 (.tmp 0) 4) 0) (.op (O (.store 3 (.tmp 0) (.const (.int .i64 (-1)))) 0) (.op (O (.assign (.const (.int .i64 0))) 3) (.loop [(.tmp 0)] (.op (O (.call ⟨(.value (.func 64)), #[(.tmp 9), (.tmp 0)], #[68, 3]⟩) 9) (.op (O (.call ⟨(.value (.func 27)), #[(.tmp 16), (.tmp 0)], #[23, 9]⟩) 35) (.op (O (.extract (.tmp 0) 0) 33) (.op (O (.extract (.tmp 1) 1) 24) (.op (O (.binOp .neq 24 (.tmp 0) (.const (.int .i64 0)) 24) 4) (.cond (.tmp 0) (.op (O (.assign (.const (.int .i64 0))) 24) (.ret [(.tmp 15), (.tmp 0)])) (.op (O (.call ⟨(.builtin .len), #[(.tmp 2)], #[33]⟩) 3) (.op (O (.nilCheck (.tmp 15)) 0) (.op (O (.fieldAddr 136 (.tmp 0) 3) 0) (.op (O (.store 3 (.tmp 0) (.tmp 8)) 0) (.op (O (.nilCheck (.tmp 18)) 0) (.op (O (.fieldAddr 136 (.tmp 0) 4) 0) (.op (O (.store 3 (.tmp 0) (.tmp 5)) 0) (.op (O (.call ⟨(.value (.func 65)), #[(.tmp 21), (.tmp 9)], #[68, 33]⟩) 4) (.op (O (.unOp .not 4 (.tmp 0)) 4) (.cond (.tmp 0) (.op (O (.binOp .add 3 (.tmp 14) (.const (.int .i64 1)) 3) 3) (.op (O (.nilCheck (.tmp 24)) 0) (.op (O (.fieldAddr 136 (.tmp 0) 3) 0) (.op (O (.store 3 (.tmp 0) (.tmp 2)) 0) (.op (O (.nilCheck (.tmp 27)) 0) (.op (O (.fieldAddr 136 (.tmp 0) 4) 0) (.op (O (.store 3 (.tmp 0) (.const (.int .i64 (-1)))) 0) (.op (O (.assign (.const (.int .i64 0))) 24) (.ret [(.tmp 31), (.tmp 0)]))))))))) (.op (O (.binOp .add 3 (.tmp 14) (.const (.int .i64 1)) 3) 3) (.back 0 [(.tmp 0)]))))))))))))))))))))))))))))))))))
def H32 : List (Nat × Nat) := []
theorem T32_ok : tree H32 Tryz.f32 2 = some T32 := by kernel_rfl
def T40 : Tree := (.op (O (.assign (.const (.slice Option.none 0 0))) 49) (.op (O (.assign (.const (.slice Option.none 0 0))) 49) (.op (O (.move (.const (.int .i64 0))) 3) (.loop [(.tmp 1), (.tmp 0)] (.op (O (.binOp .lss 3 (.tmp 1) (.const (.int .i64 256)) 3) 0) (.cond (.tmp 0) (.op (O (.nilCheck (.tmp 6)) 0) (.op (O (.fieldAddr 78 (.tmp 0) 7) 0) (.op (O (.indexAddr 75 (.tmp 0) (.tmp 4)) 0) (.op (O (.call ⟨(.value (.func 66)), #[(.tmp 0)], #[74]⟩) 64) (.loop [(.tmp 5), (.tmp 0)] (.op (O (.binOp .neq 64 (.tmp 1) (.const (.int .u64 0)) 64) 4) (.cond (.tmp 0) (.op (O (.binOp .mul 3 (.tmp 9) (.const (.int .i64 64)) 3) 3) (.op (O (.call ⟨(.value (.func 67)), #[(.tmp 3)], #[64]⟩) 3) (.op (O (.binOp .add 3 (.tmp 1) (.tmp 0) 3) 3) (.op (O (.buildSlice 49 1 #[(0, (.tmp 0))]) 49) (.op (O (.call ⟨(.builtin .append), #[(.tmp 5), (.tmp 0)], #[49, 49]⟩) 49) (.op (O (.binOp .sub 64 (.tmp 7) (.const (.int .u64 1)) 64) 64) (.op (O (.binOp .and 64 (.tmp 8) (.tmp 0) 64) 64) (.back 1 [(.tmp 2), (.tmp 0)])))))))) (.op (O (.binOp .add 3 (.tmp 9) (.const (.int .i64 1)) 3) 3) (.back 0 [(.tmp 2), (.tmp 0)]))))))))) (.ret [(.tmp 1)])))))))
def H40 : List (Nat × Nat) := [(0, 99), (1, 99), (2, 99), (3, 99), (4, 99), (5, 99), (6, 99), (7, 99), (8, 99), (9, 99), (10, 99), (11, 99), (12, 99), (13, 99), (14, 99), (15, 99), (16, 99), (17, 99), (18, 99), (19, 99), (20, 99), (21, 99), (22, 99), (23, 99), (24, 99), (25, 99), (26, 99), (27, 99), (28, 99), (29, 99), (30, 99), (31, 99), (32, 99), (33, 99), (34, 99), (35, 99), (36, 99), (37, 99), (38, 99), (39, 99), (40, 99), (41, 99), (42, 99), (43, 99), (44, 99), (45, 99), (46, 99), (47, 99), (48, 99), (49, 99), (50, 99), (51, 99), (52, 99), (53, 99), (54, 99), (55, 99), (56, 99), (57, 99), (58, 99), (59, 99)]
theorem T40_ok : tree H40 Tryz.f40 1 = some T40 := by kernel_rfl
def T48 : Tree := (.op (O (.assign (.const (.int .i64 0))) 3) (.op (O (.call ⟨(.value (.func 81)), #[(.tmp 1), (.tmp 2)], #[47, 3]⟩) 4) (.op (O (.unOp .not 4 (.tmp 0)) 4) (.cond (.tmp 0) (.op (O (.assign (.const (.int .i64 7))) 3) (.ret [(.tmp 0)])) (.op (O (.call ⟨(.builtin .len), #[(.tmp 5)], #[33]⟩) 3) (.op (O (.binOp .gtr 3 (.tmp 0) (.const (.int .i64 512)) 3) 4) (.cond (.tmp 0) (.op (O (.assign (.const (.int .i64 5))) 3) (.ret [(.tmp 0)])) (.mix (.mq none (O (.nilCheck (.tmp 5)) 0) (.mq none (O (.fieldAddr 51 (.tmp 0) 0) 0) (.mq none (O (.load 48 (.tmp 0)) 48) (.op (O (.buildSlice 33 0 #[]) 33) (.mD (.op (O (.call ⟨(.builtin .append), #[(.tmp 0), (.tmp 11)], #[33, 33]⟩) 33) (.mD (.mq none (O (.indexAddr 48 (.tmp 2) (.tmp 11)) 0) (.mq none (O (.fieldAddr 105 (.tmp 0) 1) 0) (.op (O (.store 33 (.tmp 0) (.tmp 2)) 0) (.mR (.mend (.op (O (.call ⟨(.value (.func 80)), #[(.tmp 13), (.tmp 14)], #[47, 3]⟩) 0) (.op (O (.assign (.const (.int .i64 0))) 3) (.ret [(.tmp 0)])))))))))))))))))))))))
def H48 : List (Nat × Nat) := [(0, 99), (1, 99), (2, 99), (3, 99), (4, 99), (5, 99), (6, 99), (7, 99), (8, 99), (9, 99), (10, 99), (11, 99), (12, 99), (13, 99), (14, 99), (15, 99), (16, 99), (17, 99), (18, 99), (19, 99), (20, 99), (21, 99), (22, 99), (23, 99), (24, 99), (25, 99), (26, 99), (27, 99), (28, 99), (29, 99), (30, 99), (31, 99), (32, 99), (33, 99), (34, 99), (35, 99), (36, 99), (37, 99), (38, 99), (39, 99), (40, 99), (41, 99), (42, 99), (43, 99), (44, 99), (45, 99), (46, 99), (47, 99), (48, 99), (49, 99), (50, 99), (51, 99), (52, 99), (53, 99), (54, 99), (55, 99), (56, 99), (57, 99), (58, 99), (59, 99)]
theorem T48_ok : tree H48 Tryz.f48 3 = some T48 := by kernel_rfl
def T56 : Tree := (.op (O (.assign (.const (.pointer Option.none))) 59) (.op (O (.call ⟨(.value (.func 26)), #[], #[]⟩) 59) (.op (O (.nilCheck (.tmp 2)) 0) (.op (O (.fieldAddr 109 (.tmp 0) 1) 0) (.op (O (.load 3 (.tmp 0)) 3) (.op (O (.nilCheck (.tmp 3)) 0) (.op (O (.fieldAddr 109 (.tmp 0) 1) 0) (.op (O (.store 3 (.tmp 0) (.tmp 2)) 0) (.op (O (.makeMap 154 none) 154) (.op (O (.nilCheck (.tmp 9)) 0) (.op (O (.fieldAddr 109 (.tmp 0) 0) 0) (.op (O (.load 107 (.tmp 0)) 107) (.op (O (.range 107 (.tmp 0)) 0) (.loop [] (.op (O (.next (.tmp 0) .false) 0) (.op (O (.extract (.tmp 0) 0) 4) (.cond (.tmp 0) (.op (O (.entry (.tmp 2)) 0) (.op (O (.extract (.tmp 0) 0) 9) (.op (O (.extract (.tmp 1) 1) 110) (.op (O (.lookup 154 (.tmp 9) (.tmp 0) .false) 110) (.op (O (.binOp .eql 110 (.tmp 0) (.const (.pointer Option.none)) 110) 4) (.cond (.tmp 0) (.op (O (.nilCheck (.tmp 2)) 0) (.op (O (.fieldAddr 114 (.tmp 0) 0) 0) (.op (O (.load 33 (.tmp 0)) 33) (.op (O (.call ⟨(.value (.func 82)), #[(.tmp 0)], #[33]⟩) 33) (.op (O (.build 114 #[(0, (.tmp 0))]) 114) (.op (O (.box 114 (.tmp 0)) 110) (.op (O (.mapUpdate 154 (.tmp 17) (.tmp 8) (.tmp 0)) 0) (.op (O (.nilCheck (.tmp 1)) 0) (.op (O (.fieldAddr 114 (.tmp 0) 1) 0) (.op (O (.call ⟨(.value (.func 83)), #[(.tmp 0), (.const (.int .i32 1))], #[112, 21]⟩) 21) (.op (O (.nilCheck (.tmp 28)) 0) (.op (O (.fieldAddr 109 (.tmp 0) 0) 0) (.op (O (.load 107 (.tmp 0)) 107) (.op (O (.mapUpdate 107 (.tmp 0) (.tmp 16) (.tmp 7)) 0) (.back 0 []))))))))))))))) (.op (O (.nilCheck (.tmp 1)) 0) (.op (O (.fieldAddr 114 (.tmp 0) 1) 0) (.op (O (.call ⟨(.value (.func 83)), #[(.tmp 0), (.const (.int .i32 1))], #[112, 21]⟩) 21) (.op (O (.nilCheck (.tmp 21)) 0) (.op (O (.fieldAddr 109 (.tmp 0) 0) 0) (.op (O (.load 107 (.tmp 0)) 107) (.op (O (.mapUpdate 107 (.tmp 0) (.tmp 9) (.tmp 7)) 0) (.back 0 [])))))))))))))) (.ret [(.tmp 13)]))))))))))))))))))
def H56 : List (Nat × Nat) := []
theorem T56_ok : tree H56 Tryz.f56 1 = some T56 := by kernel_rfl
def T64 : Tree := (.op (O (.assign (.const (.string { data := #[] }))) 9) (.draw [⟨none, (O (.nilCheck (.tmp 1)) 0)⟩, ⟨none, (O (.fieldAddr 136 (.tmp 0) 1) 0)⟩, ⟨none, (O (.load 9 (.tmp 0)) 9)⟩, ⟨none, (O (.binOp .add 9 (.tmp 0) (.const (.string { data := #[46] })) 9) 9)⟩, ⟨none, (O (.nilCheck (.tmp 5)) 0)⟩, ⟨none, (O (.fieldAddr 136 (.tmp 0) 2) 0)⟩, ⟨none, (O (.load 64 (.tmp 0)) 64)⟩, ⟨none, (O (.call ⟨(.value (.func 62)), #[(.tmp 0), (.const (.int .i64 10))], #[64, 3]⟩) 9)⟩, ⟨none, (O (.binOp .add 9 (.tmp 4) (.tmp 0) 9) 9)⟩, ⟨none, (O (.binOp .add 9 (.tmp 0) (.const (.string { data := #[46] })) 9) 9)⟩, ⟨none, (O (.call ⟨(.value (.func 61)), #[(.tmp 12)], #[3]⟩) 9)⟩, ⟨none, (O (.binOp .add 9 (.tmp 1) (.tmp 0) 9) 9)⟩] (.ret [(.tmp 0)])))
def H64 : List (Nat × Nat) := []
theorem T64_ok : tree H64 Tryz.f64 2 = some T64 := by kernel_rfl
def T80 : Tree := (.op (O (.assign (.const (.int .i64 0))) 3) (.loop [(.tmp 0)] (.op (O (.nilCheck (.tmp 2)) 0) (.op (O (.fieldAddr 51 (.tmp 0) 2) 0) (.op (O (.load 49 (.tmp 0)) 49) (.op (O (.call ⟨(.builtin .len), #[(.tmp 0)], #[49]⟩) 3) (.op (O (.binOp .lss 3 (.tmp 4) (.tmp 0) 3) 4) (.cond (.tmp 0) (.op (O (.nilCheck (.tmp 7)) 0) (.op (O (.fieldAddr 51 (.tmp 0) 2) 0) (.op (O (.load 49 (.tmp 0)) 49) (.op (O (.indexAddr 49 (.tmp 0) (.tmp 8)) 0) (.op (O (.load 3 (.tmp 0)) 3) (.op (O (.binOp .eql 3 (.tmp 0) (.tmp 13) 3) 4) (.cond (.tmp 0) (.ret []) (.op (O (.binOp .add 3 (.tmp 11) (.const (.int .i64 1)) 3) 3) (.back 0 [(.tmp 0)]))))))))) (.op (O (.nilCheck (.tmp 7)) 0) (.op (O (.fieldAddr 51 (.tmp 0) 2) 0) (.op (O (.load 49 (.tmp 0)) 49) (.op (O (.buildSlice 49 1 #[(0, (.tmp 11))]) 49) (.op (O (.call ⟨(.builtin .append), #[(.tmp 1), (.tmp 0)], #[49, 49]⟩) 49) (.op (O (.nilCheck (.tmp 12)) 0) (.op (O (.fieldAddr 51 (.tmp 0) 2) 0) (.op (O (.store 49 (.tmp 0) (.tmp 2)) 0) (.ret [])))))))))))))))))
def H80 : List (Nat × Nat) := [(0, 99), (1, 99), (2, 99), (3, 99), (4, 99), (5, 99), (6, 99), (7, 99), (8, 99), (9, 99), (10, 99), (11, 99), (12, 99), (13, 99), (14, 99), (15, 99), (16, 99), (17, 99), (18, 99), (19, 99), (20, 99), (21, 99), (22, 99), (23, 99), (24, 99), (25, 99), (26, 99), (27, 99), (28, 99), (29, 99), (30, 99), (31, 99), (32, 99), (33, 99), (34, 99), (35, 99), (36, 99), (37, 99), (38, 99), (39, 99), (40, 99), (41, 99), (42, 99), (43, 99), (44, 99), (45, 99), (46, 99), (47, 99), (48, 99), (49, 99), (50, 99), (51, 99), (52, 99), (53, 99), (54, 99), (55, 99), (56, 99), (57, 99), (58, 99), (59, 99)]
theorem T80_ok : tree H80 Tryz.f80 2 = some T80 := by kernel_rfl
def T88 : Tree := (.op (O (.assign (.const (.int .u64 0))) 64) (.op (O (.assign (.const (.int .i64 0))) 3) (.op (O (.assign (.const (.int .u64 0))) 64) (.op (O (.call ⟨(.builtin .len), #[(.tmp 3)], #[33]⟩) 3) (.op (O (.move (.const (.int .i64 0))) 3) (.loop [(.tmp 2), (.tmp 0)] (.op (O (.binOp .lss 3 (.tmp 1) (.tmp 3) 3) 0) (.cond (.tmp 0) (.op (O (.indexAddr 33 (.tmp 8) (.tmp 2)) 0) (.op (O (.load 5 (.tmp 0)) 5) (.op (O (.binOp .eql 3 (.tmp 4) (.const (.int .i64 10)) 3) 4) (.cond (.tmp 0) (.op (O (.binOp .add 3 (.tmp 5) (.const (.int .i64 1)) 3) 3) (.op (O (.unOp .neg 3 (.tmp 0)) 3) (.op (O (.assign (.const (.int .u64 0))) 64) (.ret [(.tmp 0), (.tmp 1)])))) (.op (O (.binOp .lss 5 (.tmp 1) (.const (.int .u8 128)) 5) 4) (.cond (.tmp 0) (.op (O (.binOp .eql 3 (.tmp 6) (.const (.int .i64 9)) 3) 4) (.gop (.tmp 0) .true (O (.move (.tmp 3)) 5) (.gop (.tmp 1) .true (O (.binOp .gtr 5 (.tmp 0) (.const (.int .u8 1)) 5) 4) (.op (O (.pick (.tmp 2) (.tmp 0) (.const (.bool .false))) 4) (.cond (.tmp 0) (.op (O (.binOp .add 3 (.tmp 10) (.const (.int .i64 1)) 3) 3) (.op (O (.unOp .neg 3 (.tmp 0)) 3) (.op (O (.assign (.const (.int .u64 0))) 64) (.ret [(.tmp 0), (.tmp 1)])))) (.op (O (.convert 5 64 (.tmp 6)) 64) (.op (O (.binOp .mul 3 (.const (.int .i64 7)) (.tmp 11) 3) 3) (.op (O (.binOp .shl 64 (.tmp 1) (.tmp 0) 3) 64) (.op (O (.binOp .or 64 (.tmp 12) (.tmp 0) 64) 64) (.op (O (.binOp .add 3 (.tmp 14) (.const (.int .i64 1)) 3) 3) (.ret [(.tmp 1), (.tmp 0)]))))))))))) (.op (O (.binOp .and 5 (.tmp 2) (.const (.int .u8 127)) 5) 5) (.op (O (.convert 5 64 (.tmp 0)) 64) (.op (O (.binOp .mul 3 (.const (.int .i64 7)) (.tmp 8) 3) 3) (.op (O (.binOp .shl 64 (.tmp 1) (.tmp 0) 3) 64) (.op (O (.binOp .or 64 (.tmp 9) (.tmp 0) 64) 64) (.op (O (.binOp .add 3 (.tmp 11) (.const (.int .i64 1)) 3) 3) (.back 0 [(.tmp 1), (.tmp 0)]))))))))))))) (.op (O (.assign (.const (.int .u64 0))) 64) (.op (O (.assign (.const (.int .i64 0))) 3) (.ret [(.tmp 1), (.tmp 0)])))))))))))
def H88 : List (Nat × Nat) := []
theorem T88_ok : tree H88 Tryz.f88 1 = some T88 := by kernel_rfl
def T96 : Tree := (.op (O (.assign (.const (.int .i64 0))) 24) (.op (O (.binOp .eql 23 (.tmp 1) (.const (.pointer Option.none)) 23) 4) (.cond (.tmp 0) (.op (O (.assign (.const (.int .i64 1))) 24) (.ret [(.tmp 0)])) (.op (O (.call ⟨(.value (.func 54)), #[(.tmp 2)], #[23]⟩) 0) (.op (O (.nilCheck (.tmp 3)) 0) (.op (O (.fieldAddr 63 (.tmp 0) 4) 0) (.op (O (.load 4 (.tmp 0)) 4) (.gop (.tmp 0) .true (O (.move (.tmp 6)) 23) (.gop (.tmp 1) .true (O (.nilCheck (.tmp 0)) 0) (.gop (.tmp 2) .true (O (.fieldAddr 63 (.tmp 0) 5) 0) (.gop (.tmp 3) .true (O (.load 3 (.tmp 0)) 3) (.gop (.tmp 4) .true (O (.binOp .eql 3 (.tmp 0) (.const (.int .i64 0)) 3) 4) (.op (O (.pick (.tmp 5) (.tmp 0) (.const (.bool .false))) 4) (.cond (.tmp 0) (.op (O (.assign (.const (.int .i64 26))) 24) (.ret [(.tmp 0)])) (.op (O (.call ⟨(.value (.func 121)), #[(.tmp 13), (.func 122)], #[142, 187]⟩) 4) (.cond (.tmp 0) (.op (O (.assign (.const (.int .i64 9))) 24) (.ret [(.tmp 0)])) (.op (O (.assign (.const (.int .i64 0))) 24) (.ret [(.tmp 0)]))))))))))))))))))
def H96 : List (Nat × Nat) := []
theorem T96_ok : tree H96 Tryz.f96 2 = some T96 := by kernel_rfl
def T112 : Tree := (.op (O (.assign (.const (.int .i64 0))) 3) (.op (O (.call ⟨(.value (.func 130)), #[(.tmp 1)], #[64]⟩) 3) (.op (O (.call ⟨(.value (.func 129)), #[(.tmp 0)], #[3]⟩) 3) (.op (O (.indexAddr 196 (.global 1) (.tmp 0)) 0) (.op (O (.load 64 (.tmp 0)) 64) (.op (O (.binOp .geq 64 (.tmp 5) (.tmp 0) 64) 4) (.op (O (.call ⟨(.value (.func 131)), #[(.tmp 0)], #[4]⟩) 3) (.op (O (.binOp .add 3 (.tmp 4) (.tmp 0) 3) 3) (.ret [(.tmp 0)])))))))))
def H112 : List (Nat × Nat) := []
theorem T112_ok : tree H112 Tryz.f112 1 = some T112 := by kernel_rfl
def T120 : Tree := (.mix (.mq none (O (.nilCheck (.tmp 0)) 0) (.mq none (O (.fieldAddr 125 (.tmp 0) 1) 0) (.op (O (.call ⟨(.value (.func 137)), #[(.tmp 3)], #[4]⟩) 123) (.mD (.op (O (.call ⟨(.value (.func 136)), #[(.tmp 1), (.tmp 0)], #[200, 123]⟩) 0) (.mR (.mend (.ret [])))))))))
def H120 : List (Nat × Nat) := [(0, 99), (1, 99), (2, 99), (3, 99)]
theorem T120_ok : tree H120 Tryz.f120 2 = some T120 := by kernel_rfl
def T128 : Tree := (.op (O (.assign (.const (.int .u32 0))) 123) (.op (O (.unOp .neg 3 (.tmp 2)) 3) (.op (O (.call ⟨(.value (.func 149)), #[(.tmp 2), (.tmp 0)], #[123, 3]⟩) 123) (.ret [(.tmp 0)]))))
def H128 : List (Nat × Nat) := []
theorem T128_ok : tree H128 Tryz.f128 2 = some T128 := by kernel_rfl
end Go.Proofs.YtfebkkmmagbnlaaGreatDoor
