/-
  'vcOp': what an operation makes of the symbolic state, as a condition that is reckoned out.
-/
import Derived.Test.YteganoldfldlhaaA4Ops
set_option linter.all false
namespace Go.Sx
open Go Go.RowKit

structure Env where
  P : Program
  T : Nat → Ty
  C : Ctx
  eqk : Nat → List Nat

def inR : IntKind → Int → Prop
  | .i64, n => -9223372036854775808 ≤ n ∧ n ≤ 9223372036854775807
  | .u8, n => 0 ≤ n ∧ n ≤ 255
  | _, _ => False
theorem wrap_inR {k : IntKind} {n : Int} (h : inR k n) : k.wrap n = n := by
  cases k <;> simp only [inR] at h <;> first
    | exact h.elim
    | (simp only [IntKind.wrap, IntKind.bits, IntKind.signed]
       simp
       omega)
    | (simp only [IntKind.wrap, IntKind.bits, IntKind.signed]
       simp
       split <;> omega)

def strLt (s t : ByteArray) : Bool := Op.bytesLess s.toList t.toList
abbrev iv (n : Int) : D := .v (.int .i64 n)
abbrev bv (b : Bool) : D := .v (.bool b)
abbrev sv (s : ByteArray) : D := .v (.string s)
abbrev oi (n : Int) : SV := .o (.d (iv n))
abbrev ob (b : Bool) : SV := .o (.d (bv b))
abbrev os (s : ByteArray) : SV := .o (.d (sv s))

def binI (op : BinOp) (k : IntKind) (a b : Int) (q : Prop → SV → Prop) : Prop :=
  match op with
  | .add => q (inR k (a + b)) (.o (.d (.v (.int k (a + b)))))
  | .sub => q (inR k (a - b)) (.o (.d (.v (.int k (a - b)))))
  | .mul => q (inR k (a * b)) (.o (.d (.v (.int k (a * b)))))
  | .quo => q (b ≠ 0 ∧ inR k (a.tdiv b)) (.o (.d (.v (.int k (a.tdiv b)))))
  | .rem => q (b ≠ 0) (.o (.d (.v (.int k (a.tmod b)))))
  | .eql => q True (ob (decide (a = b)))
  | .neq => q True (ob (!decide (a = b)))
  | .lss => q True (ob (decide (a < b)))
  | .leq => q True (ob (decide (a ≤ b)))
  | .gtr => q True (ob (decide (b < a)))
  | .geq => q True (ob (decide (b ≤ a)))
  | _ => False
def binSt (op : BinOp) (a b : ByteArray) (q : Prop → SV → Prop) : Prop :=
  match op with
  | .add => q (a.size + b.size ≤ maxLen) (os (a ++ b))
  | .eql => q True (ob (decide (a = b)))
  | .neq => q True (ob (!decide (a = b)))
  | .lss => q True (ob (strLt a b))
  | .leq => q True (ob (strLt a b || decide (a = b)))
  | .gtr => q True (ob (!(strLt a b || decide (a = b))))
  | .geq => q True (ob (!strLt a b))
  | _ => False
def binB (op : BinOp) (a b : Bool) (q : Prop → SV → Prop) : Prop :=
  match op with
  | .eql => q True (ob (a == b))
  | .neq => q True (ob (!(a == b)))
  | _ => False
/-- The kinds of scalars: 1 an int, 2 a bool, 3 a string. -/
def kindV : Value → Nat
  | .int .i64 _ => 1
  | .bool _ => 2
  | .string _ => 3
  | _ => 0
def kindA : At → Nat
  | .d (.v x) => kindV x
  | _ => 0
def eqV : Value → Value → Bool
  | .int _ a, .int _ b => decide (a = b)
  | .bool a, .bool b => a == b
  | .string a, .string b => decide (a = b)
  | _, _ => false
def eqVs : List Value → List Value → Bool
  | [], [] => true
  | x :: xs, y :: ys => eqV x y && eqVs xs ys
  | _, _ => false
def eqA : At → At → Bool
  | .d (.v x), .d (.v y) => eqV x y
  | _, _ => false
def eqAs : List At → List At → Bool
  | [], [] => true
  | [x], [y] => eqA x y
  | x :: xs, y :: ys => eqA x y && eqAs xs ys
  | _, _ => false
structure EqT (P : Program) (t : Nat) (ks : List Nat) : Prop where
  pos : ks.all (· != 0) = true
  eql : ∀ (w : World) (xs ys : List Value), xs.map kindV = ks → ys.map kindV = ks → (binOp .eql t (.agg xs.toArray) (.agg ys.toArray)).run P w = .ok (.bool (eqVs xs ys)) w
  neq : ∀ (w : World) (xs ys : List Value), xs.map kindV = ks → ys.map kindV = ks → (binOp .neq t (.agg xs.toArray) (.agg ys.toArray)).run P w = .ok (.bool (!eqVs xs ys)) w
  guard : ∀ (op : BinOp) (x y : Operand) (xs ys : Array Value) (w : World), (eqGuard op t x y (.agg xs) (.agg ys)).run P w = .ok () w

def byteAt (s : ByteArray) (i : Nat) : Int := ((s.data.toList.getD i 0).toNat : Int)
def rwAt (rows : List (List D)) (i : Nat) : List D := rows.getD i []

/-- What is tied to a value: where it stands behind a continuation, 'simp' leaves that continuation alone (it may not turn an argument on which another one's type leans). -/
structure Tie.{u} {α : Sort u} (k : α) : Type where
  mk ::
/-- A call: whatever state the symbolic state describes, the call comes back, and what then holds is what k asks. -/
def CallS (E : Env) (f : Nat) (args : List SV) (st : St) (k : St → SV → Prop) : Prop :=
  (∀ as w, (callFunc f as).run E.P w = .ok (.enter f as) w) ∧
  ∀ g V a w (vs : List Value), Rel E.C g V st a w → vs.length = args.length → (∀ (i : Nat) (s : SV) (y : Value), args[i]? = some s → vs[i]? = some y → cSV g V s y) →
    Calls E.P f vs.toArray w fun e w' => ∃ y g' V' st' s, e = .returned y ∧ Rel E.C g' V' st' a w' ∧ cSV g' V' s y ∧ k st' s

structure CallT (E : Env) (f : Nat) (args : List SV) (st : St) (k : St → SV → Prop) (t : Tie k) : Prop where
  out : CallS E f args st k

def boxable : SV → Bool
  | .o a => !a.isU
  | .g _ => true
  | .t _ => false
def nthP : List (Nat × Nat) → Nat → Option (Nat × Nat)
  | [], _ => none
  | x :: _, 0 => some x
  | _ :: xs, n + 1 => nthP xs n
theorem nthP_eq (l : List (Nat × Nat)) (n : Nat) : nthP l n = l[n]? := by
  induction l generalizing n with
  | nil => rfl
  | cons x xs ih => cases n with
    | zero => rfl
    | succ n => simpa [nthP] using ih n
def noU (cs : List At) : Bool := cs.all fun a => !a.isU

def vcLoad (E : Env) (t : Nat) (x : SV) (st : St) (k : St → SV → Prop) : Prop :=
  match x with
  | .o (.p id off) => match nthH st.h id with
    | .box _ cs => match sub cs off (E.T t).size with
      | some r => (E.T t).tag ≠ 0 ∧ k st (pack (E.T t).agg r)
      | none => False
    | _ => False
  | .o (.q cs) => match sub cs 0 (E.T t).size with
    | some r => (E.T t).tag ≠ 0 ∧ k st (pack (E.T t).agg (r.map .d))
    | none => False
  | .o (.r id sz i fo) => match nthH st.h id with
    | .row _ sz' rows _ => match sub (rwAt rows i) fo (E.T t).size with
      | some r => (E.T t).tag ≠ 0 ∧ sz' = sz ∧ i < rows.length ∧ k st (pack (E.T t).agg (r.map .d))
      | none => False
    | _ => False
  | .o (.e id sz i fo) => match nthH st.h id with
    | .own _ sz' rows => match sub (rwAt rows i) fo 1 with
      | some [.sl _] => (E.T t).tag = 2 ∧ sz' = sz ∧ i < rows.length ∧ k st (.o (.n id sz i fo))
      | _ => False
    | _ => False
  | _ => False
/-- A scalar is stored into an owned tree. -/
def vcStoreOwn (E : Env) (t id sz i fo : Nat) (v : SV) (st : St) (k : St → SV → Prop) : Prop :=
  match v with
  | .o (.d (.v x)) => match nthH st.h id with
    | .own tag sz' rows => match sub (rwAt rows i) fo 1, splice (rwAt rows i) fo [.v x] with
      | some [.v _], some r => (E.T t).tag ≠ 0 ∧ (E.T t).size = 1 ∧ sz' = sz ∧ i < rows.length ∧ k ⟨st.t, setH st.h id (.own tag sz' (rows.set i r))⟩ (.t [])
      | _, _ => False
    | _ => False
  | _ => False
/-- One of two values. -/
def vcPick (s : SV) (yes no : Prop) (_ : Tie yes) (_ : Tie no) : Prop :=
  match s with
  | .o (.d (.v (.bool b))) => (b = true → yes) ∧ (b = false → no)
  | _ => False
def vcStore (E : Env) (t : Nat) (x v : SV) (st : St) (k : St → SV → Prop) : Prop :=
  match x with
  | .o (.p id off) => match nthH st.h id with
    | .box ty cs => match splice cs off v.cells with
      | some r => (E.T t).tag ≠ 0 ∧ boxable v = true ∧ noU v.cells = true ∧ v.cells.length = (E.T t).size ∧ k ⟨st.t, setH st.h id (.box ty r)⟩ (.t [])
      | none => False
    | _ => False
  | _ => False
def vcFieldAddr (E : Env) (t : Nat) (x : SV) (f : Nat) (st : St) (k : St → SV → Prop) : Prop :=
  match nthP (E.T t).flds f with
  | some (o, ft) => (E.T t).tag = 1 ∧ (E.T ft).tag ≠ 0 ∧ (match x with
    | .o (.p id off) => k st (.o (.p id (off + o)))
    | .o (.q cs) => k st (.o (.q (cs.drop o)))
    | .o (.r id sz i fo) => k st (.o (.r id sz i (fo + o)))
    | .o (.e id sz i fo) => k st (.o (.e id sz i (fo + o)))
    | _ => False)
  | none => False
def vcField (E : Env) (t : Nat) (x : SV) (f : Nat) (st : St) (k : St → SV → Prop) : Prop :=
  match nthP (E.T t).flds f with
  | some (o, ft) => match x with
    | .g cs => match sub cs o (E.T ft).size with
      | some r => (E.T t).tag = 1 ∧ (E.T ft).tag ≠ 0 ∧ k st (pack (E.T ft).agg r)
      | none => False
    | _ => False
  | none => False
def vcIndexAddr (E : Env) (t : Nat) (x i : SV) (st : St) (k : St → SV → Prop) : Prop :=
  (E.T t).tag = 2 ∧ (E.T (E.T t).elem).tag ≠ 0 ∧
  match x, i with
  | .o (.d (.sl rows)), .o (.d (.v (.int _ n))) => 0 ≤ n ∧ n.toNat < rows.length ∧ (rwAt rows n.toNat).length = (E.T (E.T t).elem).size ∧ k st (.o (.q (rwAt rows n.toNat)))
  | .o (.s id), .o (.d (.v (.int _ n))) => match nthH st.h id with
    | .row _ sz rows _ => 0 ≤ n ∧ n.toNat < rows.length ∧ sz = (E.T (E.T t).elem).size ∧ k st (.o (.r id sz n.toNat 0))
    | .frz rows _ => 0 ≤ n ∧ n.toNat < rows.length ∧ (rwAt rows n.toNat).length = (E.T (E.T t).elem).size ∧ k st (.o (.q (rwAt rows n.toNat)))
    | .own _ sz rows => 0 ≤ n ∧ n.toNat < rows.length ∧ sz = (E.T (E.T t).elem).size ∧ k st (.o (.e id sz n.toNat 0))
    | _ => False
  | _, _ => False
def vcIndex (E : Env) (t : Nat) (x i : SV) (st : St) (k : St → SV → Prop) : Prop :=
  match x, i with
  | .o (.d (.v (.string s))), .o (.d (.v (.int _ n))) => (E.T t).tag = 5 ∧ 0 ≤ n ∧ n.toNat < s.size ∧ k st (.o (.d (.v (.int .u8 (byteAt s n.toNat)))))
  | _, _ => False
def rowsOf (st : St) : SV → Option (List (List D))
  | .o (.d (.sl rows)) => some rows
  | .o .z => some []
  | .o (.s id) => match nthH st.h id with
    | .row _ _ rows _ => some rows
    | .frz rows _ => some rows
    | _ => none
  | _ => none
def vcBinN (E : Env) (op : BinOp) (t : Nat) (x y : SV) (st : St) (k : St → SV → Prop) : Prop :=
  match x, y with
  | .o (.d (.v (.int kx a))), .o (.d (.v (.int ky b))) => kx = ky ∧ binI op kx a b fun p s => p ∧ k st s
  | .o (.d (.v (.string a))), .o (.d (.v (.string b))) => binSt op a b fun p s => p ∧ k st s
  | .o (.d (.v (.bool a))), .o (.d (.v (.bool b))) => (E.T t).tag = 4 ∧ binB op a b fun p s => p ∧ k st s
  | .g xs, .g ys => E.eqk t ≠ [] ∧ xs.map kindA = E.eqk t ∧ ys.map kindA = E.eqk t ∧ (match op with
    | .eql => k st (ob (eqAs xs ys))
    | .neq => k st (ob (!eqAs xs ys))
    | _ => False)
  | _, _ => False
/-- A slice and nil: which of the two a slice without elements is, nobody has said. -/
def vcNil (E : Env) (op : BinOp) (t : Nat) (x : SV) (st : St) (k : St → SV → Prop) : Prop :=
  (E.T t).tag = 2 ∧ match rowsOf st x with
  | some rows => (match op with
    | .eql => ∀ b : Bool, (b = true → rows = []) → k st (ob b)
    | .neq => ∀ b : Bool, (b = false → rows = []) → k st (ob b)
    | _ => False)
  | none => False
def vcBin (E : Env) (op : BinOp) (t : Nat) (x y : SV) (st : St) (k : St → SV → Prop) : Prop :=
  match y with
  | .o .z => vcNil E op t x st k
  | _ => vcBinN E op t x y st k
def vcUn (op : UnOp) (x : SV) (st : St) (k : St → SV → Prop) : Prop :=
  match op, x with
  | .not, .o (.d (.v (.bool b))) => k st (ob (!b))
  | .neg, .o (.d (.v (.int kd n))) => inR kd (0 - n) ∧ k st (.o (.d (.v (.int kd (0 - n)))))
  | _, _ => False
def vcConv (E : Env) (src dst : Nat) (x : SV) (st : St) (k : St → SV → Prop) : Prop :=
  match x with
  | .o (.d (.v (.int _ n))) => (E.T src).tag = 3 ∧ (E.T dst).tag = 3 ∧ inR (E.T dst).kind n ∧ k st (.o (.d (.v (.int (E.T dst).kind n))))
  | _ => False
/-! string(b) of a slice of bytes. -/
def bytesR : List (List D) → Option (List Int)
  | [] => some []
  | r :: rs => match r with
    | [.v (.int .u8 n)] => (bytesR rs).map (n :: ·)
    | _ => none
def strOf (ns : List Int) : ByteArray := ⟨(ns.map fun n => UInt8.ofNat n.toNat).toArray⟩
def vcConvS (E : Env) (src dst : Nat) (x : SV) (st : St) (k : St → SV → Prop) : Prop :=
  (E.T src).tag = 2 ∧ (E.T (E.T src).elem).tag = 3 ∧ (E.T (E.T src).elem).kind = .u8 ∧ (E.T dst).tag = 5 ∧
  match rowsOf st x with
  | some rows => match bytesR rows with
    | some ns => k st (os (strOf ns))
    | none => False
  | none => False

/-- A slice's bounds: what the low one is, what the high one is. -/
def bnd (st : St) (dflt : Nat) : Option Operand → Option Int
  | none => some dflt
  | some x => match ev st x with
    | .o (.d (.v (.int _ n))) => some n
    | _ => none
def isSl (st : St) : SV → Bool
  | .o (.d (.sl _)) => true
  | .o .z => true
  | .o (.s id) => match nthH st.h id with
    | .row .. => true
    | .frz .. => true
    | _ => false
  | _ => false
def vcSlice (E : Env) (t : Nat) (x : SV) (lo hi mx : Option Operand) (st : St) (k : St → SV → Prop) : Prop :=
  match mx with
  | some m => (E.T t).tag = 2 ∧ (E.T (E.T t).elem).tag ≠ 0 ∧ isSl st x = true ∧ lo = none ∧ bnd st 1 hi = some 0 ∧ bnd st 1 (some m) = some 0 ∧ hi ≠ none ∧ k ⟨st.t, st.h ++ [.row (E.T t).elem (E.T (E.T t).elem).size [] true]⟩ (.o (.s st.h.length))
  | none => match x with
    | .o (.d (.v (.string s))) => match bnd st 0 lo, bnd st s.size hi with
      | some l, some h => (E.T t).tag = 5 ∧ 0 ≤ l ∧ l ≤ h ∧ h ≤ s.size ∧ k st (os (s.extract l.toNat h.toNat))
      | _, _ => False
    | .o (.d (.sl rows)) => match bnd st 0 lo, bnd st rows.length hi with
      | some l, some h => (E.T t).tag = 2 ∧ (E.T (E.T t).elem).tag ≠ 0 ∧ (∀ r ∈ rows, r.length = (E.T (E.T t).elem).size) ∧ 0 ≤ l ∧ l ≤ h ∧ h ≤ rows.length ∧ k st (.o (.d (.sl ((rows.take h.toNat).drop l.toNat))))
      | _, _ => False
    | _ => False
def vcExtract (x : SV) (i : Nat) (st : St) (k : St → SV → Prop) : Prop :=
  match x with
  | .t l => match l[i]? with
    | some (b, cs) => k st (if b then .g cs else pack false cs)
    | none => False
  | _ => False
def vcLen (E : Env) (t : Nat) (x : SV) (st : St) (k : St → SV → Prop) : Prop :=
  match x with
  | .o (.d (.v (.string s))) => (E.T t).tag = 5 ∧ k st (oi s.size)
  | .o (.d (.sl rows)) => (E.T t).tag = 2 ∧ k st (oi rows.length)
  | .o .z => (E.T t).tag = 2 ∧ k st (oi 0)
  | .o (.s id) => (E.T t).tag = 2 ∧ (match nthH st.h id with
    | .row _ _ rows _ => k st (oi rows.length)
    | .frz rows _ => k st (oi rows.length)
    | .own _ _ rows => k st (oi rows.length)
    | _ => False)
  | _ => False
/-- The cells of a value that is built: parts laid over the zero value. -/
def buildC (E : Env) (st : St) (flds : List (Nat × Nat)) : List At → List (Nat × Operand) → Option (List At)
  | cs, [] => some cs
  | cs, (i, x) :: r => match nthP flds i with
    | some (o, ft) => if boxable (ev st x) && (ev st x).cells.length == (E.T ft).size then (splice cs o (ev st x).cells).bind fun cs' => buildC E st flds cs' r else none
    | none => none
def vcBuild (E : Env) (t : Nat) (parts : List (Nat × Operand)) (st : St) (k : St → SV → Prop) : Prop :=
  match buildC E st (E.T t).flds (E.T t).zero parts with
  | some cs => (E.T t).tag = 1 ∧ (E.T t).flds.all (fun p => (E.T p.2).tag != 0) = true ∧ k st (.g cs)
  | none => False


/-! ### Rows of the function's own -/

def idsL : List At → List Nat
  | [] => []
  | .s id :: cs => id :: idsL cs
  | _ :: cs => idsL cs
/-- Rows are written no more. -/
def frzH : List HB → List Nat → List HB
  | h, [] => h
  | h, id :: ids => match nthH h id with
    | .row _ _ rows lin => frzH (setH h id (.frz rows lin)) ids
    | _ => frzH h ids
def goneH : List HB → List Nat → List HB
  | h, [] => h
  | h, id :: ids => goneH (setH h id .gone) ids
/-- A cell as data; whether what it leads to is nobody else's. -/
def absA (h : List HB) : At → Option (D × Bool)
  | .d (.v x) => some (.v x, true)
  | .d (.sl rows) => some (.sl rows, false)
  | .z => some (.sl [], true)
  | .s id => match nthH h id with
    | .frz rows lin => some (.sl rows, lin)
    | _ => none
  | _ => none
def absL (h : List HB) : List At → Option (List D × Bool)
  | [] => some ([], true)
  | a :: as => (absA h a).bind fun x => (absL h as).map fun y => (x.1 :: y.1, x.2 && y.2)
def memN (x : Nat) : List Nat → Bool
  | [] => false
  | y :: ys => x == y || memN x ys
def nodupN : List Nat → Bool
  | [] => true
  | x :: xs => !memN x xs && nodupN xs
/-- All rows have so many cells. -/
def uni (sz : Nat) (rows : List (List D)) : Prop := ∀ r ∈ rows, r.length = sz
def isV : D → Bool
  | .v _ => true
  | .sl _ => false
/-- No cell of the rows leads on. -/
def flatB (rows : List (List D)) : Bool := rows.all (·.all isV)

def partsC (st : St) : Nat → List (Nat × Operand) → Option (List (List At))
  | _, [] => some []
  | n, (i, x) :: r => if i = n ∧ boxable (ev st x) = true then (partsC st (n + 1) r).map ((ev st x).cells :: ·) else none
def absR (h : List HB) : List (List At) → Option (List (List D) × Bool)
  | [] => some ([], true)
  | a :: as => (absL h a).bind fun x => (absR h as).map fun y => (x.1 :: y.1, x.2 && y.2)
def vcBuildSlice (E : Env) (t len : Nat) (parts : List (Nat × Operand)) (st : St) (k : St → SV → Prop) : Prop :=
  (E.T t).tag = 2 ∧ (E.T (E.T t).elem).tag ≠ 0 ∧ len = parts.length ∧ len * (E.T (E.T t).elem).size ≤ 16777216 ∧
  match partsC st 0 parts with
  | some cs => nodupN (idsL cs.flatten) = true ∧ (match absR (frzH st.h (idsL cs.flatten)) cs with
    | some (rows, lin) => uni (E.T (E.T t).elem).size rows ∧ k ⟨st.t, goneH (frzH st.h (idsL cs.flatten)) (idsL cs.flatten) ++ [.row (E.T t).elem (E.T (E.T t).elem).size rows lin]⟩ (.o (.s st.h.length))
    | none => False)
  | none => False

def killA (id : Nat) : At → At
  | .s j => if j = id then .u else .s j
  | .p j off => if j = id then .u else .p j off
  | .r j sz i fo => if j = id then .u else .r j sz i fo
  | .e j sz i fo => if j = id then .u else .e j sz i fo
  | .n j sz i fo => if j = id then .u else .n j sz i fo
  | a => a
def killS (id : Nat) : SV → SV
  | .o a => .o (killA id a)
  | .g cs => .g (cs.map (killA id))
  | .t l => .t (l.map fun x => (x.1, x.2.map (killA id)))
def killB (id : Nat) : HB → HB
  | .box ty cs => .box ty (cs.map (killA id))
  | b => b
/-- What an append adds: the rows, whether they are nobody else's, whose they were. -/
def srcR (st : St) : SV → Option (List (List D) × Bool × List Nat)
  | .o (.s id) => match nthH st.h id with
    | .row _ _ rows lin => some (rows, lin, [id])
    | .frz rows lin => some (rows, lin, [id])
    | _ => none
  | .o (.d (.sl rows)) => some (rows, flatB rows, [])
  | .o .z => some ([], true, [])
  | _ => none
def vcAppend (E : Env) (t : Nat) (s x : SV) (st : St) (k : St → SV → Prop) : Prop :=
  (E.T t).tag = 2 ∧ (E.T (E.T t).elem).tag ≠ 0 ∧
  match srcR st x with
  | some (rows2, lin2, ids) => uni (E.T (E.T t).elem).size rows2 ∧ (match s with
    | .o (.s id) => match nthH st.h id with
      | .row ty sz rows lin => ty = (E.T t).elem ∧ sz = (E.T (E.T t).elem).size ∧ memN id ids = false ∧ rows.length + rows2.length ≤ maxLen ∧ (rows.length + rows2.length) * (E.T (E.T t).elem).bytes ≤ 140737488355328 ∧
        k ⟨st.t.map (killS id), setH ((goneH (frzH st.h ids) ids).map (killB id)) id (.row ty sz (rows ++ rows2) (lin && lin2))⟩ (.o (.s id))
      | _ => False
    | .o .z => rows2.length ≤ maxLen ∧ rows2.length * (E.T (E.T t).elem).bytes ≤ 140737488355328 ∧
        k ⟨st.t, goneH (frzH st.h ids) ids ++ [.row (E.T t).elem (E.T (E.T t).elem).size rows2 lin2]⟩ (.o (.s st.h.length))
    | _ => False)
  | none => False
def vcMake (E : Env) (t : Nat) (l c : SV) (st : St) (k : St → SV → Prop) : Prop :=
  (E.T t).tag = 2 ∧ (E.T (E.T t).elem).tag ≠ 0 ∧
  match l, c with
  | .o (.d (.v (.int .i64 n))), .o (.d (.v (.int .i64 m))) => n = m ∧ 0 ≤ n ∧ n.toNat ≤ maxLen ∧ n.toNat * (E.T (E.T t).elem).bytes ≤ 140737488355328 ∧
    (match absL [] (E.T (E.T t).elem).zero with
    | some (z, l) => l = true ∧ k ⟨st.t, st.h ++ [.row (E.T t).elem (E.T (E.T t).elem).size (List.replicate n.toNat z) true]⟩ (.o (.s st.h.length))
    | none => False)
  | _, _ => False
def vcStoreRow (E : Env) (t id sz i fo : Nat) (v : SV) (st : St) (k : St → SV → Prop) : Prop :=
  (E.T t).tag ≠ 0 ∧ boxable v = true ∧ v.cells.length = (E.T t).size ∧ nodupN (idsL v.cells) = true ∧ memN id (idsL v.cells) = false ∧
  match nthH st.h id, absL (frzH st.h (idsL v.cells)) v.cells with
  | .row ty sz' rows lin, some (ds, l2) => match splice (rwAt rows i) fo ds with
    | some r => sz' = sz ∧ i < rows.length ∧ k ⟨st.t, setH (goneH (frzH st.h (idsL v.cells)) (idsL v.cells)) id (.row ty sz' (rows.set i r) (lin && l2))⟩ (.t [])
    | none => False
  | _, _ => False
/-- The cells of a captured variable, as data. -/
def capD (h : List HB) : List At → Option (List D)
  | [] => some []
  | .d x :: cs => (capD h cs).map (x :: ·)
  | .z :: cs => (capD h cs).map (.sl [] :: ·)
  | .s id :: cs => match nthH h id with
    | .frz rows _ => (capD h cs).map (.sl rows :: ·)
    | _ => none
  | _ :: _ => none
def capA (id : Nat) (ds : List D) : At → At
  | .p j off => if j = id then .q (ds.drop off) else .p j off
  | a => a
def capS (id : Nat) (ds : List D) : SV → SV
  | .o a => .o (capA id ds a)
  | .g cs => .g (cs.map (capA id ds))
  | .t l => .t (l.map fun x => (x.1, x.2.map (capA id ds)))
def capB (id : Nat) (ds : List D) : HB → HB
  | .box ty cs => .box ty (cs.map (capA id ds))
  | b => b
/-- Captured variables: from now on they are only read. -/
def capAll (E : Env) : St → List Operand → Option (St × List (List D))
  | st, [] => some (st, [])
  | st, c :: cs => match ev st c with
    | .o (.q ds) => (capAll E st cs).map fun r => (r.1, ds :: r.2)
    | .o (.p id 0) => match nthH st.h id with
      | .box _ b => match capD (frzH st.h (idsL b)) b with
        | some ds => (capAll E ⟨st.t.map (capS id ds), (setH (frzH st.h (idsL b)) id .gone).map (capB id ds)⟩ cs).map fun r => (r.1, ds :: r.2)
        | none => none
      | _ => none
    | _ => none
def vcMakeFunc (E : Env) (f : Nat) (caps : List Operand) (st : St) (k : St → SV → Prop) : Prop :=
  match capAll E st caps with
  | some (st', ds) => k st' (.o (.f f ds))
  | none => False

def vcCall (E : Env) (c : Call) (st : St) (k : St → SV → Prop) : Prop :=
  match c.callee with
  | .value f => match ev st f with
    | .o (.f fn caps) => CallT E fn (c.args.toList.map (ev st) ++ caps.map (fun cs => .o (.q cs))) st k ⟨⟩
    | _ => False
  | .builtin .len => match c.args.toList, c.argTypes.toList with
    | [x], [t] => vcLen E t (ev st x) st k
    | _, _ => False
  | .builtin .append => match c.args.toList, c.argTypes.toList with
    | [s, x], [t, t'] => t = t' ∧ vcAppend E t (ev st s) (ev st x) st k
    | _, _ => False
  | _ => False

def vcOp (E : Env) (op : Op) (st : St) (k : St → SV → Prop) : Prop :=
  match op with
  | .move x => k st (ev st x)
  | .assign x => k st (ev st x)
  | .pick c x y => vcPick (ev st c) (k st (ev st x)) (k st (ev st y)) ⟨⟩ ⟨⟩
  | .alloc t => (E.T t).tag ≠ 0 ∧ k (st.push (.box t (E.T t).zero)) (.o (.p st.h.length 0))
  | .box t x => boxable (ev st x) = true ∧ k (st.push (.box t (ev st x).cells)) (.o (.p st.h.length 0))
  | .load t x => vcLoad E t (ev st x) st k
  | .store t x v => match ev st x with
    | .o (.r id sz i fo) => vcStoreRow E t id sz i fo (ev st v) st k
    | .o (.e id sz i fo) => vcStoreOwn E t id sz i fo (ev st v) st k
    | _ => vcStore E t (ev st x) (ev st v) st k
  | .fieldAddr t x f => vcFieldAddr E t (ev st x) f st k
  | .field t x f => vcField E t (ev st x) f st k
  | .indexAddr t x i => vcIndexAddr E t (ev st x) (ev st i) st k
  | .index t x i => vcIndex E t (ev st x) (ev st i) st k
  | .binOp op t x y _ => vcBin E op t (ev st x) (ev st y) st k
  | .unOp op _ x => vcUn op (ev st x) st k
  | .convert s d x => match ev st x with
    | .o (.d (.v (.int kd n))) => vcConv E s d (.o (.d (.v (.int kd n)))) st k
    | y => vcConvS E s d y st k
  | .slice t x lo hi mx => vcSlice E t (ev st x) lo hi mx st k
  | .extract x i => vcExtract (ev st x) i st k
  | .build t parts => vcBuild E t parts.toList st k
  | .buildSlice t len parts => vcBuildSlice E t len parts.toList st k
  | .makeSlice t l c => vcMake E t (ev st l) (ev st c) st k
  | .makeFunc fn first caps => match fn with
    | .func f => first.toList = [] ∧ vcMakeFunc E f caps.toList st k
    | _ => False
  | .call c => vcCall E c st k
  | _ => False
end Go.Sx
