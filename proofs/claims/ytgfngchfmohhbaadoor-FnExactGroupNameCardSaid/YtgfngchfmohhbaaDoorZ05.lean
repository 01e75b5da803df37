/- Joined texts. -/
import Derived.Test.YtgfngchfmohhbaaDoorZ04
import Derived.KernelRfl
import Derived.Test.YtgfngchfmohhbaaDoorProg
import Derived.ProofKit
import Derived.Test.YtgfngchfmohhbaaDoorRows
import Derived.OpenShut
set_option linter.all false
section
section
set_option linter.all false
namespace Go.Sx
open Go Go.RowKit
inductive Plan where
 | node : List (Nat × Plan) → Plan
def a0h (ops : List Oper) : Nat → Array Bool → List (Nat × Plan) → Bool
 | 0, listed, l => (Region.ready .any ops.toArray listed).isEmpty && l.isEmpty
 | n + 1, listed, l => decide (Region.ready .any ops.toArray listed = l.map (·.1)) && l.all fun p => match p.2 with
  | .node r => a0h ops n (listed.setIfInBounds p.1 true) r
section
variable {E : Env}
def qM (E : Env) (ops : List Oper) : Nat → List (Nat × Plan) → St → (St → Prop) → Prop
 | 0, _, st, K => K st
 | _ + 1, [], st, K => K st
 | n + 1, l, st, K => ∀ p ∈ l, match p.2 with
  | .node r => match ops[p.1]? with
   | some o => dU E ops [o] st fun st' => qM E ops n r st' K
   | none => False
end
structure vcPT (E : Env) (all : List Oper) (n : Nat) (l : List (Nat × Plan)) (st : St) (K : St → Prop) (t : Tie (all, l, K)) : Prop where
 out : qM E all n l st K
structure vcPL (E : Env) (all : List Oper) (n : Nat) (l : List (Nat × Plan)) (st : St) (K : St → Prop) (t : Tie (all, l, K)) : Prop where
 out : ∀ p ∈ l, match p.2 with
  | .node r => match all[p.1]? with
   | some o => dU E all [o] st fun st' => qM E all n r st' K
   | none => False
def a0U (E : Env) (all : List Oper) (i : Nat) (st : St) (k : St → Prop) (_ : Tie k) : Prop := match pJ all i with
 | some o => kP E all o st k ⟨⟩
 | none => False
section
variable {E : Env}
end
attribute [go_sem] a0U
end Go.Sx
end
section
set_option linter.all false
namespace Go.Sx
open Go Go.RowKit
def yP (ds : List Nat) (o : Oper) : Bool := match o.op with
 | .call _ => (match o.dst with | some d => lH d ds | none => false)
 | _ => false
def wQ (ds : List Nat) (o : Oper) : Bool := lU o || yP ds o
def rdX (ds : List Nat) : List Oper → List Oper
 | [] => []
 | o :: r => if wQ ds o then rdX ds r else o :: rdX ds r
def yQ : List Oper → List Oper
 | [] => []
 | o :: r => if lU o then yQ r else o :: yQ r
structure CallG (E : Env) (f : Nat) (args : List SV) (h : List HB) (k : List HB → SV → Prop) (t : Tie k) : Prop where
 out : ∃ h' s, (∀ T, CallS E f args ⟨T, h⟩ fun st2 s2 => st2 = ⟨T, h'⟩ ∧ s2 = s) ∧ k h' s
theorem CallG.frz {E : Env} {f : Nat} {args args' : List SV} {res : SV} {h : List HB} {k : List HB → SV → Prop} (hf : FnC E.P f args' res) (he : args.map (dI (aP h (gD args))) = args') (hfree : args'.all cB = true) (hk : k (aP h (gD args) ++ adH res.all) (adS (aP h (gD args)).length res)) : CallG E f args h k ⟨⟩ :=
 ⟨_, _, fun T => CallS.frz (st := ⟨T, h⟩) hf he hfree ⟨rfl, rfl⟩, hk⟩
theorem CallG.lend {E : Env} {f : Nat} {args args' : List SV} {res : SV} {h : List HB} {k : List HB → SV → Prop} (hf : FnC E.P f args' res) (he : args.map (eD h) = args') (hfree : args'.all cB = true) (hres : res.all.all pK = true) (hk : k (h ++ adG (fun _ => none) 0 res.all) (adS h.length res)) : CallG E f args h k ⟨⟩ :=
 ⟨_, _, fun T => CallS.lend (st := ⟨T, h⟩) hf he hfree hres ⟨rfl, rfl⟩, hk⟩
def yR (E : Env) (o : Oper) (st : St) (k : List HB → SV → Prop) : Prop := match o.op with
 | .call c => (match c.callee with
  | .value f => (match ev st f with
   | .o (.f fn caps) => CallG E fn (c.args.toList.map (ev st) ++ caps.map (fun cs => .o (.q cs))) st.h k ⟨⟩
   | _ => False)
  | _ => False)
 | _ => False
def yS (all : List Oper) (i : Nat) (f : Oper → Bool) : Bool := match all[i]? with
 | some o => f o
 | none => true
def onE (o : Oper) (j : Nat) : Bool := o.after.any fun e => Region.binds .any e && e.on == j
def a1k (all : List Oper) (ps ds : List Nat) : Bool :=
 (List.range all.length).all fun i => yS all i fun o =>
  (match o.guard with | none => true | some (j, _) => !wQ ds o && onE o j && (match all[j]? with | some p => p.dst.isSome | none => false)) && (o.after.all fun e => !Region.binds .any e || decide (e.on < i)) && (wQ ds o == ps.contains i) &&
  (match o.dst with | none => lU o | some d => !lU o) &&
  ((List.range all.length).all fun j => yS all j fun p => match p.dst with
   | none => true
   | some d => ((nA (opL o.op)).all fun t => t != d || onE o j) && (j == i || o.dst != some d))
def a0V : List Nat → List Oper → Bool
 | [], _ => true
 | p :: r, all => (r.all fun q => decide (p < q) && yS all q fun o => onE o p) && a0V r all
def a0W (all : List Oper) (listed : Array Bool) (d : Nat) : Bool := (List.range all.length).any fun j => !listed.getD j true && (match all[j]? with | some o => o.dst == some d | none => false)
def a1u (all : List Oper) (listed : Array Bool) (T : List SV) : List SV := (List.range T.length).map fun d => if a0W all listed d then .o .u else nth T d
section
variable {E : Env}
def a0i (E : Env) (st : St) : List Oper → Prop
 | [] => True
 | o :: r => (match o.dst with
  | some d => vcD E o.op (ev st) st.h fun s => s = nth st.t d
  | none => False) ∧ a0i E st r
def a0j (E : Env) (all : List Oper) (st : St) (o : Oper) (d : Nat) : Prop := match o.guard with
 | none => vcD E o.op (ev st) st.h fun s => s = nth st.t d
 | some (j, b) => aU (fJ all j st) b (vcD E o.op (ev st) st.h fun s => s = nth st.t d) (SV.t [] = nth st.t d) ⟨⟩ ⟨⟩
def wR (E : Env) (all : List Oper) (st : St) : List Oper → Prop
 | [] => True
 | o :: r => (match o.dst with
  | some d => a0j E all st o d
  | none => False) ∧ wR E all st r
def yT (E : Env) (o : Oper) (st : St) (k : St → Prop) : Prop := if lU o then aZ E o.op st fun st' _ => k st' else yR E o st fun h' s => (match o.dst with | some d => s = nth st.t d | none => False) ∧ k ⟨st.t, h'⟩
def xL (E : Env) (all : List Oper) (ds : List Nat) : List Nat → St → (St → Prop) → Prop
 | [], st, K => wR E all st (rdX ds all) ∧ K st
 | p :: r, st, K => wR E all st (rdX ds all) ∧ ∃ o, all[p]? = some o ∧ yT E o st fun st' => xL E all ds r st' K
def a1v (all : List Oper) (listed : Array Bool) : Nat := ((List.range all.length).filter fun j => !listed.getD j true).length
def yU (E : Env) (ds : List Nat) (all : List Oper) (o : Oper) (st : St) (k : St → Prop) : Prop := if yP ds o then yR E o st fun h' s => k ⟨(st.put o.dst s).t, h'⟩ else sop E all o st k
def yV (E : Env) (ds : List Nat) (all : List Oper) : List Oper → St → (St → Prop) → Prop
 | [], st, K => K st
 | o :: r, st, K => yU E ds all o st fun st' => yV E ds all r st' K
end
structure vcStT (E : Env) (all l : List Oper) (ds ps : List Nat) (st : St) (K : St → Prop) (t : Tie (all, l, K)) : Prop where
 out : rdX ds all = l → xL E all ds ps st K
structure vcGRun (E : Env) (ds : List Nat) (all l : List Oper) (st : St) (K : St → Prop) (t : Tie (all, l, K)) : Prop where
 out : yV E ds all l st K
def nS (E : Env) (ds : List Nat) (all : List Oper) (o : Oper) (st : St) (k : St → Prop) (_ : Tie k) : Prop := yU E ds all o st k
def a0k (E : Env) (all : List Oper) (i : Nat) (st : St) (k : St → Prop) (_ : Tie k) : Prop := match pJ all i with
 | some o => yT E o st k
 | none => False
section
variable {E : Env}
theorem sQ {ds : List Nat} {all r : List Oper} {o : Oper} {st : St} {K : St → Prop} (h : nS E ds all o st (fun st' => vcGRun E ds all r st' K ⟨⟩) ⟨⟩) : vcGRun E ds all (o :: r) st K ⟨⟩ := by
 have e : (fun st' => vcGRun E ds all r st' K ⟨⟩) = (fun st' => yV E ds all r st' K) := funext fun s => propext ⟨fun h => h.out, fun h => ⟨h⟩⟩
 rw [e] at h
 exact ⟨h⟩
theorem uU {ds : List Nat} {all : List Oper} {st : St} {K : St → Prop} (h : K st) : vcGRun E ds all [] st K ⟨⟩ := ⟨h⟩
end
attribute [go_sem] a0i a0j wR a0k rdX yQ wQ yP yT yR nS yU
end Go.Sx
end
section
set_option linter.all false
namespace Go.Sx
open Go Go.RowKit
def wS (G : St) (F : Ex → St → Prop) : Ex → St → Prop
 | .normal, s => s.le G ∧ G.okB = true
 | .exit j, s => F (.exit j) s
 | .ret, s => F .ret s
def a0X (c : Code) (st : St) (M : List (Nat × SV)) (H : List (Nat × HB)) : St := ⟨mds (fgt st.t (mQ c)) M, mhs st.h H⟩
section
variable {P : Program} {C : Ctx} {ks : List Kn} {F : Ex → St → Prop} {st : St}
theorem wT {G s : St} (h : F .ret s) : wS G F .ret s := h
theorem uV {G s : St} {j : Nat} (h : F (.exit j) s) : wS G F (.exit j) s := h
end
attribute [go_sem] a0X
end Go.Sx
end
section
set_option linter.all false
namespace Go.Sx
open Go Go.RowKit
def Nm (P : Prop) : Prop := P
theorem mX {P : Prop} (h : P) : Nm P := h
def Ar (P : Prop) : Prop := P
theorem aO {P Q : Prop} (h : Q) (p : P := by omega) : P ∧ Q := ⟨p, h⟩
class Nx (P : Prop) (Q : outParam Prop) : Prop where
 nx : Q → P
class Ny (P : Prop) (Q : outParam Prop) : Prop where
 ny : Q → P
instance {P Q : Prop} [i : Nx P Q] : Ny P Q := ⟨i.nx⟩
theorem nY {P Q : Prop} [i : Ny P Q] (h : Q) : P := i.ny h
structure cndK (s : SV) (A B : Prop) (t : Tie (A, B)) : Prop where
 out : ∃ b, s = .o (.d (.v (.bool b))) ∧ (b = true → A) ∧ (b = false → B)
theorem cnd {s : SV} {A B : Prop} {b : Bool} (hs : s = .o (.d (.v (.bool b)))) (h1 : b = true → A) (h2 : b = false → B) : cndK s A B ⟨⟩ := ⟨b, hs, h1, h2⟩
instance nCt {A B : Prop} : Nx (cndK (.o (.d (.v (.bool true)))) A B ⟨⟩) A := ⟨fun h => ⟨true, rfl, fun _ => h, fun h => by cases h⟩⟩
instance nCf {A B : Prop} : Nx (cndK (.o (.d (.v (.bool false)))) A B ⟨⟩) B := ⟨fun h => ⟨false, rfl, (fun h => by cases h), fun _ => h⟩⟩
class Cy (P : Program) (f : Nat) (args' : List SV) (res : SV) (G : Prop) (O K : outParam Prop) : Prop where
 cl : FnC P f args' res → O → K → G
theorem cP {P : Program} {f : Nat} {args' : List SV} {res : SV} {G O K : Prop} [i : Cy P f args' res G O K] (h : FnC P f args' res) (k : K) (o : O := by simp only [go_sem, and_self] <;> fail) : G := i.cl h o k
section
variable {P : Program} {C : Ctx} {F : Ex → St → Prop} {st : St} {ks : List Kn}
instance nRet : Nx (WP P C .ret (aK P C ks F) st) (aK P C ks F .ret st) := ⟨yH⟩
instance nSkip : Nx (WP P C .skip (aK P C ks F) st) (aK P C ks F .normal st) := ⟨wF⟩
instance nExit {id : Nat} : Nx (WP P C (.exit id) (aK P C ks F) st) (aK P C ks F (.exit id) st) := ⟨wG⟩
instance nSeq {x y : Code} : Nx (WP P C (.seq x y) (aK P C ks F) st) (WP P C x (aK P C (.code y :: ks) F) st) := ⟨yG⟩
instance nBlock {id : Nat} {c : Code} : Nx (WP P C (.block id c) (aK P C ks F) st) (WP P C c (aK P C (.blk id :: ks) F) st) := ⟨uK⟩
instance nCode {c : Code} : Nx (aK P C (.code c :: ks) F .normal st) (WP P C c (aK P C ks F) st) := ⟨yI⟩
instance nBlk {id : Nat} : Nx (aK P C (.blk id :: ks) F .normal st) (aK P C ks F .normal st) := ⟨a0c⟩
instance nCodeRet {c : Code} : Nx (aK P C (.code c :: ks) F .ret st) (aK P C ks F .ret st) := ⟨qC⟩
instance nBlkRet {id : Nat} : Nx (aK P C (.blk id :: ks) F .ret st) (aK P C ks F .ret st) := ⟨sK⟩
instance nCodeExit {c : Code} {j : Nat} : Nx (aK P C (.code c :: ks) F (.exit j) st) (aK P C ks F (.exit j) st) := ⟨oU⟩
instance nBlkExit {id : Nat} : Nx (aK P C (.blk id :: ks) F (.exit id) st) (aK P C ks F .normal st) := ⟨jQ⟩
theorem kD {id j : Nat} (h : aK P C ks F (.exit j) st) (hn : j ≠ id := by decide) : aK P C (.blk id :: ks) F (.exit j) st := iY hn h
instance nNil {e : Ex} : Nx (aK P C [] F e st) (F e st) := ⟨a0d⟩
instance nLRet {α : Type} {I : α → St} {Q : α → Prop} {μ : α → Nat} {x : α} : Nx (jF I Q μ x F .ret st) (F .ret st) := ⟨zW⟩
instance nLExit {α : Type} {I : α → St} {Q : α → Prop} {μ : α → Nat} {x : α} {j : Nat} : Nx (jF I Q μ x F (.exit j) st) (F (.exit j) st) := ⟨xY⟩
instance nCRet {G s : St} : Nx (wS G F .ret s) (F .ret s) := ⟨wT⟩
instance nCExit {G s : St} {j : Nat} : Nx (wS G F (.exit j) s) (F (.exit j) s) := ⟨uV⟩
end
section
variable {E : Env} {all r : List Oper} {o : Oper} {st : St} {K : St → Prop}
instance nRun : Nx (vcRun E all (o :: r) st K ⟨⟩) (Nm (kP E all o st (fun st' => vcRun E all r st' K ⟨⟩) ⟨⟩)) := ⟨tZ⟩
instance nRun0 : Nx (vcRun E all [] st K ⟨⟩) (K st) := ⟨vV⟩
instance nDrun : Nx (vcDRun E all (o :: r) st K ⟨⟩) (Nm (nC E all o st (fun st' => vcDRun E all r st' K ⟨⟩) ⟨⟩)) := ⟨rY⟩
instance nDrun0 : Nx (vcDRun E all [] st K ⟨⟩) (K st) := ⟨uA⟩
instance nGrun {ds : List Nat} : Nx (vcGRun E ds all (o :: r) st K ⟨⟩) (Nm (nS E ds all o st (fun st' => vcGRun E ds all r st' K ⟨⟩) ⟨⟩)) := ⟨sQ⟩
instance nGrun0 {ds : List Nat} : Nx (vcGRun E ds all [] st K ⟨⟩) (K st) := ⟨uU⟩
end
end Go.Sx
end
section
set_option linter.all false
namespace Go.Sx
open Go Go.RowKit
end Go.Sx
end
end
section
namespace Go.Sx
open Go Go.RowKit
structure Hd (Q : Prop) : Prop where
 out : Q
theorem uW {P Q : Prop} (h : Q) (t : Hd Q → P := by intro h; (repeat' (with_reducible first | refine nY ?_ | (refine mX ?_; try simp only [go_sem]) | refine kD ?_ | refine rD ?_ | refine aO ?_ | fail)); exact h.out) : P := t ⟨h⟩
theorem sS {C0 : Prop} (c0 : C0) {P Q : Prop} (h : Q) (t : C0 → Hd Q → P := by intro c0 h; (repeat' (with_reducible first | refine nY ?_ | (refine mX ?_; try simp only [go_sem]) | refine kD ?_ | refine rD ?_ | refine cP c0 ?_ | refine aO ?_ | fail)); exact h.out) : P := t c0 ⟨h⟩
theorem wU {P Q : Prop} (h : Q) (t : Hd Q → P := by intro h; (repeat' (with_reducible first | refine nY ?_ | (refine mX ?_; try simp only [go_sem, q0]) | refine kD ?_ | refine rD ?_ | refine aO ?_ | fail)); exact h.out) : P := t ⟨h⟩
theorem yX {C0 : Prop} (c0 : C0) {P Q : Prop} (h : Q) (t : C0 → Hd Q → P := by intro c0 h; (repeat' (with_reducible first | refine nY ?_ | (refine mX ?_; try simp only [go_sem, q0]) | refine kD ?_ | refine rD ?_ | refine cP c0 ?_ | refine aO ?_ | fail)); exact h.out) : P := t c0 ⟨h⟩
theorem a0Y {C0 : Prop} (c0 : C0) {C1 : Prop} (c1 : C1) {C2 : Prop} (c2 : C2) {C3 : Prop} (c3 : C3) {P Q : Prop} (h : Q) (t : C0 → C1 → C2 → C3 → Hd Q → P := by intro c0 c1 c2 c3 h; (repeat' (with_reducible first | refine nY ?_ | (refine mX ?_; try simp only [go_sem, q0]) | refine kD ?_ | refine rD ?_ | refine cP c0 ?_ | refine cP c1 ?_ | refine cP c2 ?_ | refine cP c3 ?_ | refine aO ?_ | fail)); exact h.out) : P := t c0 c1 c2 c3 ⟨h⟩
theorem wV {P Q : Prop} (h : Q) (t : Hd Q → P := by intro h; (repeat' (with_reducible first | refine nY ?_ | (refine mX ?_; try simp only [go_sem, q0, q1]) | refine kD ?_ | refine rD ?_ | refine aO ?_ | fail)); exact h.out) : P := t ⟨h⟩
theorem a0l {C0 : Prop} (c0 : C0) {C1 : Prop} (c1 : C1) {P Q : Prop} (h : Q) (t : C0 → C1 → Hd Q → P := by intro c0 c1 h; (repeat' (with_reducible first | refine nY ?_ | (refine mX ?_; try simp only [go_sem, q0, q1]) | refine kD ?_ | refine rD ?_ | refine cP c0 ?_ | refine cP c1 ?_ | refine aO ?_ | fail)); exact h.out) : P := t c0 c1 ⟨h⟩
theorem wW {P Q : Prop} (h : Q) (t : Hd Q → P := by intro h; (repeat' (with_reducible first | refine nY ?_ | (refine mX ?_; try simp only [go_sem, q0, q1, q2]) | refine kD ?_ | refine rD ?_ | refine aO ?_ | fail)); exact h.out) : P := t ⟨h⟩
theorem wX {C0 : Prop} (c0 : C0) {P Q : Prop} (h : Q) (t : C0 → Hd Q → P := by intro c0 h; (repeat' (with_reducible first | refine nY ?_ | (refine mX ?_; try simp only [go_sem, q0, q1, q2]) | refine kD ?_ | refine rD ?_ | refine cP c0 ?_ | refine aO ?_ | fail)); exact h.out) : P := t c0 ⟨h⟩
theorem qN {P Q : Prop} (h : Q) (t : Hd Q → P := by intro h; (repeat' (with_reducible first | refine nY ?_ | (refine mX ?_; try simp only [go_sem, q0, q1, q2, q3]) | refine kD ?_ | refine rD ?_ | refine aO ?_ | fail)); exact h.out) : P := t ⟨h⟩
theorem wY {C0 : Prop} (c0 : C0) {P Q : Prop} (h : Q) (t : C0 → Hd Q → P := by intro c0 h; (repeat' (with_reducible first | refine nY ?_ | (refine mX ?_; try simp only [go_sem, q0, q1, q2, q3, q4]) | refine kD ?_ | refine rD ?_ | refine cP c0 ?_ | refine aO ?_ | fail)); exact h.out) : P := t c0 ⟨h⟩
theorem sU {C0 : Prop} (c0 : C0) {P Q : Prop} (h : Q) (t : C0 → Hd Q → P := by intro c0 h; (repeat' (with_reducible first | refine nY ?_ | (refine mX ?_; try simp only [go_sem, q0, q1, q2, q3, q4, q5]) | refine kD ?_ | refine rD ?_ | refine cP c0 ?_ | refine aO ?_ | fail)); exact h.out) : P := t c0 ⟨h⟩
end Go.Sx
end
section
namespace Go.Proofs.YtgfngchfmohhbaaDoor
open Go Go.Sx Go.RowKit
noncomputable def ttl : List Ty := [.bad,
 .bad,
 ⟨3, 1, 8, [.d (.v (.int .i64 0))], [], 0, .i64⟩,
 ⟨3, 1, 8, [.d (.v (.int .i64 0))], [], 0, .i64⟩,
 ⟨4, 1, 1, [.d (.v (.bool false))], [], 0, .i64⟩,
 ⟨3, 1, 1, [.d (.v (.int .u8 0))], [], 0, .u8⟩,
 ⟨3, 1, 1, [.d (.v (.int .u8 0))], [], 0, .u8⟩,
 ⟨1, 4, 24, [.d (.v (.int .i64 0)), .d (.v (.int .i64 0)), .d (.v (.bool false)), .d (.v (.int .u8 0))], [(0, 2), (1, 3), (2, 4), (3, 6)], 0, .i64⟩,
 ⟨1, 4, 24, [.d (.v (.int .i64 0)), .d (.v (.int .i64 0)), .d (.v (.bool false)), .d (.v (.int .u8 0))], [(0, 2), (1, 3), (2, 4), (3, 6)], 0, .i64⟩,
 ⟨5, 1, 16, [.d (.v (.string ⟨#[]⟩))], [], 0, .i64⟩,
 ⟨5, 1, 16, [.d (.v (.string ⟨#[]⟩))], [], 0, .i64⟩,
 ⟨5, 1, 16, [.d (.v (.string ⟨#[]⟩))], [], 0, .i64⟩,
 .bad,
 .bad,
 .bad,
 .bad,
 .bad,
 .bad,
 .bad,
 .bad,
 .bad,
 .bad,
 ⟨1, 3, 32, [.d (.v (.int .i64 0)), .d (.v (.int .i64 0)), .d (.v (.string ⟨#[]⟩))], [(0, 3), (1, 3), (2, 9)], 0, .i64⟩,
 ⟨1, 3, 32, [.d (.v (.int .i64 0)), .d (.v (.int .i64 0)), .d (.v (.string ⟨#[]⟩))], [(0, 3), (1, 3), (2, 9)], 0, .i64⟩,
 .bad,
 .bad,
 ⟨1, 3, 32, [.d (.v (.int .i64 0)), .d (.v (.int .i64 0)), .d (.v (.string ⟨#[]⟩))], [(0, 3), (1, 3), (2, 9)], 0, .i64⟩,
 .bad,
 .bad,
 ⟨2, 1, 24, [.z], [], 91, .i64⟩,
 ⟨1, 5, 56, [.d (.v (.int .i64 0)), .d (.v (.int .i64 0)), .d (.v (.bool false)), .d (.v (.int .i64 0)), .z], [(0, 3), (1, 3), (2, 4), (3, 3), (4, 29)], 0, .i64⟩,
 ⟨1, 5, 56, [.d (.v (.int .i64 0)), .d (.v (.int .i64 0)), .d (.v (.bool false)), .d (.v (.int .i64 0)), .z], [(0, 3), (1, 3), (2, 4), (3, 3), (4, 29)], 0, .i64⟩,
 .bad,
 .bad,
 ⟨2, 1, 24, [.z], [], 70, .i64⟩,
 ⟨1, 5, 56, [.d (.v (.int .i64 0)), .d (.v (.int .i64 0)), .d (.v (.bool false)), .d (.v (.int .i64 0)), .z], [(0, 3), (1, 3), (2, 4), (3, 3), (4, 34)], 0, .i64⟩,
 ⟨1, 5, 56, [.d (.v (.int .i64 0)), .d (.v (.int .i64 0)), .d (.v (.bool false)), .d (.v (.int .i64 0)), .z], [(0, 3), (1, 3), (2, 4), (3, 3), (4, 34)], 0, .i64⟩,
 .bad,
 .bad,
 .bad,
 ⟨2, 1, 24, [.z], [], 107, .i64⟩,
 ⟨2, 1, 24, [.z], [], 31, .i64⟩,
 ⟨1, 3, 56, [.z, .z, .d (.v (.int .i64 0))], [(0, 40), (1, 41), (2, 3)], 0, .i64⟩,
 ⟨1, 3, 56, [.z, .z, .d (.v (.int .i64 0))], [(0, 40), (1, 41), (2, 3)], 0, .i64⟩,
 ⟨2, 1, 24, [.z], [], 3, .i64⟩,
 .bad,
 .bad,
 ⟨2, 1, 24, [.z], [], 108, .i64⟩,
 ⟨2, 1, 24, [.z], [], 36, .i64⟩,
 ⟨1, 3, 56, [.z, .z, .d (.v (.int .i64 0))], [(0, 47), (1, 48), (2, 3)], 0, .i64⟩,
 ⟨1, 3, 56, [.z, .z, .d (.v (.int .i64 0))], [(0, 47), (1, 48), (2, 3)], 0, .i64⟩,
 .bad,
 .bad,
 .bad,
 .bad,
 .bad,
 .bad,
 .bad,
 .bad,
 ⟨2, 1, 24, [.z], [], 9, .i64⟩,
 .bad,
 .bad,
 .bad,
 .bad,
 .bad,
 .bad,
 .bad,
 .bad,
 .bad,
 ⟨1, 4, 48, [.d (.v (.string ⟨#[]⟩)), .d (.v (.int .i64 0)), .d (.v (.int .i64 0)), .d (.v (.string ⟨#[]⟩))], [(0, 9), (1, 26)], 0, .i64⟩,
 ⟨1, 4, 48, [.d (.v (.string ⟨#[]⟩)), .d (.v (.int .i64 0)), .d (.v (.int .i64 0)), .d (.v (.string ⟨#[]⟩))], [(0, 9), (1, 26)], 0, .i64⟩,
 .bad,
 .bad,
 .bad,
 .bad,
 .bad,
 .bad,
 .bad,
 .bad,
 .bad,
 .bad,
 .bad,
 .bad,
 .bad,
 .bad,
 .bad,
 .bad,
 .bad,
 .bad,
 .bad,
 ⟨1, 4, 48, [.d (.v (.string ⟨#[]⟩)), .d (.v (.int .i64 0)), .d (.v (.int .i64 0)), .d (.v (.string ⟨#[]⟩))], [(0, 9), (1, 23)], 0, .i64⟩,
 ⟨1, 4, 48, [.d (.v (.string ⟨#[]⟩)), .d (.v (.int .i64 0)), .d (.v (.int .i64 0)), .d (.v (.string ⟨#[]⟩))], [(0, 9), (1, 23)], 0, .i64⟩,
 .bad,
 ⟨2, 1, 24, [.z], [], 5, .i64⟩,
 .bad,
 .bad,
 .bad,
 .bad,
 .bad,
 .bad,
 .bad,
 .bad,
 .bad,
 .bad,
 .bad,
 .bad,
 ⟨1, 2, 24, [.d (.v (.string ⟨#[]⟩)), .d (.v (.int .i64 0))], [(0, 9), (1, 3)], 0, .i64⟩,
 ⟨1, 2, 24, [.d (.v (.string ⟨#[]⟩)), .d (.v (.int .i64 0))], [(0, 9), (1, 3)], 0, .i64⟩,
 ⟨1, 2, 24, [.d (.v (.string ⟨#[]⟩)), .d (.v (.int .i64 0))], [(0, 9), (1, 3)], 0, .i64⟩,
 .bad,
 .bad,
 .bad,
 .bad,
 .bad,
 .bad,
 .bad,
 .bad,
 .bad,
 .bad,
 .bad,
 .bad,
 .bad,
 .bad,
 .bad,
 .bad,
 .bad,
 .bad,
 .bad,
 .bad,
 .bad,
 .bad,
 .bad,
 .bad,
 .bad,
 .bad,
 .bad,
 .bad,
 .bad,
 .bad,
 .bad,
 .bad,
 .bad,
 .bad,
 .bad,
 .bad,
 .bad,
 .bad,
 .bad,
 .bad,
 .bad,
 .bad,
 .bad,
 .bad,
 ⟨3, 1, 1, [.d (.v (.int .u8 0))], [], 0, .u8⟩,
 ⟨3, 1, 1, [.d (.v (.int .u8 0))], [], 0, .u8⟩,
 .bad,
 .bad,
 .bad,
 .bad,
 .bad]
noncomputable def tt : Nat → Ty := fun t => ttl.getD t .bad
theorem vM : TyOK Tryd.prog tt := TyOK.of_list (by kernel_rfl)
theorem tts : tt 2 = ⟨3, 1, 8, [.d (.v (.int .i64 0))], [], 0, .i64⟩ ∧ tt 3 = ⟨3, 1, 8, [.d (.v (.int .i64 0))], [], 0, .i64⟩ ∧ tt 4 = ⟨4, 1, 1, [.d (.v (.bool false))], [], 0, .i64⟩ ∧ tt 5 = ⟨3, 1, 1, [.d (.v (.int .u8 0))], [], 0, .u8⟩ ∧ tt 6 = ⟨3, 1, 1, [.d (.v (.int .u8 0))], [], 0, .u8⟩ ∧ tt 7 = ⟨1, 4, 24, [.d (.v (.int .i64 0)), .d (.v (.int .i64 0)), .d (.v (.bool false)), .d (.v (.int .u8 0))], [(0, 2), (1, 3), (2, 4), (3, 6)], 0, .i64⟩ ∧ tt 8 = ⟨1, 4, 24, [.d (.v (.int .i64 0)), .d (.v (.int .i64 0)), .d (.v (.bool false)), .d (.v (.int .u8 0))], [(0, 2), (1, 3), (2, 4), (3, 6)], 0, .i64⟩ ∧ tt 9 = ⟨5, 1, 16, [.d (.v (.string ⟨#[]⟩))], [], 0, .i64⟩ ∧ tt 10 = ⟨5, 1, 16, [.d (.v (.string ⟨#[]⟩))], [], 0, .i64⟩ ∧ tt 11 = ⟨5, 1, 16, [.d (.v (.string ⟨#[]⟩))], [], 0, .i64⟩ ∧ tt 22 = ⟨1, 3, 32, [.d (.v (.int .i64 0)), .d (.v (.int .i64 0)), .d (.v (.string ⟨#[]⟩))], [(0, 3), (1, 3), (2, 9)], 0, .i64⟩ ∧ tt 23 = ⟨1, 3, 32, [.d (.v (.int .i64 0)), .d (.v (.int .i64 0)), .d (.v (.string ⟨#[]⟩))], [(0, 3), (1, 3), (2, 9)], 0, .i64⟩ ∧ tt 26 = ⟨1, 3, 32, [.d (.v (.int .i64 0)), .d (.v (.int .i64 0)), .d (.v (.string ⟨#[]⟩))], [(0, 3), (1, 3), (2, 9)], 0, .i64⟩ ∧ tt 29 = ⟨2, 1, 24, [.z], [], 91, .i64⟩ ∧ tt 30 = ⟨1, 5, 56, [.d (.v (.int .i64 0)), .d (.v (.int .i64 0)), .d (.v (.bool false)), .d (.v (.int .i64 0)), .z], [(0, 3), (1, 3), (2, 4), (3, 3), (4, 29)], 0, .i64⟩ ∧ tt 31 = ⟨1, 5, 56, [.d (.v (.int .i64 0)), .d (.v (.int .i64 0)), .d (.v (.bool false)), .d (.v (.int .i64 0)), .z], [(0, 3), (1, 3), (2, 4), (3, 3), (4, 29)], 0, .i64⟩ ∧ tt 34 = ⟨2, 1, 24, [.z], [], 70, .i64⟩ ∧ tt 35 = ⟨1, 5, 56, [.d (.v (.int .i64 0)), .d (.v (.int .i64 0)), .d (.v (.bool false)), .d (.v (.int .i64 0)), .z], [(0, 3), (1, 3), (2, 4), (3, 3), (4, 34)], 0, .i64⟩ ∧ tt 36 = ⟨1, 5, 56, [.d (.v (.int .i64 0)), .d (.v (.int .i64 0)), .d (.v (.bool false)), .d (.v (.int .i64 0)), .z], [(0, 3), (1, 3), (2, 4), (3, 3), (4, 34)], 0, .i64⟩ ∧ tt 40 = ⟨2, 1, 24, [.z], [], 107, .i64⟩ ∧ tt 41 = ⟨2, 1, 24, [.z], [], 31, .i64⟩ ∧ tt 42 = ⟨1, 3, 56, [.z, .z, .d (.v (.int .i64 0))], [(0, 40), (1, 41), (2, 3)], 0, .i64⟩ ∧ tt 43 = ⟨1, 3, 56, [.z, .z, .d (.v (.int .i64 0))], [(0, 40), (1, 41), (2, 3)], 0, .i64⟩ ∧ tt 44 = ⟨2, 1, 24, [.z], [], 3, .i64⟩ ∧ tt 47 = ⟨2, 1, 24, [.z], [], 108, .i64⟩ ∧ tt 48 = ⟨2, 1, 24, [.z], [], 36, .i64⟩ ∧ tt 49 = ⟨1, 3, 56, [.z, .z, .d (.v (.int .i64 0))], [(0, 47), (1, 48), (2, 3)], 0, .i64⟩ ∧ tt 50 = ⟨1, 3, 56, [.z, .z, .d (.v (.int .i64 0))], [(0, 47), (1, 48), (2, 3)], 0, .i64⟩ ∧ tt 59 = ⟨2, 1, 24, [.z], [], 9, .i64⟩ ∧ tt 69 = ⟨1, 4, 48, [.d (.v (.string ⟨#[]⟩)), .d (.v (.int .i64 0)), .d (.v (.int .i64 0)), .d (.v (.string ⟨#[]⟩))], [(0, 9), (1, 26)], 0, .i64⟩ ∧ tt 70 = ⟨1, 4, 48, [.d (.v (.string ⟨#[]⟩)), .d (.v (.int .i64 0)), .d (.v (.int .i64 0)), .d (.v (.string ⟨#[]⟩))], [(0, 9), (1, 26)], 0, .i64⟩ ∧ tt 90 = ⟨1, 4, 48, [.d (.v (.string ⟨#[]⟩)), .d (.v (.int .i64 0)), .d (.v (.int .i64 0)), .d (.v (.string ⟨#[]⟩))], [(0, 9), (1, 23)], 0, .i64⟩ ∧ tt 91 = ⟨1, 4, 48, [.d (.v (.string ⟨#[]⟩)), .d (.v (.int .i64 0)), .d (.v (.int .i64 0)), .d (.v (.string ⟨#[]⟩))], [(0, 9), (1, 23)], 0, .i64⟩ ∧ tt 93 = ⟨2, 1, 24, [.z], [], 5, .i64⟩ ∧ tt 106 = ⟨1, 2, 24, [.d (.v (.string ⟨#[]⟩)), .d (.v (.int .i64 0))], [(0, 9), (1, 3)], 0, .i64⟩ ∧ tt 107 = ⟨1, 2, 24, [.d (.v (.string ⟨#[]⟩)), .d (.v (.int .i64 0))], [(0, 9), (1, 3)], 0, .i64⟩ ∧ tt 108 = ⟨1, 2, 24, [.d (.v (.string ⟨#[]⟩)), .d (.v (.int .i64 0))], [(0, 9), (1, 3)], 0, .i64⟩ ∧ tt 153 = ⟨3, 1, 1, [.d (.v (.int .u8 0))], [], 0, .u8⟩ ∧ tt 154 = ⟨3, 1, 1, [.d (.v (.int .u8 0))], [], 0, .u8⟩ :=
 ⟨rfl, rfl, rfl, rfl, rfl, rfl, rfl, rfl, rfl, rfl, rfl, rfl, rfl, rfl, rfl, rfl, rfl, rfl, rfl, rfl, rfl, rfl, rfl, rfl, rfl, rfl, rfl, rfl, rfl, rfl, rfl, rfl, rfl, rfl, rfl, rfl, rfl, rfl, rfl⟩
def eqk : Nat → List Nat := fun t => if t = 23 then [1, 1, 3] else if t = 26 then [1, 1, 3] else if t = 70 then [3, 1, 1, 3] else if t = 91 then [3, 1, 1, 3] else if t = 107 then [3, 1] else if t = 108 then [3, 1] else []
theorem bD {v : Value} (h : bK v = 1) : ∃ x : Int, v = .int .i64 x := by
 cases v with
 | int k n => cases k <;> simp_all [bK]
 | _ => simp_all [bK]
theorem bN {v : Value} (h : bK v = 3) : ∃ x : ByteArray, v = .string x := by
 cases v with
 | int k n => cases k <;> simp_all [bK]
 | _ => simp_all [bK]
theorem jR {xs : List Value} (h : xs.map bK = [1, 1, 3]) : ∃ (x0 : Int) (x1 : Int) (x2 : ByteArray), xs = [.int .i64 x0, .int .i64 x1, .string x2] := by
 obtain ⟨v0, xs, rfl⟩ : ∃ v l, xs = v :: l := by cases xs with
  | nil => simp at h
  | cons v l => exact ⟨v, l, rfl⟩
 simp only [List.map_cons, List.cons.injEq] at h
 obtain ⟨h0, h⟩ := h
 obtain ⟨v1, xs, rfl⟩ : ∃ v l, xs = v :: l := by cases xs with
  | nil => simp at h
  | cons v l => exact ⟨v, l, rfl⟩
 simp only [List.map_cons, List.cons.injEq] at h
 obtain ⟨h1, h⟩ := h
 obtain ⟨v2, xs, rfl⟩ : ∃ v l, xs = v :: l := by cases xs with
  | nil => simp at h
  | cons v l => exact ⟨v, l, rfl⟩
 simp only [List.map_cons, List.cons.injEq] at h
 obtain ⟨h2, h⟩ := h
 have : xs = [] := by simpa using h
 subst this
 obtain ⟨x0, rfl⟩ := bD h0
 obtain ⟨x1, rfl⟩ := bD h1
 obtain ⟨x2, rfl⟩ := bN h2
 exact ⟨x0, x1, x2, rfl⟩
theorem jS {xs : List Value} (h : xs.map bK = [1, 1, 3]) : ∃ (x0 : Int) (x1 : Int) (x2 : ByteArray), xs = [.int .i64 x0, .int .i64 x1, .string x2] := by
 obtain ⟨v0, xs, rfl⟩ : ∃ v l, xs = v :: l := by cases xs with
  | nil => simp at h
  | cons v l => exact ⟨v, l, rfl⟩
 simp only [List.map_cons, List.cons.injEq] at h
 obtain ⟨h0, h⟩ := h
 obtain ⟨v1, xs, rfl⟩ : ∃ v l, xs = v :: l := by cases xs with
  | nil => simp at h
  | cons v l => exact ⟨v, l, rfl⟩
 simp only [List.map_cons, List.cons.injEq] at h
 obtain ⟨h1, h⟩ := h
 obtain ⟨v2, xs, rfl⟩ : ∃ v l, xs = v :: l := by cases xs with
  | nil => simp at h
  | cons v l => exact ⟨v, l, rfl⟩
 simp only [List.map_cons, List.cons.injEq] at h
 obtain ⟨h2, h⟩ := h
 have : xs = [] := by simpa using h
 subst this
 obtain ⟨x0, rfl⟩ := bD h0
 obtain ⟨x1, rfl⟩ := bD h1
 obtain ⟨x2, rfl⟩ := bN h2
 exact ⟨x0, x1, x2, rfl⟩
theorem jT {xs : List Value} (h : xs.map bK = [3, 1, 1, 3]) : ∃ (x0 : ByteArray) (x1 : Int) (x2 : Int) (x3 : ByteArray), xs = [.string x0, .int .i64 x1, .int .i64 x2, .string x3] := by
 obtain ⟨v0, xs, rfl⟩ : ∃ v l, xs = v :: l := by cases xs with
  | nil => simp at h
  | cons v l => exact ⟨v, l, rfl⟩
 simp only [List.map_cons, List.cons.injEq] at h
 obtain ⟨h0, h⟩ := h
 obtain ⟨v1, xs, rfl⟩ : ∃ v l, xs = v :: l := by cases xs with
  | nil => simp at h
  | cons v l => exact ⟨v, l, rfl⟩
 simp only [List.map_cons, List.cons.injEq] at h
 obtain ⟨h1, h⟩ := h
 obtain ⟨v2, xs, rfl⟩ : ∃ v l, xs = v :: l := by cases xs with
  | nil => simp at h
  | cons v l => exact ⟨v, l, rfl⟩
 simp only [List.map_cons, List.cons.injEq] at h
 obtain ⟨h2, h⟩ := h
 obtain ⟨v3, xs, rfl⟩ : ∃ v l, xs = v :: l := by cases xs with
  | nil => simp at h
  | cons v l => exact ⟨v, l, rfl⟩
 simp only [List.map_cons, List.cons.injEq] at h
 obtain ⟨h3, h⟩ := h
 have : xs = [] := by simpa using h
 subst this
 obtain ⟨x0, rfl⟩ := bN h0
 obtain ⟨x1, rfl⟩ := bD h1
 obtain ⟨x2, rfl⟩ := bD h2
 obtain ⟨x3, rfl⟩ := bN h3
 exact ⟨x0, x1, x2, x3, rfl⟩
theorem jU {xs : List Value} (h : xs.map bK = [3, 1, 1, 3]) : ∃ (x0 : ByteArray) (x1 : Int) (x2 : Int) (x3 : ByteArray), xs = [.string x0, .int .i64 x1, .int .i64 x2, .string x3] := by
 obtain ⟨v0, xs, rfl⟩ : ∃ v l, xs = v :: l := by cases xs with
  | nil => simp at h
  | cons v l => exact ⟨v, l, rfl⟩
 simp only [List.map_cons, List.cons.injEq] at h
 obtain ⟨h0, h⟩ := h
 obtain ⟨v1, xs, rfl⟩ : ∃ v l, xs = v :: l := by cases xs with
  | nil => simp at h
  | cons v l => exact ⟨v, l, rfl⟩
 simp only [List.map_cons, List.cons.injEq] at h
 obtain ⟨h1, h⟩ := h
 obtain ⟨v2, xs, rfl⟩ : ∃ v l, xs = v :: l := by cases xs with
  | nil => simp at h
  | cons v l => exact ⟨v, l, rfl⟩
 simp only [List.map_cons, List.cons.injEq] at h
 obtain ⟨h2, h⟩ := h
 obtain ⟨v3, xs, rfl⟩ : ∃ v l, xs = v :: l := by cases xs with
  | nil => simp at h
  | cons v l => exact ⟨v, l, rfl⟩
 simp only [List.map_cons, List.cons.injEq] at h
 obtain ⟨h3, h⟩ := h
 have : xs = [] := by simpa using h
 subst this
 obtain ⟨x0, rfl⟩ := bN h0
 obtain ⟨x1, rfl⟩ := bD h1
 obtain ⟨x2, rfl⟩ := bD h2
 obtain ⟨x3, rfl⟩ := bN h3
 exact ⟨x0, x1, x2, x3, rfl⟩
theorem gY {xs : List Value} (h : xs.map bK = [3, 1]) : ∃ (x0 : ByteArray) (x1 : Int), xs = [.string x0, .int .i64 x1] := by
 obtain ⟨v0, xs, rfl⟩ : ∃ v l, xs = v :: l := by cases xs with
  | nil => simp at h
  | cons v l => exact ⟨v, l, rfl⟩
 simp only [List.map_cons, List.cons.injEq] at h
 obtain ⟨h0, h⟩ := h
 obtain ⟨v1, xs, rfl⟩ : ∃ v l, xs = v :: l := by cases xs with
  | nil => simp at h
  | cons v l => exact ⟨v, l, rfl⟩
 simp only [List.map_cons, List.cons.injEq] at h
 obtain ⟨h1, h⟩ := h
 have : xs = [] := by simpa using h
 subst this
 obtain ⟨x0, rfl⟩ := bN h0
 obtain ⟨x1, rfl⟩ := bD h1
 exact ⟨x0, x1, rfl⟩
theorem gZ {xs : List Value} (h : xs.map bK = [3, 1]) : ∃ (x0 : ByteArray) (x1 : Int), xs = [.string x0, .int .i64 x1] := by
 obtain ⟨v0, xs, rfl⟩ : ∃ v l, xs = v :: l := by cases xs with
  | nil => simp at h
  | cons v l => exact ⟨v, l, rfl⟩
 simp only [List.map_cons, List.cons.injEq] at h
 obtain ⟨h0, h⟩ := h
 obtain ⟨v1, xs, rfl⟩ : ∃ v l, xs = v :: l := by cases xs with
  | nil => simp at h
  | cons v l => exact ⟨v, l, rfl⟩
 simp only [List.map_cons, List.cons.injEq] at h
 obtain ⟨h1, h⟩ := h
 have : xs = [] := by simpa using h
 subst this
 obtain ⟨x0, rfl⟩ := bN h0
 obtain ⟨x1, rfl⟩ := bD h1
 exact ⟨x0, x1, rfl⟩
set_option maxHeartbeats 1000000 in
theorem zR : EqT Tryd.prog 23 [1, 1, 3] := by
 refine ⟨by decide, fun w xs ys hx hy => ?_, fun w xs ys hx hy => ?_, fun op x y xs ys w => run_eqGuard_agg w op 23 x y xs ys Tryd.eqGuardType23⟩
 ·obtain ⟨x0, x1, x2, hx⟩ := jR hx
  obtain ⟨y0, y1, y2, hy⟩ := jR hy
  subst hx; subst hy
  simp [go_sem, fF, eqV, bF, aR]
  (repeat' split) <;> simp_all
 ·obtain ⟨x0, x1, x2, hx⟩ := jR hx
  obtain ⟨y0, y1, y2, hy⟩ := jR hy
  subst hx; subst hy
  simp [go_sem, fF, eqV, bF, aR]
  (repeat' split) <;> simp_all
set_option maxHeartbeats 1000000 in
theorem zS : EqT Tryd.prog 26 [1, 1, 3] := by
 refine ⟨by decide, fun w xs ys hx hy => ?_, fun w xs ys hx hy => ?_, fun op x y xs ys w => run_eqGuard_agg w op 26 x y xs ys Tryd.eqGuardType26⟩
 ·obtain ⟨x0, x1, x2, hx⟩ := jS hx
  obtain ⟨y0, y1, y2, hy⟩ := jS hy
  subst hx; subst hy
  simp [go_sem, fF, eqV, bF, aR]
  (repeat' split) <;> simp_all
 ·obtain ⟨x0, x1, x2, hx⟩ := jS hx
  obtain ⟨y0, y1, y2, hy⟩ := jS hy
  subst hx; subst hy
  simp [go_sem, fF, eqV, bF, aR]
  (repeat' split) <;> simp_all
set_option maxHeartbeats 1000000 in
theorem zT : EqT Tryd.prog 70 [3, 1, 1, 3] := by
 refine ⟨by decide, fun w xs ys hx hy => ?_, fun w xs ys hx hy => ?_, fun op x y xs ys w => run_eqGuard_agg w op 70 x y xs ys Tryd.eqGuardType70⟩
 ·obtain ⟨x0, x1, x2, x3, hx⟩ := jT hx
  obtain ⟨y0, y1, y2, y3, hy⟩ := jT hy
  subst hx; subst hy
  simp [go_sem, fF, eqV, bF, aR]
  (repeat' split) <;> simp_all
 ·obtain ⟨x0, x1, x2, x3, hx⟩ := jT hx
  obtain ⟨y0, y1, y2, y3, hy⟩ := jT hy
  subst hx; subst hy
  simp [go_sem, fF, eqV, bF, aR]
  (repeat' split) <;> simp_all
set_option maxHeartbeats 1000000 in
theorem zU : EqT Tryd.prog 91 [3, 1, 1, 3] := by
 refine ⟨by decide, fun w xs ys hx hy => ?_, fun w xs ys hx hy => ?_, fun op x y xs ys w => run_eqGuard_agg w op 91 x y xs ys Tryd.eqGuardType91⟩
 ·obtain ⟨x0, x1, x2, x3, hx⟩ := jU hx
  obtain ⟨y0, y1, y2, y3, hy⟩ := jU hy
  subst hx; subst hy
  simp [go_sem, fF, eqV, bF, aR]
  (repeat' split) <;> simp_all
 ·obtain ⟨x0, x1, x2, x3, hx⟩ := jU hx
  obtain ⟨y0, y1, y2, y3, hy⟩ := jU hy
  subst hx; subst hy
  simp [go_sem, fF, eqV, bF, aR]
  (repeat' split) <;> simp_all
set_option maxHeartbeats 1000000 in
theorem xV : EqT Tryd.prog 107 [3, 1] := by
 refine ⟨by decide, fun w xs ys hx hy => ?_, fun w xs ys hx hy => ?_, fun op x y xs ys w => run_eqGuard_agg w op 107 x y xs ys Tryd.eqGuardType107⟩
 ·obtain ⟨x0, x1, hx⟩ := gY hx
  obtain ⟨y0, y1, hy⟩ := gY hy
  subst hx; subst hy
  simp [go_sem, fF, eqV, bF, aR]
  (repeat' split) <;> simp_all
 ·obtain ⟨x0, x1, hx⟩ := gY hx
  obtain ⟨y0, y1, hy⟩ := gY hy
  subst hx; subst hy
  simp [go_sem, fF, eqV, bF, aR]
  (repeat' split) <;> simp_all
set_option maxHeartbeats 1000000 in
theorem xW : EqT Tryd.prog 108 [3, 1] := by
 refine ⟨by decide, fun w xs ys hx hy => ?_, fun w xs ys hx hy => ?_, fun op x y xs ys w => run_eqGuard_agg w op 108 x y xs ys Tryd.eqGuardType108⟩
 ·obtain ⟨x0, x1, hx⟩ := gZ hx
  obtain ⟨y0, y1, hy⟩ := gZ hy
  subst hx; subst hy
  simp [go_sem, fF, eqV, bF, aR]
  (repeat' split) <;> simp_all
 ·obtain ⟨x0, x1, hx⟩ := gZ hx
  obtain ⟨y0, y1, hy⟩ := gZ hy
  subst hx; subst hy
  simp [go_sem, fF, eqV, bF, aR]
  (repeat' split) <;> simp_all
theorem zV : ∀ t, eqk t ≠ [] → EqT Tryd.prog t (eqk t) := by
 intro t h
 unfold eqk at h ⊢
 by_cases e23 : t = 23
 ·subst e23; exact zR
 simp only [e23, if_false] at h ⊢
 by_cases e26 : t = 26
 ·subst e26; exact zS
 simp only [e26, if_false] at h ⊢
 by_cases e70 : t = 70
 ·subst e70; exact zT
 simp only [e70, if_false] at h ⊢
 by_cases e91 : t = 91
 ·subst e91; exact zU
 simp only [e91, if_false] at h ⊢
 by_cases e107 : t = 107
 ·subst e107; exact xV
 simp only [e107, if_false] at h ⊢
 by_cases e108 : t = 108
 ·subst e108; exact xW
 simp only [e108, if_false] at h ⊢
 exact (h rfl).elim
noncomputable def EV (C : Ctx) : Env := ⟨Tryd.prog, tt, C, eqk⟩
theorem a0O (C : Ctx) : (EV C).T = tt := rfl
theorem a0P (C : Ctx) : (EV C).eqk = eqk := rfl
attribute [go_sem] tts a0O a0P eqk
theorem reg {C : Ctx} {id : Nat} {ops : List Oper} {F : Ex → St → Prop} {st : St} (h : vcRun (EV C) ops ops st (F .normal) ⟨⟩) : WP Tryd.prog C (.region id ops.toArray false) F st := rV (E := EV C) vM zV h.out
instance nReg {C : Ctx} {id : Nat} {ops : List Oper} {F : Ex → St → Prop} {st : St} : Ny (WP Tryd.prog C (.region id ops.toArray false) F st) (vcRun (EV C) ops ops st (F .normal) ⟨⟩) := ⟨reg⟩
instance nCond {C : Ctx} {c : Operand} {x y : Code} {F : Ex → St → Prop} {st : St} : Ny (WP Tryd.prog C (.cond c x y) F st) (Nm (cndK (ev st c) (WP Tryd.prog C x F st) (WP Tryd.prog C y F st) ⟨⟩)) := ⟨fun h => by obtain ⟨b, hs, h1, h2⟩ := h; exact vN (E := EV C) hs h1 h2⟩
instance clT {C : Ctx} {f : Nat} {args args' : List SV} {res : SV} {st : St} {K : St → SV → Prop} : Cy Tryd.prog f args' res (CallT (EV C) f args st K ⟨⟩) (args.map (dI (aP st.h (gD args))) = args' ∧ args'.all cB = true) (Nm (K ⟨st.t, aP st.h (gD args) ++ adH res.all⟩ (adS (aP st.h (gD args)).length res))) := ⟨fun h o k => ⟨CallS.frz (E := EV C) h o.1 o.2 k⟩⟩
instance clD {C : Ctx} {f : Nat} {args args' : List SV} {res : SV} {h : List HB} {k : SV → Prop} : Cy Tryd.prog f args' res (CallD (EV C) f args h k ⟨⟩) ((args.map (dI h) = args' ∧ args'.all cB = true) ∧ res.all.all isD = true) (Nm (k res)) := ⟨fun hf o hk => CallD.of_fn (E := EV C) hf o.1.1 o.1.2 o.2 hk⟩
instance clG {C : Ctx} {f : Nat} {args args' : List SV} {res : SV} {h : List HB} {k : List HB → SV → Prop} : Cy Tryd.prog f args' res (CallG (EV C) f args h k ⟨⟩) (args.map (dI (aP h (gD args))) = args' ∧ args'.all cB = true) (Nm (k (aP h (gD args) ++ adH res.all) (adS (aP h (gD args)).length res))) := ⟨fun hf o hk => CallG.frz (E := EV C) hf o.1 o.2 hk⟩
theorem fol : Tryd.prog.follows .mixedOrders = true := by kernel_rfl
theorem a0Q {C : Ctx} {id : Nat} {ops : List Oper} {F : Ex → St → Prop} {st : St} (hB : Region.lexB .any ops.toArray = true) (h : vcDRun (EV C) ops ops st (F .normal) ⟨⟩) : WP Tryd.prog C (.region id ops.toArray true) F st := vU (E := EV C) vM zV fol hB h.out
theorem ent {f : Nat} {fn : Func} {c : Code} {rs : List ResultVar} {args : List SV} {res : SV} (hf : Tryd.prog.funcs[f]? = some fn) (hb : fn.body = some c) (hcall : ∀ x w, (callFunc f x).run Tryd.prog w = .ok (.enter f x) w) (hres : fn.results = rs.toArray)
    (h : ∀ C : Ctx, WP Tryd.prog C c (aK Tryd.prog C [] (xX (EV C) rs res)) (st0 args fn.ntmps)) : FnC Tryd.prog f args res := FnC.of_wp (eqk := eqk) vM hf hb hcall hres fun C _ => h C
theorem rD {C : Ctx} {id : Nat} {ops : List Oper} {F : Ex → St → Prop} {st : St} (h : vcDRun (EV C) ops ops st (F .normal) ⟨⟩) (hB : Region.lexB .any ops.toArray = true := by kernel_rfl) : WP Tryd.prog C (.region id ops.toArray true) F st := a0Q hB h
end Go.Proofs.YtgfngchfmohhbaaDoor
end
section
section
set_option linter.all false
namespace Go.Sx
open Go Go.RowKit
def V0 (w : World) : View := fun b => match w.heap[b]? with
 | some (.cells c _ _) => some c.toList
 | _ => none
theorem zL (w : World) : Mod (V0 w) w := fun b cs h => by
 unfold V0 at h
 split at h
 ·rename_i c t f e
  cases h
  exact ⟨c, t, f, e, List.prefix_refl _⟩
 ·cases h
theorem xG {w : World} {a : Addr} {y : Value} (h : w.cell? a = some y) : (V0 w).cell a = some y := by
 unfold World.cell? at h
 unfold View.cell V0
 split at h
 ·rename_i c t f e
  by_cases hs : a.spot.isSome
  ·rw [if_pos hs] at h; cases h
  ·rw [if_neg hs] at h ⊢
   rw [e]
   simpa using h
 ·cases h
def mH (T : Nat → Ty) : Nat → List (Nat × Nat) → Option Nat
 | o, [] => some o
 | o, p :: r => if p.1 = o ∧ (T p.2).tag ≠ 0 then mH T (o + (T p.2).size) r else none
def Cl (T : Nat → Ty) : Prop := ∀ t, ((T t).tag = 1 → mH T 0 (T t).flds = some (T t).size) ∧ ((T t).tag = 2 → (T (T t).elem).tag ≠ 0) ∧ ((T t).tag = 3 → (T t).kind = .i64 ∨ (T t).kind = .u8)
def clB (l : List Ty) (d : Ty) : Bool := match d.tag with
 | 1 => mH (fun t => l.getD t .bad) 0 d.flds == some d.size
 | 2 => (l.getD d.elem .bad).tag != 0
 | 3 => d.kind == .i64 || d.kind == .u8
 | _ => true
theorem Cl.of_list {l : List Ty} (h : l.all (clB l) = true) : Cl (fun t => l.getD t .bad) := fun t => by
 have key : clB l (l.getD t .bad) = true := by
  rcases Nat.lt_or_ge t l.length with hl | hl
  ·rw [List.getD_eq_getElem?_getD, List.getElem?_eq_getElem hl]
   exact List.all_eq_true.1 h _ (List.getElem_mem hl)
  ·rw [List.getD_eq_getElem?_getD, List.getElem?_eq_none hl]; rfl
 unfold clB at key
 refine ⟨fun e => ?_, fun e => ?_, fun e => ?_⟩
 ·simp only [e] at key; simpa using key
 ·simp only [e] at key; simpa using key
 ·simp only [e] at key; simpa using key
def ShFs (sh : Nat → List D → Prop) : List (Nat × Nat) → List D → Prop
 | [], ds => ds = []
 | p :: r, ds => ∃ a b, ds = a ++ b ∧ sh p.2 a ∧ ShFs sh r b
def ShD (T : Nat → Ty) : Nat → Nat → List D → Prop
 | 0, _, _ => False
 | n + 1, t, ds => match (T t).tag with
  | 1 => ShFs (ShD T n) (T t).flds ds
  | 2 => ∃ rows, ds = [.sl rows] ∧ rows.length ≤ maxLen ∧ ∀ r ∈ rows, ShD T n (T t).elem r
  | 3 => ∃ i, ds = [.v (.int (T t).kind i)] ∧ inR (T t).kind i
  | 4 => ∃ b, ds = [bv b]
  | 5 => ∃ s : ByteArray, ds = [sv s] ∧ s.size ≤ maxLen
  | _ => False
theorem jA {α β : Type} {f : α → Option β} : ∀ {l : List α} {ys : List β}, l.mapM f = some ys → ∀ (i : Nat) (x : α), l[i]? = some x → ∃ y, f x = some y ∧ ys[i]? = some y
 | [], _, _, i, x, h => by simp at h
 | a :: l, ys, h, i, x, hx => by
  rw [List.mapM_cons] at h
  cases hfa : f a with
  | none => rw [hfa] at h; cases h
  | some b =>
   rw [hfa] at h
   cases hl : l.mapM f with
   | none => rw [hl] at h; cases h
   | some bs =>
    rw [hl] at h
    cases h
    cases i with
    | zero => simp at hx; subst hx; exact ⟨b, hfa, rfl⟩
    | succ i => simpa using jA hl i x (by simpa using hx)
theorem pE {α β : Type} {f : α → Option β} : ∀ {l : List α} {ys : List β}, l.mapM f = some ys → ys.length = l.length
 | [], ys, h => by cases h; rfl
 | a :: l, ys, h => by
  rw [List.mapM_cons] at h
  cases hfa : f a with
  | none => rw [hfa] at h; cases h
  | some b =>
   rw [hfa] at h
   cases hl : l.mapM f with
   | none => rw [hl] at h; cases h
   | some bs => rw [hl] at h; cases h; simp [pE hl]
section
variable {H : Type} {enc : TypeId × Value → H} {P : Program} {w : World} {T : Nat → Ty}
theorem qV {base : Nat} {a : Addr} {n : Nat} {cs : List Value} (h : w.cells? base a n = some cs) : cs.length = n ∧ ∀ k y, cs[k]? = some y → (V0 w).cell (a.add k) = some y := by
 unfold World.cells? at h
 split at h
 ·have hl := pE h
  rw [List.length_range] at hl
  refine ⟨hl, fun k y hk => ?_⟩
  have hk' : k < n := by rw [← hl]; exact (List.getElem?_eq_some_iff.1 hk).1
  obtain ⟨y', h1, h2⟩ := jA h k k (by simp [hk'])
  rw [hk] at h2; cases h2
  exact xG h1
 ·cases h
theorem TyGood.cells {t : Nat} {d : Ty} {i : TypeInfo} {z : Value} {u : TypeDesc} (h : TyGood P t d i z u) : P.cellsOf t = d.size := by
 simp [Program.cellsOf, h.info, h.size]
theorem TyOK.cells (hT : TyOK P T) {t : Nat} (ht : (T t).tag ≠ 0) : P.cellsOf t = (T t).size := by
 obtain ⟨i, z, u, h⟩ := hT.good ht; exact h.cells
theorem mI (hT : TyOK P T) {n : Nat} {sh : Nat → List D → Prop} {spare : Nat → Bool}
    (ih : ∀ t cs d ps, (T t).tag ≠ 0 → DataW.trod enc P w 0 spare true n t cs = some (d, ps) → ∃ ds Ss, sh t ds ∧ LayL (V0 w) ds cs Ss) {cs : List Value} :
    ∀ {fs : List Field} {ps : List (Nat × Nat)} {o : Nat} {xs : List (DataW H × List MemPlace)}, bC fs ps = true → mH T o ps = some cs.length →
     (fs.mapM fun f => DataW.trod enc P w 0 spare true n f.type ((cs.drop f.offset).take (P.cellsOf f.type))) = some xs → ∃ ds Ss, ShFs sh ps ds ∧ LayL (V0 w) ds (cs.drop o) Ss
 | [], [], o, xs, _, ht, _ => by
  simp only [mH, Option.some.injEq] at ht
  subst ht
  exact ⟨[], [], rfl, by rw [List.drop_length]; exact LayL.nil _⟩
 | f :: fs, p :: ps, o, xs, hf, ht, hm => by
  simp only [bC, Bool.and_eq_true, beq_iff_eq] at hf
  simp only [mH] at ht
  split at ht
  ·rename_i hp
   rw [List.mapM_cons] at hm
   cases h1 : DataW.trod enc P w 0 spare true n f.type ((cs.drop f.offset).take (P.cellsOf f.type)) with
   | none => rw [h1] at hm; cases hm
   | some x =>
    rw [h1] at hm
    cases h2 : (fs.mapM fun f => DataW.trod enc P w 0 spare true n f.type ((cs.drop f.offset).take (P.cellsOf f.type))) with
    | none => rw [h2] at hm; cases hm
    | some ys =>
     obtain ⟨ds, Ss, q1, q2⟩ := ih _ _ x.1 x.2 (by rw [hf.1.2]; exact hp.2) h1
     obtain ⟨ds', Ss', q3, q4⟩ := mI hT ih hf.2 ht h2
     rw [hf.1.2] at q1 q2
     rw [hT.cells hp.2, hf.1.1, hp.1] at q2
     refine ⟨ds ++ ds', Ss ++ Ss', ⟨ds, ds', rfl, q1, q3⟩, ?_⟩
     have e : cs.drop o = (cs.drop o).take (T p.2).size ++ cs.drop (o + (T p.2).size) := by
      rw [← List.drop_drop, List.take_append_drop]
     rw [e]
     exact q2.append q4
  ·cases ht
 | [], _ :: _, _, _, h, _, _ => by simp [bC] at h
 | _ :: _, [], _, _, h, _, _ => by simp [bC] at h
theorem mJ {sh : List D → Prop} {a : Addr} {sz : Nat} {g : List Value → Option (DataW H × List MemPlace)}
    (ih : ∀ cs d ps, g cs = some (d, ps) → ∃ ds Ss, sh ds ∧ LayL (V0 w) ds cs Ss) :
    ∀ {n : Nat}, (∀ i, i < n → ∃ x, ((w.cells? 0 (a.add (i * sz)) sz).bind g) = some x) →
     ∃ (rows : List (List D)) (ys : List Value) (Ss : List (List Nat)), rows.length = n ∧ (∀ r ∈ rows, sh r ∧ r.length = sz) ∧ ys.length = n * sz ∧ (∀ k y, ys[k]? = some y → (V0 w).cell (a.add k) = some y) ∧ LayL (V0 w) rows.flatten ys Ss
 | 0, _ => ⟨[], [], [], rfl, fun r h => (by cases h), by simp, fun k y h => (by simp at h), LayL.nil _⟩
 | n + 1, h => by
  obtain ⟨rows, ys, Ss, r1, r2, r3, r4, r5⟩ := mJ ih (n := n) fun i hi => h i (by omega)
  obtain ⟨x, hx⟩ := h n (by omega)
  cases hc : w.cells? 0 (a.add (n * sz)) sz with
  | none => rw [hc] at hx; cases hx
  | some cs =>
   rw [hc] at hx
   obtain ⟨ds, Ss', q1, q2⟩ := ih cs x.1 x.2 hx
   obtain ⟨c1, c2⟩ := qV hc
   refine ⟨rows ++ [ds], ys ++ cs, Ss ++ Ss', by simp [r1], fun r hr => ?_, by simp [r3, c1, Nat.succ_mul], fun k y hk => ?_, by simpa using r5.append q2⟩
   ·rcases List.mem_append.1 hr with hr | hr
    ·exact r2 r hr
    ·rw [List.mem_singleton] at hr; subst hr; exact ⟨q1, by rw [← q2.1, c1]⟩
   ·rw [List.getElem?_append] at hk
    split at hk
    ·exact r4 k y hk
    ·rename_i hlt
     have := c2 _ y hk
     rw [iI] at this
     rw [r3] at this hlt
     rwa [show n * sz + (k - n * sz) = k by omega] at this
theorem nW (hT : TyOK P T) (hC : Cl T) : ∀ {n t : Nat} {cs : List Value} {d : DataW H} {ps : List MemPlace}, (T t).tag ≠ 0 → DataW.trod enc P w 0 (fun _ => true) true n t cs = some (d, ps) → ∃ ds Ss, ShD T n t ds ∧ LayL (V0 w) ds cs Ss
 | 0, _, _, _, _, _, h => by simp [DataW.trod] at h
 | n + 1, t, cs, d, ps, ht, h => by
  obtain ⟨i, z, u, hg⟩ := hT.good ht
  have one : ∀ {d : D} {y : Value}, (∃ S, Lay (V0 w) d y S) → ∃ Ss, LayL (V0 w) [d] [y] Ss := fun ⟨S, hS⟩ => ⟨[S], rfl, rfl, fun k d' y' S' h1 h2 h3 => by
   cases k with
   | zero => simp at h1 h2 h3; subst h1; subst h2; subst h3; exact hS
   | succ k => simp at h1⟩
  have hu := hg.und
  have huok := hg.uok
  by_cases e1 : (T t).tag = 1
  ·obtain ⟨fs, rfl, hf⟩ := hg.struct e1
   simp only [DataW.trod, hu] at h
   split at h
   ·rename_i hlen
    simp only [Option.map_eq_some_iff] at h
    obtain ⟨xs, hm, _⟩ := h
    rw [hg.cells] at hlen
    obtain ⟨ds, Ss, q1, q2⟩ := mI (sh := ShD T n) hT (fun t cs d ps ht h => nW hT hC ht h) hf (by rw [hlen]; exact (hC t).1 e1) hm
    exact ⟨ds, Ss, by simp only [ShD, e1]; exact q1, by simpa using q2⟩
   ·cases h
  by_cases e2 : (T t).tag = 2
  ·have := hg.slice e2
   subst this
   have he := (hC t).2.1 e2
   simp only [DataW.trod, hu] at h
   split at h <;> try (simp_all; done)
   ·rename_i e' hh; injection hh with hh; injection hh with hh; subst hh
    obtain ⟨Ss, hL⟩ := one ⟨[], Lay.nil (V := V0 w)⟩
    exact ⟨[.sl []], Ss, by simp only [ShD, e2]; exact ⟨[], rfl, by simp, fun r h => by cases h⟩, hL⟩
   ·rename_i e' a len cap hh
    injection hh with hh; injection hh with hh; subst hh
    split at h
    ·rename_i hc
     simp only [Option.bind_eq_some_iff] at h
     obtain ⟨elems, hm, _⟩ := h
     have hcell := hT.cells he
     rw [hcell] at hm
     obtain ⟨rows, ys, Ss, r1, r2, r3, r4, r5⟩ := mJ (w := w) (a := a) (sz := (T (T t).elem).size) (sh := ShD T n (T t).elem) (g := DataW.trod enc P w 0 (fun _ => true) true n (T t).elem) (fun cs d ps h => nW hT hC he h) (n := len) (fun i hi => by
      obtain ⟨y, h1, _⟩ := jA hm i i (by simp [hi])
      exact ⟨y, h1⟩)
     obtain ⟨Ss', hL⟩ := one ⟨_, Lay.sl (V := V0 w) rows a cap (T (T t).elem).size ys Ss (fun r hr => (r2 r hr).2) (by omega) hc.2.2 (by rw [r5.1]) r5.2.1 r4 r5.2.2⟩
     rw [r1] at hL
     exact ⟨[.sl rows], Ss', by simp only [ShD, e2]; exact ⟨rows, rfl, by omega, fun r hr => (r2 r hr).1⟩, hL⟩
    ·cases h
  by_cases e3 : (T t).tag = 3
  ·have := hg.int e3
   subst this
   have hk := (hC t).2.2 e3
   simp only [DataW.trod, hu] at h
   split at h <;> try (simp_all; done)
   rename_i k k' m hh
   injection hh with hh; injection hh with hh; subst hh
   split at h
   ·rename_i hw
    obtain ⟨rfl, hw⟩ := hw
    obtain ⟨Ss, hL⟩ := one ⟨[], Lay.v (V := V0 w) (.int _ m) rfl⟩
    have hin : inR (T t).kind m := by
     simp only [Lit.wf, Bool.and_eq_true, decide_eq_true_eq] at hw
     rcases hk with hk | hk <;> rw [hk] at hw ⊢ <;> simpa [inR, IntKind.min, IntKind.max, IntKind.bits, IntKind.signed] using hw
    exact ⟨_, Ss, by simp only [ShD, e3]; exact ⟨m, rfl, hin⟩, hL⟩
   ·cases h
  by_cases e4 : (T t).tag = 4
  ·have := hg.bool e4
   subst this
   simp only [DataW.trod, hu] at h
   split at h <;> try (simp_all; done)
   rename_i b _
   obtain ⟨Ss, hL⟩ := one ⟨[], Lay.v (V := V0 w) (.bool b) rfl⟩
   exact ⟨_, Ss, by simp only [ShD, e4]; exact ⟨b, rfl⟩, hL⟩
  by_cases e5 : (T t).tag = 5
  ·have := hg.string e5
   subst this
   simp only [DataW.trod, hu] at h
   split at h <;> try (simp_all; done)
   rename_i s _
   split at h
   ·rename_i hs
    obtain ⟨Ss, hL⟩ := one ⟨[], Lay.v (V := V0 w) (.string s) rfl⟩
    exact ⟨_, Ss, by simp only [ShD, e5]; exact ⟨s, rfl, hs⟩, hL⟩
   ·cases h
  ·exfalso
   unfold fT at huok
   split at huok <;> simp_all
def pk (T : Nat → Ty) (t : Nat) (ds : List D) : SV := jP (T t).agg (ds.map .d)
def ShAll (T : Nat → Ty) : List Nat → List (List D) → Prop
 | [], [] => True
 | t :: ts, d :: ds => (∃ n, ShD T n t d) ∧ ShAll T ts ds
 | _, _ => False
def pks (T : Nat → Ty) : List Nat → List (List D) → List SV
 | t :: ts, d :: ds => pk T t d :: pks T ts ds
 | _, _ => []
theorem rR {V : View} {ds : List D} {ys : List Value} {Ss : List (List Nat)} (h : LayL V ds ys Ss) : cL [] V (ds.map .d) ys := by
 refine ⟨by simpa using h.1, fun k a y h1 h2 => ?_⟩
 rw [List.getElem?_map] at h1
 cases hd : ds[k]? with
 | none => rw [hd] at h1; cases h1
 | some d =>
  rw [hd] at h1; cases h1
  have hk : k < Ss.length := by rw [h.2.1]; exact (List.getElem?_eq_some_iff.1 hd).1
  exact ⟨_, h.2.2 k d y _ hd h2 (List.getElem?_eq_getElem hk)⟩
theorem vJ (hT : TyOK P T) (hC : Cl T) {t : Nat} (ht : (T t).tag ≠ 0) {r : Reach} {base : Nat} {v : Value} {d : DataW H} {ps : List MemPlace}
    (hval : Value.okWide P w r base t v) (h : DataW.Trod enc P w 0 (fun _ => true) true t v d ps) : ∃ ds, (∃ n, ShD T n t ds) ∧ cSV [] (V0 w) (pk T t ds) v := by
 obtain ⟨n, h⟩ := h
 obtain ⟨i, z, u, hg⟩ := hT.good ht
 obtain ⟨ds, Ss, q1, q2⟩ := nW hT hC ht h
 refine ⟨ds, ⟨n, q1⟩, ?_⟩
 have hu := hg.und
 unfold Value.okWide at hval
 by_cases e1 : (T t).tag = 1
 ·obtain ⟨fs, rfl, hf⟩ := hg.struct e1
  rw [hu] at hval
  obtain ⟨cs, rfl, _⟩ := hval
  simp only [pk, Ty.agg, e1, jP]
  exact ⟨cs.toList, rfl, rR q2⟩
 ·have hag : (T t).agg = false := by simp [Ty.agg, e1]
  have hv : v.cells.toList = [v] := by
   have huok := hg.uok
   cases v with
   | agg cs =>
    exfalso
    rw [hu] at hval
    unfold fT at huok
    split at huok <;> simp_all [Cell.okWide, Cell.ok]
   | _ => rfl
  rw [hv] at q2
  obtain ⟨c1, c2⟩ := rR q2
  have hl : ds.length = 1 := by simpa using c1.symm
  match ds, hl with
  | [x], _ =>
   simp only [pk, hag, jP, List.map_cons, List.map_nil]
   exact c2 0 _ _ rfl rfl
theorem mK (hT : TyOK P T) (hC : Cl T) {r : Reach} {base : Nat} : ∀ {ts : List Nat} {vs : List Value} {dd : List (DataW H)} {ps : List MemPlace}, (∀ t ∈ ts, (T t).tag ≠ 0) →
    (∀ (j : Nat) (t : Nat) (v : Value), ts[j]? = some t → vs[j]? = some v → Value.okWide P w r base t v) → DataW.TrodAll enc P w 0 (fun _ => true) true ts vs dd ps → ∃ dss, ShAll T ts dss ∧ lY (V0 w) (pks T ts dss) vs
 | [], [], [], _, _, _, _ => ⟨[], trivial, rfl, fun k s y h => by simp [pks] at h⟩
 | t :: ts, v :: vs, d :: dd, ps, ht, hval, h => by
  obtain ⟨p, q, h1, h2, _⟩ := h
  obtain ⟨ds, s1, s2⟩ := vJ hT hC (ht t (by simp)) (hval 0 t v rfl rfl) h1
  obtain ⟨dss, s3, s4⟩ := mK hT hC (fun t ht' => ht t (by simp [ht'])) (fun j t v a b => hval (j + 1) t v (by simpa using a) (by simpa using b)) h2
  refine ⟨ds :: dss, ⟨s1, s3⟩, by simp [pks, s4.1], fun k s y a b => ?_⟩
  cases k with
  | zero => simp [pks] at a b; subst a; subst b; exact s2
  | succ k => exact s4.2 k s y (by simpa [pks] using a) (by simpa using b)
 | [], _ :: _, _, _, _, _, h => by simp [DataW.TrodAll] at h
 | [], [], _ :: _, _, _, _, h => by simp [DataW.TrodAll] at h
 | _ :: _, [], _, _, _, _, h => by simp [DataW.TrodAll] at h
 | _ :: _, _ :: _, [], _, _, _, h => by simp [DataW.TrodAll] at h
theorem gF (hl : laidOutB P = true) {W' : World} (hb : Below w.heap.size w W') : ∀ {ts : List Nat} {vs : List Value} {dd : List (DataW H)} {ps : List MemPlace}, (∀ t ∈ ts, P.readableRec t = true ∧ t < P.types.size) →
    DataW.TrodAll enc P w 0 (fun _ => true) true ts vs dd ps → (∀ x ∈ ps, x.block < w.heap.size) → DataW.TrodAll enc P W' 0 (fun b => decide (b < w.heap.size)) true ts vs dd ps
 | [], [], [], _, _, h, _ => h
 | t :: ts, v :: vs, d :: dd, ps, ht, h, hlt => by
  obtain ⟨p, q, h1, h2, rfl⟩ := h
  obtain ⟨r1, r2⟩ := ht t (by simp)
  exact ⟨p, q, Below.trod hl r1 r2 h1 hb (fun x hx => hlt x (List.mem_append.2 (.inl hx))), gF hl hb (fun t ht' => ht t (by simp [ht'])) h2 (fun x hx => hlt x (List.mem_append.2 (.inr hx))), rfl⟩
 | [], _ :: _, _, _, _, h, _ => by simp [DataW.TrodAll] at h
 | [], [], _ :: _, _, _, h, _ => by simp [DataW.TrodAll] at h
 | _ :: _, [], _, _, _, h, _ => by simp [DataW.TrodAll] at h
 | _ :: _, _ :: _, [], _, _, h, _ => by simp [DataW.TrodAll] at h
theorem jK {W : World} {sp : Nat → Bool} {b : Nat} {hd : Bool} : ∀ {ts : List Nat} {vs : List Value} {dd : List (DataW H)} {ps : List MemPlace}, DataW.TrodAll enc P W b sp hd ts vs dd ps → dd.length = ts.length
 | [], [], [], _, _ => rfl
 | t :: ts, v :: vs, d :: dd, ps, h => by
  obtain ⟨p, q, _, h2, _⟩ := h
  simp [jK h2]
 | [], _ :: _, _, _, h => by simp [DataW.TrodAll] at h
 | [], [], _ :: _, _, h => by simp [DataW.TrodAll] at h
 | _ :: _, [], _, _, h => by simp [DataW.TrodAll] at h
 | _ :: _, _ :: _, [], _, h => by simp [DataW.TrodAll] at h
theorem xH {fresh : Bool} (hT : TyOK P T) (hC : Cl T) (hl : laidOutB P = true) {f : Nat} {fn : Func} {s : ChangeSpec} {tb : Nat} (hv : s.vars = []) (hs : ∀ dd : List (DataW H), dd.length = fn.params.toList.length → s.fn H dd = { results := [.lit (.bool true)], args := dd })
    (hrt : fn.resultTypes = #[tb]) (hb : P.underlying tb = some .bool) (ht : fn.params.toList.all (fun t => (T t).tag != 0 && P.readableRec t && decide (t < P.types.size)) = true)
    (hf : ∀ dss, ShAll T fn.params.toList dss → FnC P f (pks T fn.params.toList dss) (ob true))
    {W : World} (htab : tabOK W []) {r : Reach} {base : Nat} {args : Array Value} {ds gs : List (DataW H)} {before : List MemPlace}
    (hval : ∀ (j : Nat) (t : Nat) (v : Value), fn.params[j]? = some t → args[j]? = some v → Value.okWide P W r base t v) (hW : DataW.Whole enc P fn.params.toList s.vars false W args.toList ds gs before) :
    Calls P f args W fun e W' => ∃ v, e = .returned v ∧ s.post enc P fn false fresh false false W args v W' := by
 have hW' := hW
 obtain ⟨p, q, hA, hV, rfl, _, _⟩ := hW
 rw [hv] at hV
 obtain ⟨rfl, rfl⟩ := ChangeShapes.trodVars_none hV
 have ht' : ∀ t ∈ fn.params.toList, (T t).tag ≠ 0 ∧ P.readableRec t = true ∧ t < P.types.size := fun t h => by
  have := List.all_eq_true.1 ht t h
  simpa [and_assoc] using this
 obtain ⟨dss, h1, h2⟩ := mK hT hC (fun t h => (ht' t h).1) (fun j t v a b => hval j t v (by simpa using a) (by simpa using b)) hA
 have hc := (hf dss h1).calls (V0 W) W args.toList htab (zL W) h2
 rw [Array.toArray_toList] at hc
 refine hc.mono fun e W' ⟨y, he, hd⟩ => ⟨y, he, ?_⟩
 have hy : y = .bool true := by
  obtain ⟨V', S, _, _, _, ⟨l, hs, hr⟩, _⟩ := hd.out
  obtain ⟨Ss, r1, r2, r3, r4⟩ := hr
  have hl : l = [y] := hs
  subst hl
  obtain ⟨_, T', hL⟩ := r4 0 (.d (bv true)) y _ rfl rfl (List.getElem?_eq_getElem (by rw [r2]; simp [SV.all]))
  cases hL; rfl
 subst hy
 have hbel := hd.below
 have hlen := jK hA
 have e : s.fn H (ds ++ []) = { results := [.lit (.bool true)], args := ds } := by rw [List.append_nil]; exact hs ds hlen
 refine ⟨ds, [], _, [], p, [], hW', ?_, ?_, ?_, hbel.frame _, fun h => by cases h⟩
 ·rw [e, hrt]
  exact ChangeShapes.trodAll_mk1 (shut_bool hb true)
 ·rw [e]
  exact gF hl hbel (fun t h => (ht' t h).2) hA (fun x hx => hW'.lt x (List.mem_append.2 (.inl hx)))
 ·rw [e, hv]; rfl
end
end Go.Sx
end
section
set_option linter.all false
namespace Go.Proofs.YtgfngchfmohhbaaDoor
open Go Go.Sx Go.RowKit
theorem a1i : Cl tt := Cl.of_list (by kernel_rfl)
theorem own : ownKnob Tryd.prog.godebug = none := by kernel_rfl
theorem xI : laidOutB Tryd.prog = true := by kernel_rfl
end Go.Proofs.YtgfngchfmohhbaaDoor
end
end
section
section
set_option linter.all false
namespace Go.Proofs.YtgfngchfmohhbaaDoor
open Go Go.Sx Go.RowKit Go.Proofs
def jJ (n : Int) (w : Nat) : Int := if n - w < 0 then -1 else n - w
theorem tC {n : Int} {w : Nat} (h : n - w < 0) : jJ n w = -1 := if_pos h
theorem tF {n : Int} {w : Nat} (h : ¬ n - w < 0) : jJ n w = n - w := if_neg h
theorem vC {n : Int} {w : Nat} (h : ¬ jJ n w < 0) : w ≤ n := by
 unfold jJ at h
 split at h <;> omega
def fU {α : Type} (w : α → Nat) : List α → Nat
 | [] => 0
 | x :: l => w x + fU w l
@[go_sem] def iL (n : Int) : List D := [iv n]
@[go_sem] def a0t (s : ByteArray) : List D := [sv s]
abbrev slI (l : List Int) : D := .sl (l.map iL)
abbrev slS (l : List ByteArray) : D := .sl (l.map a0t)
def a0u (l : List ByteArray) : Nat := l.length + fU ByteArray.size l
def nT (l : List Int) : Prop := l.length ≤ 9223372036854775807 ∧ ∀ i ∈ l, inR .i64 i
def zQ (l : List ByteArray) : Prop := l.length ≤ 9223372036854775807 ∧ ∀ s ∈ l, s.size ≤ 9223372036854775807
theorem a0v {n : Nat} {r : List D} (h : ShD tt n 3 r) : ∃ i, r = iL i ∧ inR .i64 i := by
 match n, h with
 | n + 1, ⟨i, h, hi⟩ => exact ⟨i, h, hi⟩
theorem a1e {n : Nat} {r : List D} (h : ShD tt n 9 r) : ∃ s : ByteArray, r = a0t s ∧ s.size ≤ 9223372036854775807 := by
 match n, h with
 | n + 1, ⟨s, h, hs⟩ => exact ⟨s, h, hs⟩
end Go.Proofs.YtgfngchfmohhbaaDoor
end
section
set_option linter.all false
set_option maxHeartbeats 1000000
namespace Go.Proofs.YtgfngchfmohhbaaDoor
open Go Go.Sx Go.RowKit Go.Proofs
structure TValue where
 fKind : Int
 fInt : Int
 fStr : ByteArray
@[go_sem] def vD (x : TValue) : List D := [iv x.fKind, iv x.fInt, sv x.fStr]
@[go_sem] def dS (x : TValue) : SV := .g [.d (iv x.fKind), .d (iv x.fInt), .d (sv x.fStr)]
def bM (x : TValue) : Nat := x.fStr.size
def dM (x : TValue) : Prop := inR .i64 x.fKind ∧ inR .i64 x.fInt ∧ x.fStr.size ≤ 9223372036854775807
def a0M (l : List TValue) : Nat := l.length + fU bM l
def a0w (l : List TValue) : Prop := l.length ≤ 9223372036854775807 ∧ ∀ x ∈ l, dM x
theorem vE {n : Nat} {r : List D} (h : ShD tt n 23 r) : ∃ x : TValue, r = vD x ∧ dM x := by
 match n, h with
 | n + 1, ⟨a0, b0, e0, h0, a1, b1, e1, h1, a2, b2, e2, h2, ee⟩ =>
  obtain ⟨x0, rfl, p0⟩ := a0v h0
  obtain ⟨x1, rfl, p1⟩ := a0v h1
  obtain ⟨x2, rfl, p2⟩ := a1e h2
  have ee' : b2 = [] := ee
  subst ee' e2 e1 e0
  exact ⟨⟨x0, x1, x2⟩, rfl, p0, p1, p2⟩
theorem qQ (x : TValue) (n : Int) (h0 : 0 ≤ n ∧ n ≤ 1048576) (hw : dM x) : FnC Tryd.prog 9 [dS x, oi n] (oi (jJ n (bM x))) := by
 refine ent Tryd.func9 rfl Tryd.call9 rfl (fun C => ?_); simp only [go_sem, st0, Tryd.ntmps9]
 unfold dM at hw
 by_cases hc0 : n - (x.fStr.size : Nat) < 0
 ·have e : jJ n (bM x) = -1 := by rw [tC (by unfold bM; omega)]
  have q0 := @hc0; refine wU ?_
  exact aD ⟨⟨_, rfl, by simp only [go_sem, e]⟩, trivial⟩
 have e : jJ n (bM x) = n - (x.fStr.size : Nat) := by rw [tF (by unfold bM; omega)]; unfold bM; omega
 have q0 := @hc0; refine wU ?_
 exact aD ⟨⟨_, rfl, by simp only [go_sem, e]⟩, trivial⟩
theorem qR (x : TValue) (hx : bM x ≤ 1048576) : FnC Tryd.prog 11 [dS x] (dS x) := by
 unfold bM at hx
 refine ent Tryd.func11 rfl Tryd.call11 rfl (fun C => ?_); simp only [go_sem, st0, Tryd.ntmps11]
 refine uW ?_
 exact aD ⟨⟨_, rfl, by simp only [go_sem]⟩, trivial⟩
end Go.Proofs.YtgfngchfmohhbaaDoor
end
section
set_option linter.all false
set_option maxHeartbeats 1000000
namespace Go.Proofs.YtgfngchfmohhbaaDoor
open Go Go.Sx Go.RowKit Go.Proofs
structure TField where
 fName : ByteArray
 fKind : Int
@[go_sem] def dH (x : TField) : List D := [sv x.fName, iv x.fKind]
@[go_sem] def a1f (x : TField) : SV := .g [.d (sv x.fName), .d (iv x.fKind)]
def zG (x : TField) : Nat := x.fName.size
def xC (x : TField) : Prop := x.fName.size ≤ 9223372036854775807 ∧ inR .i64 x.fKind
def xD (l : List TField) : Nat := l.length + fU zG l
def vF (l : List TField) : Prop := l.length ≤ 9223372036854775807 ∧ ∀ x ∈ l, xC x
end Go.Proofs.YtgfngchfmohhbaaDoor
end
section
set_option linter.all false
set_option maxHeartbeats 1000000
namespace Go.Proofs.YtgfngchfmohhbaaDoor
open Go Go.Sx Go.RowKit Go.Proofs
structure TAttr where
 fName : ByteArray
 fValue : TValue
@[go_sem] def dN (x : TAttr) : List D := [sv x.fName, iv x.fValue.fKind, iv x.fValue.fInt, sv x.fValue.fStr]
@[go_sem] def a1q (x : TAttr) : SV := .g [.d (sv x.fName), .d (iv x.fValue.fKind), .d (iv x.fValue.fInt), .d (sv x.fValue.fStr)]
def a0x (x : TAttr) : Nat := x.fName.size + bM x.fValue
def zH (x : TAttr) : Prop := x.fName.size ≤ 9223372036854775807 ∧ dM x.fValue
def vG (l : List TAttr) : Nat := l.length + fU a0x l
def rQ (l : List TAttr) : Prop := l.length ≤ 9223372036854775807 ∧ ∀ x ∈ l, zH x
end Go.Proofs.YtgfngchfmohhbaaDoor
end
section
set_option linter.all false
set_option maxHeartbeats 1000000
namespace Go.Proofs.YtgfngchfmohhbaaDoor
open Go Go.Sx Go.RowKit Go.Proofs
structure TFile where
 fID : Int
 fOwner : Int
 fShared : Bool
 fLink : Int
 fAttrs : List TAttr
@[go_sem] def fA (x : TFile) : List D := [iv x.fID, iv x.fOwner, bv x.fShared, iv x.fLink, .sl (x.fAttrs.map dN)]
@[go_sem] def a1r (x : TFile) : SV := .g [.d (iv x.fID), .d (iv x.fOwner), .d (bv x.fShared), .d (iv x.fLink), .d (.sl (x.fAttrs.map dN))]
@[go_sem] def a1s (x : TFile) : SV := .g [.d (iv x.fID), .d (iv x.fOwner), .d (bv x.fShared), .d (iv x.fLink), .w 70 4 (x.fAttrs.map dN)]
def xO (x : TFile) : Nat := vG x.fAttrs
def vH (x : TFile) : Prop := inR .i64 x.fID ∧ inR .i64 x.fOwner ∧ True ∧ inR .i64 x.fLink ∧ rQ x.fAttrs
def zI (l : List TFile) : Nat := l.length + fU xO l
def xE (l : List TFile) : Prop := l.length ≤ 9223372036854775807 ∧ ∀ x ∈ l, vH x
end Go.Proofs.YtgfngchfmohhbaaDoor
end
section
set_option linter.all false
set_option maxHeartbeats 1000000
namespace Go.Proofs.YtgfngchfmohhbaaDoor
open Go Go.Sx Go.RowKit Go.Proofs
structure TStore where
 fSchema : List TField
 fFiles : List TFile
 fNextID : Int
@[go_sem] def a0y (x : TStore) : List D := [.sl (x.fSchema.map dH), .sl (x.fFiles.map fA), iv x.fNextID]
@[go_sem] def a1g (x : TStore) : SV := .g [.d (.sl (x.fSchema.map dH)), .d (.sl (x.fFiles.map fA)), .d (iv x.fNextID)]
@[go_sem] def a1h (x : TStore) : SV := .g [.w 108 2 (x.fSchema.map dH), .w 36 5 (x.fFiles.map fA), .d (iv x.fNextID)]
def qU (x : TStore) : Nat := xD x.fSchema + zI x.fFiles
def nU (x : TStore) : Prop := vF x.fSchema ∧ xE x.fFiles ∧ inR .i64 x.fNextID
def a0N (l : List TStore) : Nat := l.length + fU qU l
def a0z (l : List TStore) : Prop := l.length ≤ 9223372036854775807 ∧ ∀ x ∈ l, nU x
end Go.Proofs.YtgfngchfmohhbaaDoor
end
section
set_option linter.all false
set_option maxHeartbeats 1000000
namespace Go.Proofs.YtgfngchfmohhbaaDoor
open Go Go.Sx Go.RowKit Go.Proofs
structure TNode where
 fOp : Int
 fLeft : Int
 fRight : Int
 fName : ByteArray
 fValue : TValue
@[go_sem] def jZ (x : TNode) : List D := [iv x.fOp, iv x.fLeft, iv x.fRight, sv x.fName, iv x.fValue.fKind, iv x.fValue.fInt, sv x.fValue.fStr]
@[go_sem] def a1t (x : TNode) : SV := .g [.d (iv x.fOp), .d (iv x.fLeft), .d (iv x.fRight), .d (sv x.fName), .d (iv x.fValue.fKind), .d (iv x.fValue.fInt), .d (sv x.fValue.fStr)]
def a0A (x : TNode) : Nat := x.fName.size + bM x.fValue
def zJ (x : TNode) : Prop := inR .i64 x.fOp ∧ inR .i64 x.fLeft ∧ inR .i64 x.fRight ∧ x.fName.size ≤ 9223372036854775807 ∧ dM x.fValue
def zK (l : List TNode) : Nat := l.length + fU a0A l
def xF (l : List TNode) : Prop := l.length ≤ 9223372036854775807 ∧ ∀ x ∈ l, zJ x
end Go.Proofs.YtgfngchfmohhbaaDoor
end
section
set_option linter.all false
set_option maxHeartbeats 1000000
namespace Go.Proofs.YtgfngchfmohhbaaDoor
open Go Go.Sx Go.RowKit Go.Proofs
structure TDir where
 fName : ByteArray
 fQuery : List TNode
@[go_sem] def nV (x : TDir) : List D := [sv x.fName, .sl (x.fQuery.map jZ)]
@[go_sem] def a1w (x : TDir) : SV := .g [.d (sv x.fName), .d (.sl (x.fQuery.map jZ))]
def a0B (x : TDir) : Nat := x.fName.size + zK x.fQuery
def xP (x : TDir) : Prop := x.fName.size ≤ 9223372036854775807 ∧ xF x.fQuery
def xQ (l : List TDir) : Nat := l.length + fU a0B l
def vI (l : List TDir) : Prop := l.length ≤ 9223372036854775807 ∧ ∀ x ∈ l, xP x
end Go.Proofs.YtgfngchfmohhbaaDoor
end
end
