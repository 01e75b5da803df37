/- Joined texts. -/
import Derived.Test.YteaaopodnbjpoaaZ03
import Derived.KernelRfl
import Derived.Test.YteaaopodnbjpoaaProg
import Derived.ProofKit
import Derived.Test.YteaaopodnbjpoaaRows
import Derived.OpenShut
set_option linter.all false
section
section
set_option linter.all false
namespace Go.Sx
open Go Go.RowKit
inductive Plan where
 | node : List (Nat × Plan) → Plan
def a3z (ops : List Oper) : Nat → Array Bool → List (Nat × Plan) → Bool
 | 0, listed, l => (Region.ready .any ops.toArray listed).isEmpty && l.isEmpty
 | n + 1, listed, l => decide (Region.ready .any ops.toArray listed = l.map (·.1)) && l.all fun p => match p.2 with
  | .node r => a3z ops n (listed.setIfInBounds p.1 true) r
section
variable {E : Env}
def xE (E : Env) (ops : List Oper) : Nat → List (Nat × Plan) → St → (St → Prop) → Prop
 | 0, _, st, K => K st
 | _ + 1, [], st, K => K st
 | n + 1, l, st, K => ∀ p ∈ l, match p.2 with
  | .node r => match ops[p.1]? with
   | some o => fE E ops [o] st fun st' => xE E ops n r st' K
   | none => False
end
structure vcPT (E : Env) (all : List Oper) (n : Nat) (l : List (Nat × Plan)) (st : St) (K : St → Prop) (t : Tie (all, l, K)) : Prop where
 out : xE E all n l st K
structure vcPL (E : Env) (all : List Oper) (n : Nat) (l : List (Nat × Plan)) (st : St) (K : St → Prop) (t : Tie (all, l, K)) : Prop where
 out : ∀ p ∈ l, match p.2 with
  | .node r => match all[p.1]? with
   | some o => fE E all [o] st fun st' => xE E all n r st' K
   | none => False
def a4K (E : Env) (all : List Oper) (i : Nat) (st : St) (k : St → Prop) (_ : Tie k) : Prop := match rU all i with
 | some o => oP E all o st k ⟨⟩
 | none => False
section
variable {E : Env}
end
attribute [go_sem] a4K
end Go.Sx
end
section
set_option linter.all false
namespace Go.Sx
open Go Go.RowKit
def a2L (ds : List Nat) (o : Oper) : Bool := match o.op with
 | .call _ => (match o.dst with | some d => qF d ds | none => false)
 | _ => false
def a1Q (ds : List Nat) (o : Oper) : Bool := qY o || a2L ds o
def rdX (ds : List Nat) : List Oper → List Oper
 | [] => []
 | o :: r => if a1Q ds o then rdX ds r else o :: rdX ds r
def a2M : List Oper → List Oper
 | [] => []
 | o :: r => if qY o then a2M r else o :: a2M r
structure CallG (E : Env) (f : Nat) (args : List SV) (h : List HB) (k : List HB → SV → Prop) (t : Tie k) : Prop where
 out : ∃ h' s, (∀ T, CallS E f args ⟨T, h⟩ fun st2 s2 => st2 = ⟨T, h'⟩ ∧ s2 = s) ∧ k h' s
theorem CallG.frz {E : Env} {f : Nat} {args args' : List SV} {res : SV} {h : List HB} {k : List HB → SV → Prop} (hf : FnC E.P f args' res) (he : args.map (cZ (aL h (bJ args))) = args') (hfree : args'.all bC = true) (hk : k (aL h (bJ args) ++ adH res.all) (adS (aL h (bJ args)).length res)) : CallG E f args h k ⟨⟩ :=
 ⟨_, _, fun T => CallS.frz (st := ⟨T, h⟩) hf he hfree ⟨rfl, rfl⟩, hk⟩
theorem CallG.lend {E : Env} {f : Nat} {args args' : List SV} {res : SV} {h : List HB} {k : List HB → SV → Prop} (hf : FnC E.P f args' res) (he : args.map (bI h) = args') (hfree : args'.all bC = true) (hres : res.all.all eX = true) (hk : k (h ++ adG (fun _ => none) 0 res.all) (adS h.length res)) : CallG E f args h k ⟨⟩ :=
 ⟨_, _, fun T => CallS.lend (st := ⟨T, h⟩) hf he hfree hres ⟨rfl, rfl⟩, hk⟩
def a0O (E : Env) (o : Oper) (st : St) (k : List HB → SV → Prop) : Prop := match o.op with
 | .call c => (match c.callee with
  | .value f => (match ev st f with
   | .o (.f fn caps) => CallG E fn (c.args.toList.map (ev st) ++ caps.map (fun cs => .o (.q cs))) st.h k ⟨⟩
   | _ => False)
  | _ => False)
 | _ => False
def zI (all : List Oper) (i : Nat) (f : Oper → Bool) : Bool := match all[i]? with
 | some o => f o
 | none => true
def onE (o : Oper) (j : Nat) : Bool := o.after.any fun e => Region.binds .any e && e.on == j
def a5l (all : List Oper) (ps ds : List Nat) : Bool :=
 (List.range all.length).all fun i => zI all i fun o =>
  (match o.guard with | none => true | some (j, _) => !a1Q ds o && onE o j && (match all[j]? with | some p => p.dst.isSome | none => false)) && (o.after.all fun e => !Region.binds .any e || decide (e.on < i)) && (a1Q ds o == ps.contains i) &&
  (match o.dst with | none => qY o | some d => !qY o) &&
  ((List.range all.length).all fun j => zI all j fun p => match p.dst with
   | none => true
   | some d => ((eY (opL o.op)).all fun t => t != d || onE o j) && (j == i || o.dst != some d))
def a4L : List Nat → List Oper → Bool
 | [], _ => true
 | p :: r, all => (r.all fun q => decide (p < q) && zI all q fun o => onE o p) && a4L r all
def gY (all : List Oper) (listed : Array Bool) (d : Nat) : Bool := (List.range all.length).any fun j => !listed.getD j true && (match all[j]? with | some o => o.dst == some d | none => false)
def dN (all : List Oper) (listed : Array Bool) (T : List SV) : List SV := (List.range T.length).map fun d => if gY all listed d then .o .u else nth T d
section
variable {E : Env}
def jE (E : Env) (st : St) : List Oper → Prop
 | [] => True
 | o :: r => (match o.dst with
  | some d => vcD E o.op (ev st) st.h fun s => s = nth st.t d
  | none => False) ∧ jE E st r
def a3A (E : Env) (all : List Oper) (st : St) (o : Oper) (d : Nat) : Prop := match o.guard with
 | none => vcD E o.op (ev st) st.h fun s => s = nth st.t d
 | some (j, b) => bE (iC all j st) b (vcD E o.op (ev st) st.h fun s => s = nth st.t d) (SV.t [] = nth st.t d) ⟨⟩ ⟨⟩
def a1R (E : Env) (all : List Oper) (st : St) : List Oper → Prop
 | [] => True
 | o :: r => (match o.dst with
  | some d => a3A E all st o d
  | none => False) ∧ a1R E all st r
def a2N (E : Env) (o : Oper) (st : St) (k : St → Prop) : Prop := if qY o then aW E o.op st fun st' _ => k st' else a0O E o st fun h' s => (match o.dst with | some d => s = nth st.t d | none => False) ∧ k ⟨st.t, h'⟩
def a2l (E : Env) (all : List Oper) (ds : List Nat) : List Nat → St → (St → Prop) → Prop
 | [], st, K => a1R E all st (rdX ds all) ∧ K st
 | p :: r, st, K => a1R E all st (rdX ds all) ∧ ∃ o, all[p]? = some o ∧ a2N E o st fun st' => a2l E all ds r st' K
theorem bM (all : List Oper) (listed : Array Bool) (T : List SV) : (dN all listed T).length = T.length := by simp [dN]
theorem eG (all : List Oper) (listed : Array Bool) (T : List SV) (d : Nat) : nth (dN all listed T) d = if gY all listed d then .o .u else nth T d := by
 rcases Nat.lt_or_ge d T.length with h | h
 ·rw [eZ, List.getD_eq_getElem?_getD]
  simp [dN, h]
 ·rw [uW (by rw [bM]; exact h), uW h]
  split <;> rfl
theorem dL (all : List Oper) (listed : Array Bool) (d : Nat) : gY all listed d = true ↔ ∃ j o, all[j]? = some o ∧ o.dst = some d ∧ listed.getD j true = false := by
 unfold gY
 rw [List.any_eq_true]
 constructor
 ·rintro ⟨j, _, h⟩
  rw [Bool.and_eq_true] at h
  obtain ⟨h1, h2⟩ := h
  split at h2
  ·rename_i o ho
   exact ⟨j, o, ho, by simpa using h2, by simpa using h1⟩
  ·cases h2
 ·rintro ⟨j, o, ho, hd, hl⟩
  refine ⟨j, List.mem_range.2 (List.getElem?_eq_some_iff.1 ho).1, ?_⟩
  rw [hl, ho]; simp [hd]
theorem vS {st : St} : ∀ {l : List Oper} {o : Oper}, jE E st l → o ∈ l → ∃ d, o.dst = some d ∧ vcD E o.op (ev st) st.h fun s => s = nth st.t d
 | [], o, _, h => by simp at h
 | x :: l, o, hc, h => by
  rcases List.mem_cons.1 h with rfl | h
  ·have h1 := hc.1
   split at h1
   ·rename_i d hd; exact ⟨d, hd, h1⟩
   ·exact h1.elim
  ·exact vS hc.2 h
def xF (all : List Oper) (listed : Array Bool) : Nat := ((List.range all.length).filter fun j => !listed.getD j true).length
theorem zJ {all : List Oper} {listed : Array Bool} {i : Nat} (hi : i < all.length) (hu : listed.getD i true = false) : xF all (listed.setIfInBounds i true) < xF all listed := by
 unfold xF
 have key : ∀ l : List Nat, i ∈ l → ((l.filter fun j => !(listed.setIfInBounds i true).getD j true).length < (l.filter fun j => !listed.getD j true).length) ∧ True := by
  intro l hl
  refine ⟨?_, trivial⟩
  have le : ∀ l : List Nat, (l.filter fun j => !(listed.setIfInBounds i true).getD j true).length ≤ (l.filter fun j => !listed.getD j true).length := by
   intro l
   induction l with
   | nil => simp
   | cons x l ih =>
    simp only [List.filter_cons]
    by_cases e : i = x
    ·subst e; rw [aV]; simp only [Bool.not_true, Bool.false_eq_true, if_false]; split <;> (try simp only [List.length_cons]) <;> omega
    ·rw [getD_set_ne true e]; split <;> (try simp only [List.length_cons]) <;> omega
  induction l with
  | nil => simp at hl
  | cons x l ih =>
   simp only [List.filter_cons]
   by_cases e : i = x
   ·subst e
    rw [aV, hu]
    have := le l
    simp only [Bool.not_true, Bool.not_false, Bool.false_eq_true, if_false, if_true, List.length_cons]; omega
   ·rw [getD_set_ne true e]
    have := ih (by rcases List.mem_cons.1 hl with h | h; exact (e h).elim; exact h)
    split <;> (try simp only [List.length_cons]) <;> omega
 exact (key _ (List.mem_range.2 hi)).1
theorem a0P : ∀ {l m : List SV}, l.length = m.length → (∀ d, d < m.length → nth m d = .o .u ∨ nth l d = nth m d) → leT l m
 | [], [], _, _ => trivial
 | [], _ :: _, h, _ => by simp at h
 | _ :: _, [], h, _ => by simp at h
 | x :: l, y :: m, h, k => ⟨k 0 (by simp), a0P (by simpa using h) fun d hd => k (d + 1) (by simpa using hd)⟩
theorem pM : ∀ h : List HB, leH h h
 | [] => trivial
 | _ :: l => ⟨.inr rfl, pM l⟩
theorem yF {st : St} {d n : Nat} {s : SV} (h : n ≠ d) : nth (st.put (some d) s).t n = nth st.t n := by
 have h' : d ≠ n := fun e => h e.symm
 simp only [St.put, dQ, eZ, List.getD_eq_getElem?_getD, List.getElem?_set, if_neg h']
def a2O (E : Env) (ds : List Nat) (all : List Oper) (o : Oper) (st : St) (k : St → Prop) : Prop := if a2L ds o then a0O E o st fun h' s => k ⟨(st.put o.dst s).t, h'⟩ else sop E all o st k
def a2P (E : Env) (ds : List Nat) (all : List Oper) : List Oper → St → (St → Prop) → Prop
 | [], st, K => K st
 | o :: r, st, K => a2O E ds all o st fun st' => a2P E ds all r st' K
end
structure vcStT (E : Env) (all l : List Oper) (ds ps : List Nat) (st : St) (K : St → Prop) (t : Tie (all, l, K)) : Prop where
 out : rdX ds all = l → a2l E all ds ps st K
structure vcGRun (E : Env) (ds : List Nat) (all l : List Oper) (st : St) (K : St → Prop) (t : Tie (all, l, K)) : Prop where
 out : a2P E ds all l st K
def sW (E : Env) (ds : List Nat) (all : List Oper) (o : Oper) (st : St) (k : St → Prop) (_ : Tie k) : Prop := a2O E ds all o st k
def a3B (E : Env) (all : List Oper) (i : Nat) (st : St) (k : St → Prop) (_ : Tie k) : Prop := match rU all i with
 | some o => a2N E o st k
 | none => False
section
variable {E : Env}
theorem zK {ds : List Nat} {all r : List Oper} {o : Oper} {st : St} {K : St → Prop} (h : sW E ds all o st (fun st' => vcGRun E ds all r st' K ⟨⟩) ⟨⟩) : vcGRun E ds all (o :: r) st K ⟨⟩ := by
 have e : (fun st' => vcGRun E ds all r st' K ⟨⟩) = (fun st' => a2P E ds all r st' K) := funext fun s => propext ⟨fun h => h.out, fun h => ⟨h⟩⟩
 rw [e] at h
 exact ⟨h⟩
theorem a0Q {ds : List Nat} {all : List Oper} {st : St} {K : St → Prop} (h : K st) : vcGRun E ds all [] st K ⟨⟩ := ⟨h⟩
end
attribute [go_sem] jE a3A a1R a3B rdX a2M a1Q a2L a2N a0O sW a2O
end Go.Sx
end
section
set_option linter.all false
namespace Go.Sx
open Go Go.RowKit
def a1S (G : St) (F : Ex → St → Prop) : Ex → St → Prop
 | .normal, s => s.le G ∧ G.okB = true
 | .exit j, s => F (.exit j) s
 | .ret, s => F .ret s
def a4M (c : Code) (st : St) (M : List (Nat × SV)) (H : List (Nat × HB)) : St := ⟨mds (fgt st.t (rW c)) M, mhs st.h H⟩
section
variable {P : Program} {C : Ctx} {ks : List Kn} {F : Ex → St → Prop} {st : St}
theorem a1T {G s : St} (h : F .ret s) : a1S G F .ret s := h
theorem a0R {G s : St} {j : Nat} (h : F (.exit j) s) : a1S G F (.exit j) s := h
end
attribute [go_sem] a4M
end Go.Sx
end
section
set_option linter.all false
namespace Go.Sx
open Go Go.RowKit
def Nm (P : Prop) : Prop := P
theorem mX {P : Prop} (h : P) : Nm P := h
theorem uX {P : Prop} (h : Nm P) : P := h
def Ar (P : Prop) : Prop := P
theorem aX {P : Prop} (h : Ar P) : P := h
theorem uA {P : Prop} (h : P) : Ar P := h
theorem uB {P : Prop} (h : P := by (simp only [go_sem, qH]; (repeat' first | omega | refine And.intro ?_ ?_)) <;> fail) : Ar P := h
theorem aO {P Q : Prop} (h : Q) (p : P := by omega) : P ∧ Q := ⟨p, h⟩
theorem aI {A B : Prop} (a : A) (b : B) : A ∧ B := ⟨a, b⟩
theorem a4N {α β : Type} (f : α → β) (l : List α) : (l.map f).length = l.length := List.length_map ..
theorem rH {α : Type} (n : Nat) (l : List α) : (l.take n).length = min n l.length := List.length_take
theorem rJ {α : Type} (n : Nat) (l : List α) : (l.drop n).length = l.length - n := List.length_drop
theorem zL {α : Type} (l m : List α) : (l ++ m).length = l.length + m.length := List.length_append
class Nx (P : Prop) (Q : outParam Prop) : Prop where
 nx : Q → P
theorem nX {P Q : Prop} [i : Nx P Q] (h : Q) : P := i.nx h
class Ny (P : Prop) (Q : outParam Prop) : Prop where
 ny : Q → P
instance {P Q : Prop} [i : Nx P Q] : Ny P Q := ⟨i.nx⟩
theorem nY {P Q : Prop} [i : Ny P Q] (h : Q) : P := i.ny h
structure cndK (s : SV) (A B : Prop) (t : Tie (A, B)) : Prop where
 out : ∃ b, s = .o (.d (.v (.bool b))) ∧ (b = true → A) ∧ (b = false → B)
theorem cnd {s : SV} {A B : Prop} {b : Bool} (hs : s = .o (.d (.v (.bool b)))) (h1 : b = true → A) (h2 : b = false → B) : cndK s A B ⟨⟩ := ⟨b, hs, h1, h2⟩
instance nCt {A B : Prop} : Nx (cndK (.o (.d (.v (.bool true)))) A B ⟨⟩) A := ⟨fun h => ⟨true, rfl, fun _ => h, fun h => by cases h⟩⟩
instance nCf {A B : Prop} : Nx (cndK (.o (.d (.v (.bool false)))) A B ⟨⟩) B := ⟨fun h => ⟨false, rfl, (fun h => by cases h), fun _ => h⟩⟩
class Cy (P : Program) (f : Nat) (args' : List SV) (res : SV) (G : Prop) (O K : outParam Prop) : Prop where
 cl : FnC P f args' res → O → K → G
theorem cC {P : Program} {f : Nat} {args' : List SV} {res : SV} {G O K : Prop} [i : Cy P f args' res G O K] (h : FnC P f args' res) (o : O) (k : K) : G := i.cl h o k
theorem cP {P : Program} {f : Nat} {args' : List SV} {res : SV} {G O K : Prop} [i : Cy P f args' res G O K] (h : FnC P f args' res) (k : K) (o : O := by simp only [go_sem, and_self] <;> fail) : G := i.cl h o k
section
variable {P : Program} {C : Ctx} {F : Ex → St → Prop} {st : St} {ks : List Kn}
instance nRet : Nx (WP P C .ret (aP P C ks F) st) (aP P C ks F .ret st) := ⟨a2B⟩
instance nSkip : Nx (WP P C .skip (aP P C ks F) st) (aP P C ks F .normal st) := ⟨a1F⟩
instance nExit {id : Nat} : Nx (WP P C (.exit id) (aP P C ks F) st) (aP P C ks F (.exit id) st) := ⟨a1G⟩
instance nSeq {x y : Code} : Nx (WP P C (.seq x y) (aP P C ks F) st) (WP P C x (aP P C (.code y :: ks) F) st) := ⟨a2A⟩
instance nBlock {id : Nat} {c : Code} : Nx (WP P C (.block id c) (aP P C ks F) st) (WP P C c (aP P C (.blk id :: ks) F) st) := ⟨a0E⟩
instance nCode {c : Code} : Nx (aP P C (.code c :: ks) F .normal st) (WP P C c (aP P C ks F) st) := ⟨a2C⟩
instance nBlk {id : Nat} : Nx (aP P C (.blk id :: ks) F .normal st) (aP P C ks F .normal st) := ⟨a3u⟩
instance nCodeRet {c : Code} : Nx (aP P C (.code c :: ks) F .ret st) (aP P C ks F .ret st) := ⟨wU⟩
instance nBlkRet {id : Nat} : Nx (aP P C (.blk id :: ks) F .ret st) (aP P C ks F .ret st) := ⟨zA⟩
instance nCodeExit {c : Code} {j : Nat} : Nx (aP P C (.code c :: ks) F (.exit j) st) (aP P C ks F (.exit j) st) := ⟨vE⟩
instance nBlkExit {id : Nat} : Nx (aP P C (.blk id :: ks) F (.exit id) st) (aP P C ks F .normal st) := ⟨nG⟩
theorem kO {id j : Nat} (h : aP P C ks F (.exit j) st) (hn : j ≠ id) : aP P C (.blk id :: ks) F (.exit j) st := fM hn h
theorem kD {id j : Nat} (h : aP P C ks F (.exit j) st) (hn : j ≠ id := by decide) : aP P C (.blk id :: ks) F (.exit j) st := fM hn h
instance nNil {e : Ex} : Nx (aP P C [] F e st) (F e st) := ⟨a3v⟩
instance nLRet {α : Type} {I : α → St} {Q : α → Prop} {μ : α → Nat} {x : α} : Nx (kU I Q μ x F .ret st) (F .ret st) := ⟨a3q⟩
instance nLExit {α : Type} {I : α → St} {Q : α → Prop} {μ : α → Nat} {x : α} {j : Nat} : Nx (kU I Q μ x F (.exit j) st) (F (.exit j) st) := ⟨a2t⟩
instance nCRet {G s : St} : Nx (a1S G F .ret s) (F .ret s) := ⟨a1T⟩
instance nCExit {G s : St} {j : Nat} : Nx (a1S G F (.exit j) s) (F (.exit j) s) := ⟨a0R⟩
end
section
variable {E : Env} {all r : List Oper} {o : Oper} {st : St} {K : St → Prop}
instance nRun : Nx (vcRun E all (o :: r) st K ⟨⟩) (Nm (oP E all o st (fun st' => vcRun E all r st' K ⟨⟩) ⟨⟩)) := ⟨a0t⟩
instance nRun0 : Nx (vcRun E all [] st K ⟨⟩) (K st) := ⟨a1y⟩
instance nDrun : Nx (vcDRun E all (o :: r) st K ⟨⟩) (Nm (sH E all o st (fun st' => vcDRun E all r st' K ⟨⟩) ⟨⟩)) := ⟨yR⟩
instance nDrun0 : Nx (vcDRun E all [] st K ⟨⟩) (K st) := ⟨a0u⟩
instance nGrun {ds : List Nat} : Nx (vcGRun E ds all (o :: r) st K ⟨⟩) (Nm (sW E ds all o st (fun st' => vcGRun E ds all r st' K ⟨⟩) ⟨⟩)) := ⟨zK⟩
instance nGrun0 {ds : List Nat} : Nx (vcGRun E ds all [] st K ⟨⟩) (K st) := ⟨a0Q⟩
end
end Go.Sx
end
section
set_option linter.all false
namespace Go.Sx
open Go Go.RowKit
theorem CallS.lendW {E : Env} {f : Nat} {args args' : List SV} {res : SV} {st : St} {K : St → SV → Prop} (h : FnC E.P f args' res) (he : args.map (bI st.h) = args') (hfree : args'.all bC = true) (hres : res.all.all eX = true)
    (k : K ⟨st.t, st.h ++ adH res.all⟩ (adS st.h.length res)) : CallS E f args st K := by
 refine ⟨h.enters, fun g V a w vs hr hlen hargs => ?_⟩
 subst he
 have hc : mO (dD V w) (args.map (bI st.h)) vs := by
  refine ⟨by simp [hlen], fun i s y h1 h2 => ?_⟩
  have hs := List.all_eq_true.1 hfree s (List.mem_of_getElem? h1)
  rw [List.getElem?_map] at h1
  cases hk : args[i]? with
  | none => rw [hk] at h1; cases h1
  | some s0 =>
   rw [hk] at h1
   cases h1
   exact iD (lN hr (hargs i s0 y hk h2)) hs
 refine (h.calls (dD V w) w vs (fF hr.mod) hc).mono ?_
 rintro e w' ⟨y, rfl, ⟨V1, S, hv, hm, hnew, ⟨l, hshape, Ss, r1, r2, r3, r4⟩, hnd, hblk⟩, hbelow⟩
 have hVV' : V.le V1 := (dW V w).trans hv
 subst r3
 have hm0 : Mod V w' := hm.of_le hVV'
 obtain ⟨V', hV'⟩ : ∃ V' : View, V' = fun b => if b < w.heap.size then V b else V1 b := ⟨_, rfl⟩
 have ge : ∀ b, w.heap.size ≤ b → V' b = V1 b := fun b hb => by rw [hV']; exact if_neg (by omega)
 have hle : V.le V' := fun b cs hb => ⟨cs, by rw [hV']; simp only [if_pos (hr.mod.lt hb), hb], List.prefix_refl _⟩
 have hnone : ∀ b, w.heap.size ≤ b → dD V w b = none := fun b hb => (fF hr.mod).fresh hb
 have hr1 : Rel E.C g V' st a w' := hr.later hle (fun b cs hb => by
  rw [hV'] at hb
  simp only at hb
  split at hb
  ·exact hm0 b cs hb
  ·exact hm b cs hb) hbelow (fun b cs hb hn => by
  rcases Nat.lt_or_ge b w.heap.size with hlt | hge
  ·rw [hV'] at hb
   simp only [if_pos hlt] at hb
   rw [hb] at hn; cases hn
  ·rw [ge b hge] at hb
   exact hnew b cs hb (hnone b hge))
 have r5 : ∀ (k : Nat) (x : At) (y : Value) (s : List Nat), res.all[k]? = some x → l[k]? = some y → Ss[k]? = some s → rAt V' w' x y s := fun k x y s e1 e2 e3 => by
  have hr4 := r4 k x y s e1 e2 e3
  have hw := List.all_eq_true.1 hres x (List.mem_of_getElem? e1)
  have hin : ∀ b ∈ s, w.heap.size ≤ b := fun b hb => (hblk b (List.mem_flatten.2 ⟨s, List.mem_of_getElem? e3, hb⟩)).1
  cases x with
  | d x => cases x with
   | v x =>
    obtain ⟨q1, T, hT⟩ := hr4
    cases hT with
    | v _ hsc => exact ⟨q1, _, .v _ hsc⟩
   | sl r => simp [eX] at hw
  | w ty sz rows =>
   obtain ⟨p0, ys, Ts, p1, p2⟩ := hr4
   have lay : (∀ b ∈ Ts.flatten, b ∈ s) → LayL V' rows.flatten ys Ts := fun hsub => ⟨p1.1, p1.2.1, fun j d z T h1 h2 h3 => (p1.2.2 j d z T h1 h2 h3).restrict fun b hb cs hcs => ⟨cs, by rw [ge b (hin b (hsub b (List.mem_flatten.2 ⟨T, List.mem_of_getElem? h3, hb⟩)))]; exact hcs, List.prefix_refl _⟩⟩
   rcases p2 with ⟨q1, rfl, q3⟩ | ⟨b, cap, c, q1, q2, q3, q4, q5, q6, q7, q8⟩
   ·have hT : Ts = [] := by have := p1.2.1; simpa using this
    subst hT
    exact ⟨p0, ys, [], lay (fun b hb => by simp at hb), .inl ⟨q1, rfl, q3⟩⟩
   ·exact ⟨p0, ys, Ts, lay (fun b' hb' => by rw [q8]; exact List.mem_cons_of_mem _ hb'), .inr ⟨b, cap, c, q1, q2, q3, q4, q5, q6, by rw [ge b (hin b (by rw [q8]; simp))]; exact q7, q8⟩⟩
  | _ => simp [eX] at hw
 obtain ⟨g', h1, h2, h3⟩ := uP (cs := res.all) hr1 r1 r2 r5 hnd (fun b hb => ⟨.inl (Nat.le_trans hr.fr.size (hblk b hb).1), (hblk b hb).2, fun i hb' x e1 e2 hm' => by
  have := (hr.hp.lo i hb' x e1 e2 b hm').2
  have := (hblk b hb).1
  omega⟩)
 refine ⟨y, g', V', _, _, rfl, h1, ?_, k⟩
 cases res with
 | o x =>
  have hl : l = [y] := hshape
  subst hl
  simp only [SV.all] at h3
  simp only [adS]
  have hlen1 : (adA st.h.length [x]).length = 1 := iW _ _
  match he' : adA st.h.length [x], hlen1 with
  | [z], _ =>
   rw [he'] at h3
   exact h3.2 0 z y rfl rfl
 | g cs => exact ⟨l, hshape, h3⟩
 | t cs =>
  obtain ⟨ls, e1, e2, e3, ys, e4, e5, e6⟩ := hshape
  subst e2
  refine ⟨ys, e4, by rw [e5, gG], fun i b c v hi hv' => ?_⟩
  have hlt : i < ls.length := by rw [e1, ← gG st.h.length cs]; exact (List.getElem?_eq_some_iff.1 hi).1
  have hm' : ls[i]? = some ls[i] := List.getElem?_eq_getElem hlt
  obtain ⟨⟨c0, hc0⟩, hcc⟩ := nI st.h.length cs ls e1 e3 h3 i b c _ hi hm'
  have := e6 i b c0 _ v hc0 hm' hv'
  cases b with
  | true => simp only [if_true] at this ⊢; exact ⟨_, this, hcc⟩
  | false => simp only [Bool.false_eq_true, if_false] at this ⊢; rw [← this]; exact hcc
theorem CallG.lendW {E : Env} {f : Nat} {args args' : List SV} {res : SV} {h : List HB} {k : List HB → SV → Prop} (hf : FnC E.P f args' res) (he : args.map (bI h) = args') (hfree : args'.all bC = true) (hres : res.all.all eX = true) (hk : k (h ++ adH res.all) (adS h.length res)) : CallG E f args h k ⟨⟩ :=
 ⟨_, _, fun T => CallS.lendW (st := ⟨T, h⟩) hf he hfree hres ⟨rfl, rfl⟩, hk⟩
theorem a2Q {P : Program} {C : Ctx} {c : Code} {F : Ex → St → Prop} {st : St} (id : Nat) {ty sz : Nat} {rows : List (List D)} (h : bK st.h id = .row ty sz rows true) (k : WP P C c F ⟨st.t, cK st.h id (.row ty sz rows false)⟩) : WP P C c F st := fun g V a w hr => by
 have h1 := aC h (by simp)
 obtain ⟨x, h2⟩ : ∃ x, g[id]? = some x := ⟨_, List.getElem?_eq_getElem (by rw [hr.hp.glen]; exact (List.getElem?_eq_some_iff.1 h1).1)⟩
 refine k g V a w ⟨hr.sl, ?_, hr.mod, hr.fr, hr.vw⟩
 rw [aR]
 obtain ⟨q0, ys, Ss, q1, _, q3⟩ := hr.hp.hb id _ x h1 h2
 have hnd := hr.hp.nd id _ x h1 h2
 refine hr.hp.set id h1 h2 (fun n hn => ?_) ?_ (fun n hn => hn) ⟨q0, ys, Ss, q1, (fun h => by cases h), q3⟩ (fun _ _ => rfl) rfl
 ·simp only [aJ] at hn ⊢
  simp only [Bool.false_eq_true, if_false, List.append_nil] at hn
  exact List.mem_append.2 (.inl hn)
 ·simp only [aJ, Bool.false_eq_true, if_false, List.append_nil] at hnd ⊢
  exact (List.nodup_append.1 hnd).1
end Go.Sx
end
end
section
namespace Go.Sx
open Go Go.RowKit
structure Hd (Q : Prop) : Prop where
 out : Q
theorem aN {P Q : Prop} (h : Q) (t : Hd Q → P := by intro h; (repeat' (with_reducible first | refine nY ?_ | (refine mX ?_; try simp only [go_sem]) | refine kD ?_ | refine rD ?_ | refine aO ?_ | fail)); exact h.out) : P := t ⟨h⟩
theorem zM {C0 : Prop} (c0 : C0) {P Q : Prop} (h : Q) (t : C0 → Hd Q → P := by intro c0 h; (repeat' (with_reducible first | refine nY ?_ | (refine mX ?_; try simp only [go_sem]) | refine kD ?_ | refine rD ?_ | refine cP c0 ?_ | refine aO ?_ | fail)); exact h.out) : P := t c0 ⟨h⟩
theorem a3C {C0 : Prop} (c0 : C0) {C1 : Prop} (c1 : C1) {P Q : Prop} (h : Q) (t : C0 → C1 → Hd Q → P := by intro c0 c1 h; (repeat' (with_reducible first | refine nY ?_ | (refine mX ?_; try simp only [go_sem]) | refine kD ?_ | refine rD ?_ | refine cP c0 ?_ | refine cP c1 ?_ | refine aO ?_ | fail)); exact h.out) : P := t c0 c1 ⟨h⟩
theorem lX {P Q : Prop} (h : Q) (t : Hd Q → P := by intro h; (repeat' (with_reducible first | refine nY ?_ | (refine mX ?_; try simp only [go_sem, q0]) | refine kD ?_ | refine rD ?_ | refine aO ?_ | fail)); exact h.out) : P := t ⟨h⟩
theorem vT {C0 : Prop} (c0 : C0) {P Q : Prop} (h : Q) (t : C0 → Hd Q → P := by intro c0 h; (repeat' (with_reducible first | refine nY ?_ | (refine mX ?_; try simp only [go_sem, q0]) | refine kD ?_ | refine rD ?_ | refine cP c0 ?_ | refine aO ?_ | fail)); exact h.out) : P := t c0 ⟨h⟩
theorem a2R {P Q : Prop} (h : Q) (t : Hd Q → P := by intro h; (repeat' (with_reducible first | refine nY ?_ | (refine mX ?_; try simp only [go_sem, q0, q1]) | refine kD ?_ | refine rD ?_ | refine aO ?_ | fail)); exact h.out) : P := t ⟨h⟩
theorem a3D {C0 : Prop} (c0 : C0) {P Q : Prop} (h : Q) (t : C0 → Hd Q → P := by intro c0 h; (repeat' (with_reducible first | refine nY ?_ | (refine mX ?_; try simp only [go_sem, q0, q1]) | refine kD ?_ | refine rD ?_ | refine cP c0 ?_ | refine aO ?_ | fail)); exact h.out) : P := t c0 ⟨h⟩
theorem a3E {C0 : Prop} (c0 : C0) {C1 : Prop} (c1 : C1) {P Q : Prop} (h : Q) (t : C0 → C1 → Hd Q → P := by intro c0 c1 h; (repeat' (with_reducible first | refine nY ?_ | (refine mX ?_; try simp only [go_sem, q0, q1]) | refine kD ?_ | refine rD ?_ | refine cP c0 ?_ | refine cP c1 ?_ | refine aO ?_ | fail)); exact h.out) : P := t c0 c1 ⟨h⟩
theorem a3F {P Q : Prop} (h : Q) (t : Hd Q → P := by intro h; (repeat' (with_reducible first | refine nY ?_ | (refine mX ?_; try simp only [go_sem, q0, q1, q2]) | refine kD ?_ | refine rD ?_ | refine aO ?_ | fail)); exact h.out) : P := t ⟨h⟩
theorem a0S {C0 : Prop} (c0 : C0) {P Q : Prop} (h : Q) (t : C0 → Hd Q → P := by intro c0 h; (repeat' (with_reducible first | refine nY ?_ | (refine mX ?_; try simp only [go_sem, q0, q1, q2]) | refine kD ?_ | refine rD ?_ | refine cP c0 ?_ | refine aO ?_ | fail)); exact h.out) : P := t c0 ⟨h⟩
theorem a2S {P Q : Prop} (h : Q) (t : Hd Q → P := by intro h; (repeat' (with_reducible first | refine nY ?_ | (refine mX ?_; try simp only [go_sem, q0, q1, q2, q3]) | refine kD ?_ | refine rD ?_ | refine aO ?_ | fail)); exact h.out) : P := t ⟨h⟩
theorem a1U {P Q : Prop} (h : Q) (t : Hd Q → P := by intro h; (repeat' (with_reducible first | refine nY ?_ | (refine mX ?_; try simp only [go_sem, q0, q1, q2, q3, q4]) | refine kD ?_ | refine rD ?_ | refine aO ?_ | fail)); exact h.out) : P := t ⟨h⟩
theorem a3G {C0 : Prop} (c0 : C0) {C1 : Prop} (c1 : C1) {P Q : Prop} (h : Q) (t : C0 → C1 → Hd Q → P := by intro c0 c1 h; (repeat' (with_reducible first | refine nY ?_ | (refine mX ?_; try simp only [go_sem, q0, q1, q2, q3, q4]) | refine kD ?_ | refine rD ?_ | refine cP c0 ?_ | refine cP c1 ?_ | refine aO ?_ | fail)); exact h.out) : P := t c0 c1 ⟨h⟩
theorem a4O {C0 : Prop} (c0 : C0) {C1 : Prop} (c1 : C1) {P Q : Prop} (h : Q) (t : C0 → C1 → Hd Q → P := by intro c0 c1 h; (repeat' (with_reducible first | refine nY ?_ | (refine mX ?_; try simp only [go_sem, q0, q1, q2, q3, q4, q5]) | refine kD ?_ | refine rD ?_ | refine cP c0 ?_ | refine cP c1 ?_ | refine aO ?_ | fail)); exact h.out) : P := t c0 c1 ⟨h⟩
theorem a4P {P Q : Prop} (h : Q) (t : Hd Q → P := by intro h; (repeat' (with_reducible first | refine nY ?_ | (refine mX ?_; try simp only [go_sem, q0, q1, q2, q3, q4, q5, q6, q7]) | refine kD ?_ | refine rD ?_ | refine aO ?_ | fail)); exact h.out) : P := t ⟨h⟩
end Go.Sx
end
section
namespace Go.Proofs.Yteaaopodnbjpoaa
open Go Go.Sx Go.RowKit
noncomputable def ttl : List Ty := [.bad,
 .bad,
 ⟨3, 1, 8, [.d (.v (.int .i64 0))], [], 0, .i64⟩,
 ⟨3, 1, 8, [.d (.v (.int .i64 0))], [], 0, .i64⟩,
 ⟨4, 1, 1, [.d (.v (.bool false))], [], 0, .i64⟩,
 ⟨3, 1, 1, [.d (.v (.int .u8 0))], [], 0, .u8⟩,
 ⟨3, 1, 1, [.d (.v (.int .u8 0))], [], 0, .u8⟩,
 ⟨1, 4, 24, [.d (.v (.int .i64 0)), .d (.v (.int .i64 0)), .d (.v (.bool false)), .d (.v (.int .u8 0))], [(0, 2), (1, 3), (2, 4), (3, 6)], 0, .i64⟩,
 ⟨1, 4, 24, [.d (.v (.int .i64 0)), .d (.v (.int .i64 0)), .d (.v (.bool false)), .d (.v (.int .u8 0))], [(0, 2), (1, 3), (2, 4), (3, 6)], 0, .i64⟩,
 ⟨5, 1, 16, [.d (.v (.string ⟨#[]⟩))], [], 0, .i64⟩,
 ⟨5, 1, 16, [.d (.v (.string ⟨#[]⟩))], [], 0, .i64⟩,
 ⟨5, 1, 16, [.d (.v (.string ⟨#[]⟩))], [], 0, .i64⟩,
 .bad,
 .bad,
 .bad,
 .bad,
 .bad,
 .bad,
 .bad,
 .bad,
 .bad,
 .bad,
 ⟨2, 1, 24, [.z], [], 39, .i64⟩,
 ⟨2, 1, 24, [.z], [], 42, .i64⟩,
 .bad,
 .bad,
 ⟨2, 1, 24, [.z], [], 43, .i64⟩,
 .bad,
 .bad,
 ⟨2, 1, 24, [.z], [], 44, .i64⟩,
 .bad,
 .bad,
 .bad,
 .bad,
 .bad,
 .bad,
 .bad,
 ⟨2, 1, 24, [.z], [], 3, .i64⟩,
 ⟨1, 2, 40, [.d (.v (.string ⟨#[]⟩)), .z], [(0, 9), (1, 37)], 0, .i64⟩,
 ⟨1, 2, 40, [.d (.v (.string ⟨#[]⟩)), .z], [(0, 9), (1, 37)], 0, .i64⟩,
 .bad,
 ⟨1, 3, 64, [.d (.v (.string ⟨#[]⟩)), .z, .z], [(0, 9), (1, 37), (2, 37)], 0, .i64⟩,
 ⟨1, 3, 64, [.d (.v (.string ⟨#[]⟩)), .z, .z], [(0, 9), (1, 37), (2, 37)], 0, .i64⟩,
 ⟨1, 2, 40, [.d (.v (.string ⟨#[]⟩)), .z], [(0, 9), (1, 37)], 0, .i64⟩,
 ⟨1, 3, 64, [.d (.v (.string ⟨#[]⟩)), .z, .z], [(0, 9), (1, 37), (2, 37)], 0, .i64⟩,
 .bad,
 .bad,
 .bad,
 .bad,
 .bad,
 .bad,
 .bad,
 .bad,
 .bad,
 .bad,
 .bad,
 .bad,
 .bad,
 ⟨2, 1, 24, [.z], [], 5, .i64⟩,
 .bad,
 .bad,
 .bad,
 .bad,
 .bad,
 .bad,
 .bad,
 .bad,
 .bad,
 ⟨3, 1, 8, [.d (.v (.int .i64 0))], [], 0, .i64⟩,
 .bad,
 .bad,
 .bad,
 .bad,
 .bad,
 .bad,
 .bad,
 .bad,
 .bad,
 .bad,
 .bad,
 .bad,
 .bad,
 .bad,
 .bad,
 .bad,
 .bad,
 .bad,
 .bad,
 .bad,
 .bad,
 .bad,
 .bad,
 .bad,
 .bad,
 .bad,
 .bad,
 ⟨3, 1, 1, [.d (.v (.int .u8 0))], [], 0, .u8⟩,
 ⟨3, 1, 1, [.d (.v (.int .u8 0))], [], 0, .u8⟩,
 .bad,
 .bad,
 .bad,
 .bad,
 .bad,
 .bad,
 .bad]
noncomputable def tt : Nat → Ty := fun t => ttl.getD t .bad
theorem zH : TyOK Try.prog tt := TyOK.of_list (by kernel_rfl)
theorem tts : tt 2 = ⟨3, 1, 8, [.d (.v (.int .i64 0))], [], 0, .i64⟩ ∧ tt 3 = ⟨3, 1, 8, [.d (.v (.int .i64 0))], [], 0, .i64⟩ ∧ tt 4 = ⟨4, 1, 1, [.d (.v (.bool false))], [], 0, .i64⟩ ∧ tt 5 = ⟨3, 1, 1, [.d (.v (.int .u8 0))], [], 0, .u8⟩ ∧ tt 6 = ⟨3, 1, 1, [.d (.v (.int .u8 0))], [], 0, .u8⟩ ∧ tt 7 = ⟨1, 4, 24, [.d (.v (.int .i64 0)), .d (.v (.int .i64 0)), .d (.v (.bool false)), .d (.v (.int .u8 0))], [(0, 2), (1, 3), (2, 4), (3, 6)], 0, .i64⟩ ∧ tt 8 = ⟨1, 4, 24, [.d (.v (.int .i64 0)), .d (.v (.int .i64 0)), .d (.v (.bool false)), .d (.v (.int .u8 0))], [(0, 2), (1, 3), (2, 4), (3, 6)], 0, .i64⟩ ∧ tt 9 = ⟨5, 1, 16, [.d (.v (.string ⟨#[]⟩))], [], 0, .i64⟩ ∧ tt 10 = ⟨5, 1, 16, [.d (.v (.string ⟨#[]⟩))], [], 0, .i64⟩ ∧ tt 11 = ⟨5, 1, 16, [.d (.v (.string ⟨#[]⟩))], [], 0, .i64⟩ ∧ tt 22 = ⟨2, 1, 24, [.z], [], 39, .i64⟩ ∧ tt 23 = ⟨2, 1, 24, [.z], [], 42, .i64⟩ ∧ tt 26 = ⟨2, 1, 24, [.z], [], 43, .i64⟩ ∧ tt 29 = ⟨2, 1, 24, [.z], [], 44, .i64⟩ ∧ tt 37 = ⟨2, 1, 24, [.z], [], 3, .i64⟩ ∧ tt 38 = ⟨1, 2, 40, [.d (.v (.string ⟨#[]⟩)), .z], [(0, 9), (1, 37)], 0, .i64⟩ ∧ tt 39 = ⟨1, 2, 40, [.d (.v (.string ⟨#[]⟩)), .z], [(0, 9), (1, 37)], 0, .i64⟩ ∧ tt 41 = ⟨1, 3, 64, [.d (.v (.string ⟨#[]⟩)), .z, .z], [(0, 9), (1, 37), (2, 37)], 0, .i64⟩ ∧ tt 42 = ⟨1, 3, 64, [.d (.v (.string ⟨#[]⟩)), .z, .z], [(0, 9), (1, 37), (2, 37)], 0, .i64⟩ ∧ tt 43 = ⟨1, 2, 40, [.d (.v (.string ⟨#[]⟩)), .z], [(0, 9), (1, 37)], 0, .i64⟩ ∧ tt 44 = ⟨1, 3, 64, [.d (.v (.string ⟨#[]⟩)), .z, .z], [(0, 9), (1, 37), (2, 37)], 0, .i64⟩ ∧ tt 58 = ⟨2, 1, 24, [.z], [], 5, .i64⟩ ∧ tt 68 = ⟨3, 1, 8, [.d (.v (.int .i64 0))], [], 0, .i64⟩ ∧ tt 96 = ⟨3, 1, 1, [.d (.v (.int .u8 0))], [], 0, .u8⟩ ∧ tt 97 = ⟨3, 1, 1, [.d (.v (.int .u8 0))], [], 0, .u8⟩ :=
 ⟨rfl, rfl, rfl, rfl, rfl, rfl, rfl, rfl, rfl, rfl, rfl, rfl, rfl, rfl, rfl, rfl, rfl, rfl, rfl, rfl, rfl, rfl, rfl, rfl, rfl⟩
def eqk : Nat → List Nat := fun t =>  []
theorem a2J : ∀ t, eqk t ≠ [] → EqT Try.prog t (eqk t) := fun t h => (h rfl).elim
noncomputable def EV (C : Ctx) : Env := ⟨Try.prog, tt, C, eqk⟩
theorem a4C (C : Ctx) : (EV C).T = tt := rfl
theorem a4D (C : Ctx) : (EV C).eqk = eqk := rfl
attribute [go_sem] tts a4C a4D eqk
theorem reg {C : Ctx} {id : Nat} {ops : List Oper} {F : Ex → St → Prop} {st : St} (h : vcRun (EV C) ops ops st (F .normal) ⟨⟩) : WP Try.prog C (.region id ops.toArray false) F st := yN (E := EV C) zH a2J h.out
instance nReg {C : Ctx} {id : Nat} {ops : List Oper} {F : Ex → St → Prop} {st : St} : Ny (WP Try.prog C (.region id ops.toArray false) F st) (vcRun (EV C) ops ops st (F .normal) ⟨⟩) := ⟨reg⟩
instance nCond {C : Ctx} {c : Operand} {x y : Code} {F : Ex → St → Prop} {st : St} : Ny (WP Try.prog C (.cond c x y) F st) (Nm (cndK (ev st c) (WP Try.prog C x F st) (WP Try.prog C y F st) ⟨⟩)) := ⟨fun h => by obtain ⟨b, hs, h1, h2⟩ := h; exact a1q (E := EV C) hs h1 h2⟩
instance clT {C : Ctx} {f : Nat} {args args' : List SV} {res : SV} {st : St} {K : St → SV → Prop} : Cy Try.prog f args' res (CallT (EV C) f args st K ⟨⟩) (args.map (cZ (aL st.h (bJ args))) = args' ∧ args'.all bC = true) (Nm (K ⟨st.t, aL st.h (bJ args) ++ adH res.all⟩ (adS (aL st.h (bJ args)).length res))) := ⟨fun h o k => ⟨CallS.frz (E := EV C) h o.1 o.2 k⟩⟩
instance clD {C : Ctx} {f : Nat} {args args' : List SV} {res : SV} {h : List HB} {k : SV → Prop} : Cy Try.prog f args' res (CallD (EV C) f args h k ⟨⟩) ((args.map (cZ h) = args' ∧ args'.all bC = true) ∧ res.all.all isD = true) (Nm (k res)) := ⟨fun hf o hk => CallD.of_fn (E := EV C) hf o.1.1 o.1.2 o.2 hk⟩
instance clG {C : Ctx} {f : Nat} {args args' : List SV} {res : SV} {h : List HB} {k : List HB → SV → Prop} : Cy Try.prog f args' res (CallG (EV C) f args h k ⟨⟩) (args.map (cZ (aL h (bJ args))) = args' ∧ args'.all bC = true) (Nm (k (aL h (bJ args) ++ adH res.all) (adS (aL h (bJ args)).length res))) := ⟨fun hf o hk => CallG.frz (E := EV C) hf o.1 o.2 hk⟩
theorem fol : Try.prog.follows .mixedOrders = true := by kernel_rfl
theorem a2K {C : Ctx} {id : Nat} {ops : List Oper} {F : Ex → St → Prop} {st : St} (hB : Region.lexB .any ops.toArray = true) (h : vcDRun (EV C) ops ops st (F .normal) ⟨⟩) : WP Try.prog C (.region id ops.toArray true) F st := a1x (E := EV C) zH a2J fol hB h.out
theorem ent {f : Nat} {fn : Func} {c : Code} {rs : List ResultVar} {args : List SV} {res : SV} (hf : Try.prog.funcs[f]? = some fn) (hb : fn.body = some c) (hcall : ∀ x w, (callFunc f x).run Try.prog w = .ok (.enter f x) w) (hres : fn.results = rs.toArray)
    (h : ∀ C : Ctx, WP Try.prog C c (aP Try.prog C [] (a0l (EV C) rs res)) (st0 args fn.ntmps)) : FnC Try.prog f args res := FnC.of_wp (eqk := eqk) zH hf hb hcall hres fun C _ => h C
theorem a3y {C : Ctx} {f : Nat} {args args' : List SV} {res : SV} {h : List HB} {k : SV → Prop} (hf : FnC Try.prog f args' res) (h1 : args.map (bI h) = args') (h2 : args'.all bC = true) (h3 : res.all.all isD = true) (h4 : res.all.all eX = true) (hk : k res) : CallD (EV C) f args h k ⟨⟩ := CallD.of_own (E := EV C) hf h1 h2 h3 h4 hk
theorem a4E {C : Ctx} {f : Nat} {args args' : List SV} {res : SV} {st : St} {K : St → SV → Prop} (h : FnC Try.prog f args' res) (he : args.map (bI (aL st.h (bJ args))) = args') (hfree : args'.all bC = true) (hres : res.all.all eX = true) (k : K ⟨st.t, aL st.h (bJ args) ++ adG (fun _ => none) 0 res.all⟩ (adS (aL st.h (bJ args)).length res)) : CallT (EV C) f args st K ⟨⟩ := ⟨CallS.lendF (E := EV C) h he hfree hres k⟩
theorem a4F {C : Ctx} {f : Nat} {b : Bool} {cs outs : List At} {n res : Int} {a0 : SV} {st : St} {K : St → SV → Prop} (h : FnM Try.prog f b cs outs n res) (ha : isG a0 = some b) (hm : bA st.h a0.cells cs outs) (k : K ⟨st.t, fG st.h a0.cells outs⟩ (oi res)) : CallT (EV C) f [a0, oi n] st K ⟨⟩ := ⟨CallS.mark (E := EV C) h (yQ ha) hm k⟩
theorem a4G {C : Ctx} {f : Nat} {ty0 ty1 sz' : Nat} {sub0 sub1 : List (List D)} {n res : Int} {id sz i fo : Nat} {st : St} {K : St → SV → Prop} (h : FnM Try.prog f false [.w ty0 sz' sub0] [.w ty1 sz' sub1] n res) (ok : oO st.h id sz i fo sz' sub0) (k : K ⟨st.t, uV st.h id i fo sub1⟩ (oi res)) : CallT (EV C) f [.o (.n id sz i fo), oi n] st K ⟨⟩ := ⟨CallS.partC (E := EV C) h ok k⟩
theorem a4H {C : Ctx} {f ty sz id : Nat} {rows rows' : List (List D)} {args' rest : List SV} {st : St} {K : St → SV → Prop} (h : FnI Try.prog f ty sz rows args' false rows') (hid : bK (aL st.h (bJ rest)) id = .row ty sz rows true) (he : rest.map (cZ (aL st.h (bJ rest))) = args') (hfree : args'.all bC = true) (k : K ⟨st.t.map (mQ id), cK ((aL st.h (bJ rest)).map (jI id)) id (.row ty sz rows' true)⟩ (.o (.s id))) : CallT (EV C) f (.o (.s id) :: rest) st K ⟨⟩ := ⟨CallS.give (E := EV C) h hid he hfree (by simpa using k)⟩
theorem a4I {C : Ctx} {f ty sz id : Nat} {rows rows' : List (List D)} {args' rest : List SV} {st : St} {K : St → SV → Prop} (h : FnI Try.prog f ty sz rows args' true rows') (hid : bK (aL st.h (bJ rest)) id = .row ty sz rows true) (he : rest.map (cZ (aL st.h (bJ rest))) = args') (hfree : args'.all bC = true) (k : K ⟨st.t, cK (aL st.h (bJ rest)) id (.row ty sz rows' true)⟩ (.t [])) : CallT (EV C) f (.o (.s id) :: rest) st K ⟨⟩ := ⟨CallS.give (E := EV C) h hid he hfree (by simpa using k)⟩
theorem entm {f : Nat} {fn : Func} {c : Code} {rs : List ResultVar} {b : Bool} {cs outs : List At} {n res : Int} (hf : Try.prog.funcs[f]? = some fn) (hb : fn.body = some c) (hcall : ∀ x w, (callFunc f x).run Try.prog w = .ok (.enter f x) w) (hres : fn.results = rs.toArray) (hone : b = false → cs.length = 1) (hsh : shp cs outs)
    (h : ∀ (C : Ctx) (tg : Nat → Option (Value × List Nat × List Value)), WP Try.prog C c (aP Try.prog C [] (a3s (EV C) rs res (adG tg 0 outs))) (stM tg b cs n fn.ntmps)) : FnM Try.prog f b cs outs n res := FnM.of_wp (eqk := eqk) zH hf hb hcall hres hone hsh h
theorem a4J {C : Ctx} {f : Nat} {args args' : List SV} {res : SV} {st : St} {K : St → SV → Prop} (h : FnC Try.prog f args' res) (he : args.map (bI st.h) = args') (hfree : args'.all bC = true) (hres : res.all.all eX = true) (k : K ⟨st.t, st.h ++ adH res.all⟩ (adS st.h.length res)) : CallT (EV C) f args st K ⟨⟩ := ⟨CallS.lendW (E := EV C) h he hfree hres k⟩
theorem cGr {C : Ctx} {f : Nat} {args args' : List SV} {res : SV} {h : List HB} {k : List HB → SV → Prop} (hf : FnC Try.prog f args' res) (he : args.map (bI h) = args') (hfree : args'.all bC = true) (hres : res.all.all eX = true) (hk : k (h ++ adH res.all) (adS h.length res)) : CallG (EV C) f args h k ⟨⟩ := CallG.lendW (E := EV C) hf he hfree hres hk
theorem vO {C : Ctx} {f : Nat} {args args' : List SV} {res : SV} {st : St} {K : St → SV → Prop} (h : FnC Try.prog f args' res) (k : Nm (K ⟨st.t, aL st.h (bJ args) ++ adG (fun _ => none) 0 res.all⟩ (adS (aL st.h (bJ args)).length res))) (he : args.map (bI (aL st.h (bJ args))) = args' := by simp only [go_sem, qH] <;> fail) (hfree : args'.all bC = true := by simp only [go_sem, qH] <;> fail) (hres : res.all.all eX = true := by simp only [go_sem, qH] <;> fail) : CallT (EV C) f args st K ⟨⟩ := a4E h he hfree hres k
theorem vQ {C : Ctx} {f : Nat} {args args' : List SV} {res : SV} {h : List HB} {k : SV → Prop} (hf : FnC Try.prog f args' res) (hk : Nm (k res)) (h1 : args.map (bI h) = args' := by simp only [go_sem, qH] <;> fail) (h2 : args'.all bC = true := by simp only [go_sem, qH] <;> fail) (h3 : res.all.all isD = true := by simp only [go_sem, qH] <;> fail) (h4 : res.all.all eX = true := by simp only [go_sem, qH] <;> fail) : CallD (EV C) f args h k ⟨⟩ := a3y hf h1 h2 h3 h4 hk
theorem vM {C : Ctx} {f : Nat} {b : Bool} {cs outs : List At} {n res : Int} {a0 : SV} {st : St} {K : St → SV → Prop} (h : FnM Try.prog f b cs outs n res) (k : Nm (K ⟨st.t, fG st.h a0.cells outs⟩ (oi res))) (ha : isG a0 = some b := by simp only [go_sem] <;> fail) (hm : bA st.h a0.cells cs outs := by simp only [go_sem, qH] <;> fail) : CallT (EV C) f [a0, oi n] st K ⟨⟩ := a4F h ha hm k
theorem vN {C : Ctx} {f : Nat} {ty0 ty1 sz' : Nat} {sub0 sub1 : List (List D)} {n res : Int} {id sz i fo : Nat} {st : St} {K : St → SV → Prop} (h : FnM Try.prog f false [.w ty0 sz' sub0] [.w ty1 sz' sub1] n res) (k : Nm (K ⟨st.t, uV st.h id i fo sub1⟩ (oi res))) (ok : oO st.h id sz i fo sz' sub0 := by simp only [go_sem, qH] <;> fail) : CallT (EV C) f [.o (.n id sz i fo), oi n] st K ⟨⟩ := a4G h ok k
theorem vI {C : Ctx} {f ty sz id : Nat} {rows rows' : List (List D)} {args' rest : List SV} {st : St} {K : St → SV → Prop} (h : FnI Try.prog f ty sz rows args' false rows') (k : Nm (K ⟨st.t.map (mQ id), cK ((aL st.h (bJ rest)).map (jI id)) id (.row ty sz rows' true)⟩ (.o (.s id)))) (hid : bK (aL st.h (bJ rest)) id = .row ty sz rows true := by simp only [go_sem, qH] <;> fail) (he : rest.map (cZ (aL st.h (bJ rest))) = args' := by simp only [go_sem, qH] <;> fail) (hfree : args'.all bC = true := by simp only [go_sem, qH] <;> fail) : CallT (EV C) f (.o (.s id) :: rest) st K ⟨⟩ := a4H h hid he hfree k
theorem vJ {C : Ctx} {f ty sz id : Nat} {rows rows' : List (List D)} {args' rest : List SV} {st : St} {K : St → SV → Prop} (h : FnI Try.prog f ty sz rows args' true rows') (k : Nm (K ⟨st.t, cK (aL st.h (bJ rest)) id (.row ty sz rows' true)⟩ (.t []))) (hid : bK (aL st.h (bJ rest)) id = .row ty sz rows true := by simp only [go_sem, qH] <;> fail) (he : rest.map (cZ (aL st.h (bJ rest))) = args' := by simp only [go_sem, qH] <;> fail) (hfree : args'.all bC = true := by simp only [go_sem, qH] <;> fail) : CallT (EV C) f (.o (.s id) :: rest) st K ⟨⟩ := a4I h hid he hfree k
theorem vR {C : Ctx} {f : Nat} {args args' : List SV} {res : SV} {st : St} {K : St → SV → Prop} (h : FnC Try.prog f args' res) (k : Nm (K ⟨st.t, st.h ++ adH res.all⟩ (adS st.h.length res))) (he : args.map (bI st.h) = args' := by simp only [go_sem, qH] <;> fail) (hfree : args'.all bC = true := by simp only [go_sem, qH] <;> fail) (hres : res.all.all eX = true := by simp only [go_sem, qH] <;> fail) : CallT (EV C) f args st K ⟨⟩ := a4J h he hfree hres k
theorem vG {C : Ctx} {f : Nat} {args args' : List SV} {res : SV} {h : List HB} {k : List HB → SV → Prop} (hf : FnC Try.prog f args' res) (hk : Nm (k (h ++ adH res.all) (adS h.length res))) (he : args.map (bI h) = args' := by simp only [go_sem, qH] <;> fail) (hfree : args'.all bC = true := by simp only [go_sem, qH] <;> fail) (hres : res.all.all eX = true := by simp only [go_sem, qH] <;> fail) : CallG (EV C) f args h k ⟨⟩ := cGr hf he hfree hres hk
theorem rD {C : Ctx} {id : Nat} {ops : List Oper} {F : Ex → St → Prop} {st : St} (h : vcDRun (EV C) ops ops st (F .normal) ⟨⟩) (hB : Region.lexB .any ops.toArray = true := by kernel_rfl) : WP Try.prog C (.region id ops.toArray true) F st := a2K hB h
end Go.Proofs.Yteaaopodnbjpoaa
end
section
section
set_option linter.all false
namespace Go.Sx
open Go Go.RowKit
def V0 (w : World) : View := fun b => match w.heap[b]? with
 | some (.cells c _ _) => some c.toList
 | _ => none
theorem a2s (w : World) : Mod (V0 w) w := fun b cs h => by
 unfold V0 at h
 split at h
 ·rename_i c t f e
  cases h
  exact ⟨c, t, f, e, List.prefix_refl _⟩
 ·cases h
theorem a1n {w : World} {a : Addr} {y : Value} (h : w.cell? a = some y) : (V0 w).cell a = some y := by
 unfold World.cell? at h
 unfold View.cell V0
 split at h
 ·rename_i c t f e
  by_cases hs : a.spot.isSome
  ·rw [if_pos hs] at h; cases h
  ·rw [if_neg hs] at h ⊢
   rw [e]
   simpa using h
 ·cases h
def qM (T : Nat → Ty) : Nat → List (Nat × Nat) → Option Nat
 | o, [] => some o
 | o, p :: r => if p.1 = o ∧ (T p.2).tag ≠ 0 then qM T (o + (T p.2).size) r else none
def Cl (T : Nat → Ty) : Prop := ∀ t, ((T t).tag = 1 → qM T 0 (T t).flds = some (T t).size) ∧ ((T t).tag = 2 → (T (T t).elem).tag ≠ 0) ∧ ((T t).tag = 3 → (T t).kind = .i64 ∨ (T t).kind = .u8)
def clB (l : List Ty) (d : Ty) : Bool := match d.tag with
 | 1 => qM (fun t => l.getD t .bad) 0 d.flds == some d.size
 | 2 => (l.getD d.elem .bad).tag != 0
 | 3 => d.kind == .i64 || d.kind == .u8
 | _ => true
theorem Cl.of_list {l : List Ty} (h : l.all (clB l) = true) : Cl (fun t => l.getD t .bad) := fun t => by
 have key : clB l (l.getD t .bad) = true := by
  rcases Nat.lt_or_ge t l.length with hl | hl
  ·rw [List.getD_eq_getElem?_getD, List.getElem?_eq_getElem hl]
   exact List.all_eq_true.1 h _ (List.getElem_mem hl)
  ·rw [List.getD_eq_getElem?_getD, List.getElem?_eq_none hl]; rfl
 unfold clB at key
 refine ⟨fun e => ?_, fun e => ?_, fun e => ?_⟩
 ·simp only [e] at key; simpa using key
 ·simp only [e] at key; simpa using key
 ·simp only [e] at key; simpa using key
def ShFs (sh : Nat → List D → Prop) : List (Nat × Nat) → List D → Prop
 | [], ds => ds = []
 | p :: r, ds => ∃ a b, ds = a ++ b ∧ sh p.2 a ∧ ShFs sh r b
def ShD (T : Nat → Ty) : Nat → Nat → List D → Prop
 | 0, _, _ => False
 | n + 1, t, ds => match (T t).tag with
  | 1 => ShFs (ShD T n) (T t).flds ds
  | 2 => ∃ rows, ds = [.sl rows] ∧ rows.length ≤ maxLen ∧ ∀ r ∈ rows, ShD T n (T t).elem r
  | 3 => ∃ i, ds = [.v (.int (T t).kind i)] ∧ inR (T t).kind i
  | 4 => ∃ b, ds = [bv b]
  | 5 => ∃ s : ByteArray, ds = [sv s] ∧ s.size ≤ maxLen
  | _ => False
theorem lJ {α β : Type} {f : α → Option β} : ∀ {l : List α} {ys : List β}, l.mapM f = some ys → ∀ (i : Nat) (x : α), l[i]? = some x → ∃ y, f x = some y ∧ ys[i]? = some y
 | [], _, _, i, x, h => by simp at h
 | a :: l, ys, h, i, x, hx => by
  rw [List.mapM_cons] at h
  cases hfa : f a with
  | none => rw [hfa] at h; cases h
  | some b =>
   rw [hfa] at h
   cases hl : l.mapM f with
   | none => rw [hl] at h; cases h
   | some bs =>
    rw [hl] at h
    cases h
    cases i with
    | zero => simp at hx; subst hx; exact ⟨b, hfa, rfl⟩
    | succ i => simpa using lJ hl i x (by simpa using hx)
theorem uJ {α β : Type} {f : α → Option β} : ∀ {l : List α} {ys : List β}, l.mapM f = some ys → ys.length = l.length
 | [], ys, h => by cases h; rfl
 | a :: l, ys, h => by
  rw [List.mapM_cons] at h
  cases hfa : f a with
  | none => rw [hfa] at h; cases h
  | some b =>
   rw [hfa] at h
   cases hl : l.mapM f with
   | none => rw [hl] at h; cases h
   | some bs => rw [hl] at h; cases h; simp [uJ hl]
theorem kH {α : Type} (enc : α → List D) (wf : α → Prop) : ∀ {rows : List (List D)}, (∀ r ∈ rows, ∃ x, r = enc x ∧ wf x) → ∃ l : List α, rows = l.map enc ∧ ∀ x ∈ l, wf x
 | [], _ => ⟨[], rfl, fun x h => by cases h⟩
 | r :: rows, h => by
  obtain ⟨x, rfl, hx⟩ := h r (by simp)
  obtain ⟨l, rfl, hl⟩ := kH enc wf (rows := rows) fun r hr => h r (by simp [hr])
  exact ⟨x :: l, rfl, fun y hy => (List.mem_cons.1 hy).elim (fun e => e ▸ hx) (hl y)⟩
section
variable {H : Type} {enc : TypeId × Value → H} {P : Program} {w : World} {T : Nat → Ty}
theorem wI {base : Nat} {a : Addr} {n : Nat} {cs : List Value} (h : w.cells? base a n = some cs) : cs.length = n ∧ ∀ k y, cs[k]? = some y → (V0 w).cell (a.add k) = some y := by
 unfold World.cells? at h
 split at h
 ·have hl := uJ h
  rw [List.length_range] at hl
  refine ⟨hl, fun k y hk => ?_⟩
  have hk' : k < n := by rw [← hl]; exact (List.getElem?_eq_some_iff.1 hk).1
  obtain ⟨y', h1, h2⟩ := lJ h k k (by simp [hk'])
  rw [hk] at h2; cases h2
  exact a1n h1
 ·cases h
theorem TyGood.cells {t : Nat} {d : Ty} {i : TypeInfo} {z : Value} {u : TypeDesc} (h : TyGood P t d i z u) : P.cellsOf t = d.size := by
 simp [Program.cellsOf, h.info, h.size]
theorem TyOK.cells (hT : TyOK P T) {t : Nat} (ht : (T t).tag ≠ 0) : P.cellsOf t = (T t).size := by
 obtain ⟨i, z, u, h⟩ := hT.good ht; exact h.cells
theorem qN (hT : TyOK P T) {n : Nat} {sh : Nat → List D → Prop} {spare : Nat → Bool}
    (ih : ∀ t cs d ps, (T t).tag ≠ 0 → DataW.trod enc P w 0 spare true n t cs = some (d, ps) → ∃ ds Ss, sh t ds ∧ LayL (V0 w) ds cs Ss) {cs : List Value} :
    ∀ {fs : List Field} {ps : List (Nat × Nat)} {o : Nat} {xs : List (DataW H × List MemPlace)}, bT fs ps = true → qM T o ps = some cs.length →
     (fs.mapM fun f => DataW.trod enc P w 0 spare true n f.type ((cs.drop f.offset).take (P.cellsOf f.type))) = some xs → ∃ ds Ss, ShFs sh ps ds ∧ LayL (V0 w) ds (cs.drop o) Ss
 | [], [], o, xs, _, ht, _ => by
  simp only [qM, Option.some.injEq] at ht
  subst ht
  exact ⟨[], [], rfl, by rw [List.drop_length]; exact LayL.nil _⟩
 | f :: fs, p :: ps, o, xs, hf, ht, hm => by
  simp only [bT, Bool.and_eq_true, beq_iff_eq] at hf
  simp only [qM] at ht
  split at ht
  ·rename_i hp
   rw [List.mapM_cons] at hm
   cases h1 : DataW.trod enc P w 0 spare true n f.type ((cs.drop f.offset).take (P.cellsOf f.type)) with
   | none => rw [h1] at hm; cases hm
   | some x =>
    rw [h1] at hm
    cases h2 : (fs.mapM fun f => DataW.trod enc P w 0 spare true n f.type ((cs.drop f.offset).take (P.cellsOf f.type))) with
    | none => rw [h2] at hm; cases hm
    | some ys =>
     obtain ⟨ds, Ss, q1, q2⟩ := ih _ _ x.1 x.2 (by rw [hf.1.2]; exact hp.2) h1
     obtain ⟨ds', Ss', q3, q4⟩ := qN hT ih hf.2 ht h2
     rw [hf.1.2] at q1 q2
     rw [hT.cells hp.2, hf.1.1, hp.1] at q2
     refine ⟨ds ++ ds', Ss ++ Ss', ⟨ds, ds', rfl, q1, q3⟩, ?_⟩
     have e : cs.drop o = (cs.drop o).take (T p.2).size ++ cs.drop (o + (T p.2).size) := by
      rw [← List.drop_drop, List.take_append_drop]
     rw [e]
     exact q2.append q4
  ·cases ht
 | [], _ :: _, _, _, h, _, _ => by simp [bT] at h
 | _ :: _, [], _, _, h, _, _ => by simp [bT] at h
theorem qO {sh : List D → Prop} {a : Addr} {sz : Nat} {g : List Value → Option (DataW H × List MemPlace)}
    (ih : ∀ cs d ps, g cs = some (d, ps) → ∃ ds Ss, sh ds ∧ LayL (V0 w) ds cs Ss) :
    ∀ {n : Nat}, (∀ i, i < n → ∃ x, ((w.cells? 0 (a.add (i * sz)) sz).bind g) = some x) →
     ∃ (rows : List (List D)) (ys : List Value) (Ss : List (List Nat)), rows.length = n ∧ (∀ r ∈ rows, sh r ∧ r.length = sz) ∧ ys.length = n * sz ∧ (∀ k y, ys[k]? = some y → (V0 w).cell (a.add k) = some y) ∧ LayL (V0 w) rows.flatten ys Ss
 | 0, _ => ⟨[], [], [], rfl, fun r h => (by cases h), by simp, fun k y h => (by simp at h), LayL.nil _⟩
 | n + 1, h => by
  obtain ⟨rows, ys, Ss, r1, r2, r3, r4, r5⟩ := qO ih (n := n) fun i hi => h i (by omega)
  obtain ⟨x, hx⟩ := h n (by omega)
  cases hc : w.cells? 0 (a.add (n * sz)) sz with
  | none => rw [hc] at hx; cases hx
  | some cs =>
   rw [hc] at hx
   obtain ⟨ds, Ss', q1, q2⟩ := ih cs x.1 x.2 hx
   obtain ⟨c1, c2⟩ := wI hc
   refine ⟨rows ++ [ds], ys ++ cs, Ss ++ Ss', by simp [r1], fun r hr => ?_, by simp [r3, c1, Nat.succ_mul], fun k y hk => ?_, by simpa using r5.append q2⟩
   ·rcases List.mem_append.1 hr with hr | hr
    ·exact r2 r hr
    ·rw [List.mem_singleton] at hr; subst hr; exact ⟨q1, by rw [← q2.1, c1]⟩
   ·rw [List.getElem?_append] at hk
    split at hk
    ·exact r4 k y hk
    ·rename_i hlt
     have := c2 _ y hk
     rw [kT] at this
     rw [r3] at this hlt
     rwa [show n * sz + (k - n * sz) = k by omega] at this
theorem rT (hT : TyOK P T) (hC : Cl T) : ∀ {n t : Nat} {cs : List Value} {d : DataW H} {ps : List MemPlace}, (T t).tag ≠ 0 → DataW.trod enc P w 0 (fun _ => true) true n t cs = some (d, ps) → ∃ ds Ss, ShD T n t ds ∧ LayL (V0 w) ds cs Ss
 | 0, _, _, _, _, _, h => by simp [DataW.trod] at h
 | n + 1, t, cs, d, ps, ht, h => by
  obtain ⟨i, z, u, hg⟩ := hT.good ht
  have one : ∀ {d : D} {y : Value}, (∃ S, Lay (V0 w) d y S) → ∃ Ss, LayL (V0 w) [d] [y] Ss := fun ⟨S, hS⟩ => ⟨[S], rfl, rfl, fun k d' y' S' h1 h2 h3 => by
   cases k with
   | zero => simp at h1 h2 h3; subst h1; subst h2; subst h3; exact hS
   | succ k => simp at h1⟩
  have hu := hg.und
  have huok := hg.uok
  by_cases e1 : (T t).tag = 1
  ·obtain ⟨fs, rfl, hf⟩ := hg.struct e1
   simp only [DataW.trod, hu] at h
   split at h
   ·rename_i hlen
    simp only [Option.map_eq_some_iff] at h
    obtain ⟨xs, hm, _⟩ := h
    rw [hg.cells] at hlen
    obtain ⟨ds, Ss, q1, q2⟩ := qN (sh := ShD T n) hT (fun t cs d ps ht h => rT hT hC ht h) hf (by rw [hlen]; exact (hC t).1 e1) hm
    exact ⟨ds, Ss, by simp only [ShD, e1]; exact q1, by simpa using q2⟩
   ·cases h
  by_cases e2 : (T t).tag = 2
  ·have := hg.slice e2
   subst this
   have he := (hC t).2.1 e2
   simp only [DataW.trod, hu] at h
   split at h <;> try (simp_all; done)
   ·rename_i e' hh; injection hh with hh; injection hh with hh; subst hh
    obtain ⟨Ss, hL⟩ := one ⟨[], Lay.nil (V := V0 w)⟩
    exact ⟨[.sl []], Ss, by simp only [ShD, e2]; exact ⟨[], rfl, by simp, fun r h => by cases h⟩, hL⟩
   ·rename_i e' a len cap hh
    injection hh with hh; injection hh with hh; subst hh
    split at h
    ·rename_i hc
     simp only [Option.bind_eq_some_iff] at h
     obtain ⟨elems, hm, _⟩ := h
     have hcell := hT.cells he
     rw [hcell] at hm
     obtain ⟨rows, ys, Ss, r1, r2, r3, r4, r5⟩ := qO (w := w) (a := a) (sz := (T (T t).elem).size) (sh := ShD T n (T t).elem) (g := DataW.trod enc P w 0 (fun _ => true) true n (T t).elem) (fun cs d ps h => rT hT hC he h) (n := len) (fun i hi => by
      obtain ⟨y, h1, _⟩ := lJ hm i i (by simp [hi])
      exact ⟨y, h1⟩)
     obtain ⟨Ss', hL⟩ := one ⟨_, Lay.sl (V := V0 w) rows a cap (T (T t).elem).size ys Ss (fun r hr => (r2 r hr).2) (by omega) hc.2.2 (by rw [r5.1]) r5.2.1 r4 r5.2.2⟩
     rw [r1] at hL
     exact ⟨[.sl rows], Ss', by simp only [ShD, e2]; exact ⟨rows, rfl, by omega, fun r hr => (r2 r hr).1⟩, hL⟩
    ·cases h
  by_cases e3 : (T t).tag = 3
  ·have := hg.int e3
   subst this
   have hk := (hC t).2.2 e3
   simp only [DataW.trod, hu] at h
   split at h <;> try (simp_all; done)
   rename_i k k' m hh
   injection hh with hh; injection hh with hh; subst hh
   split at h
   ·rename_i hw
    obtain ⟨rfl, hw⟩ := hw
    obtain ⟨Ss, hL⟩ := one ⟨[], Lay.v (V := V0 w) (.int _ m) rfl⟩
    have hin : inR (T t).kind m := by
     simp only [Lit.wf, Bool.and_eq_true, decide_eq_true_eq] at hw
     rcases hk with hk | hk <;> rw [hk] at hw ⊢ <;> simpa [inR, IntKind.min, IntKind.max, IntKind.bits, IntKind.signed] using hw
    exact ⟨_, Ss, by simp only [ShD, e3]; exact ⟨m, rfl, hin⟩, hL⟩
   ·cases h
  by_cases e4 : (T t).tag = 4
  ·have := hg.bool e4
   subst this
   simp only [DataW.trod, hu] at h
   split at h <;> try (simp_all; done)
   rename_i b _
   obtain ⟨Ss, hL⟩ := one ⟨[], Lay.v (V := V0 w) (.bool b) rfl⟩
   exact ⟨_, Ss, by simp only [ShD, e4]; exact ⟨b, rfl⟩, hL⟩
  by_cases e5 : (T t).tag = 5
  ·have := hg.string e5
   subst this
   simp only [DataW.trod, hu] at h
   split at h <;> try (simp_all; done)
   rename_i s _
   split at h
   ·rename_i hs
    obtain ⟨Ss, hL⟩ := one ⟨[], Lay.v (V := V0 w) (.string s) rfl⟩
    exact ⟨_, Ss, by simp only [ShD, e5]; exact ⟨s, rfl, hs⟩, hL⟩
   ·cases h
  ·exfalso
   unfold iJ at huok
   split at huok <;> simp_all
def pk (T : Nat → Ty) (t : Nat) (ds : List D) : SV := pE (T t).agg (ds.map .d)
def ShAll (T : Nat → Ty) : List Nat → List (List D) → Prop
 | [], [] => True
 | t :: ts, d :: ds => (∃ n, ShD T n t d) ∧ ShAll T ts ds
 | _, _ => False
def pks (T : Nat → Ty) : List Nat → List (List D) → List SV
 | t :: ts, d :: ds => pk T t d :: pks T ts ds
 | _, _ => []
theorem xS {V : View} {ds : List D} {ys : List Value} {Ss : List (List Nat)} (h : LayL V ds ys Ss) : cL [] V (ds.map .d) ys := by
 refine ⟨by simpa using h.1, fun k a y h1 h2 => ?_⟩
 rw [List.getElem?_map] at h1
 cases hd : ds[k]? with
 | none => rw [hd] at h1; cases h1
 | some d =>
  rw [hd] at h1; cases h1
  have hk : k < Ss.length := by rw [h.2.1]; exact (List.getElem?_eq_some_iff.1 hd).1
  exact ⟨_, h.2.2 k d y _ hd h2 (List.getElem?_eq_getElem hk)⟩
theorem a0h (hT : TyOK P T) (hC : Cl T) {t : Nat} (ht : (T t).tag ≠ 0) {r : Reach} {base : Nat} {v : Value} {d : DataW H} {ps : List MemPlace}
    (hval : Value.okWide P w r base t v) (h : DataW.Trod enc P w 0 (fun _ => true) true t v d ps) : ∃ ds, (∃ n, ShD T n t ds) ∧ cSV [] (V0 w) (pk T t ds) v := by
 obtain ⟨n, h⟩ := h
 obtain ⟨i, z, u, hg⟩ := hT.good ht
 obtain ⟨ds, Ss, q1, q2⟩ := rT hT hC ht h
 refine ⟨ds, ⟨n, q1⟩, ?_⟩
 have hu := hg.und
 unfold Value.okWide at hval
 by_cases e1 : (T t).tag = 1
 ·obtain ⟨fs, rfl, hf⟩ := hg.struct e1
  rw [hu] at hval
  obtain ⟨cs, rfl, _⟩ := hval
  simp only [pk, Ty.agg, e1, pE]
  exact ⟨cs.toList, rfl, xS q2⟩
 ·have hag : (T t).agg = false := by simp [Ty.agg, e1]
  have hv : v.cells.toList = [v] := by
   have huok := hg.uok
   cases v with
   | agg cs =>
    exfalso
    rw [hu] at hval
    unfold iJ at huok
    split at huok <;> simp_all [Cell.okWide, Cell.ok]
   | _ => rfl
  rw [hv] at q2
  obtain ⟨c1, c2⟩ := xS q2
  have hl : ds.length = 1 := by simpa using c1.symm
  match ds, hl with
  | [x], _ =>
   simp only [pk, hag, pE, List.map_cons, List.map_nil]
   exact c2 0 _ _ rfl rfl
theorem qP (hT : TyOK P T) (hC : Cl T) {r : Reach} {base : Nat} : ∀ {ts : List Nat} {vs : List Value} {dd : List (DataW H)} {ps : List MemPlace}, (∀ t ∈ ts, (T t).tag ≠ 0) →
    (∀ (j : Nat) (t : Nat) (v : Value), ts[j]? = some t → vs[j]? = some v → Value.okWide P w r base t v) → DataW.TrodAll enc P w 0 (fun _ => true) true ts vs dd ps → ∃ dss, ShAll T ts dss ∧ mO (V0 w) (pks T ts dss) vs
 | [], [], [], _, _, _, _ => ⟨[], trivial, rfl, fun k s y h => by simp [pks] at h⟩
 | t :: ts, v :: vs, d :: dd, ps, ht, hval, h => by
  obtain ⟨p, q, h1, h2, _⟩ := h
  obtain ⟨ds, s1, s2⟩ := a0h hT hC (ht t (by simp)) (hval 0 t v rfl rfl) h1
  obtain ⟨dss, s3, s4⟩ := qP hT hC (fun t ht' => ht t (by simp [ht'])) (fun j t v a b => hval (j + 1) t v (by simpa using a) (by simpa using b)) h2
  refine ⟨ds :: dss, ⟨s1, s3⟩, by simp [pks, s4.1], fun k s y a b => ?_⟩
  cases k with
  | zero => simp [pks] at a b; subst a; subst b; exact s2
  | succ k => exact s4.2 k s y (by simpa [pks] using a) (by simpa using b)
 | [], _ :: _, _, _, _, _, h => by simp [DataW.TrodAll] at h
 | [], [], _ :: _, _, _, _, h => by simp [DataW.TrodAll] at h
 | _ :: _, [], _, _, _, _, h => by simp [DataW.TrodAll] at h
 | _ :: _, _ :: _, [], _, _, _, h => by simp [DataW.TrodAll] at h
theorem jG (hl : laidOutB P = true) {W' : World} (hb : Below w.heap.size w W') : ∀ {ts : List Nat} {vs : List Value} {dd : List (DataW H)} {ps : List MemPlace}, (∀ t ∈ ts, P.readableRec t = true ∧ t < P.types.size) →
    DataW.TrodAll enc P w 0 (fun _ => true) true ts vs dd ps → (∀ x ∈ ps, x.block < w.heap.size) → DataW.TrodAll enc P W' 0 (fun b => decide (b < w.heap.size)) true ts vs dd ps
 | [], [], [], _, _, h, _ => h
 | t :: ts, v :: vs, d :: dd, ps, ht, h, hlt => by
  obtain ⟨p, q, h1, h2, rfl⟩ := h
  obtain ⟨r1, r2⟩ := ht t (by simp)
  exact ⟨p, q, Below.trod hl r1 r2 h1 hb (fun x hx => hlt x (List.mem_append.2 (.inl hx))), jG hl hb (fun t ht' => ht t (by simp [ht'])) h2 (fun x hx => hlt x (List.mem_append.2 (.inr hx))), rfl⟩
 | [], _ :: _, _, _, _, h, _ => by simp [DataW.TrodAll] at h
 | [], [], _ :: _, _, _, h, _ => by simp [DataW.TrodAll] at h
 | _ :: _, [], _, _, _, h, _ => by simp [DataW.TrodAll] at h
 | _ :: _, _ :: _, [], _, _, h, _ => by simp [DataW.TrodAll] at h
theorem mI {W : World} {sp : Nat → Bool} {b : Nat} {hd : Bool} : ∀ {ts : List Nat} {vs : List Value} {dd : List (DataW H)} {ps : List MemPlace}, DataW.TrodAll enc P W b sp hd ts vs dd ps → dd.length = ts.length
 | [], [], [], _, _ => rfl
 | t :: ts, v :: vs, d :: dd, ps, h => by
  obtain ⟨p, q, _, h2, _⟩ := h
  simp [mI h2]
 | [], _ :: _, _, _, h => by simp [DataW.TrodAll] at h
 | [], [], _ :: _, _, h => by simp [DataW.TrodAll] at h
 | _ :: _, [], _, _, h => by simp [DataW.TrodAll] at h
 | _ :: _, _ :: _, [], _, h => by simp [DataW.TrodAll] at h
theorem a1o {fresh : Bool} (hT : TyOK P T) (hC : Cl T) (hl : laidOutB P = true) {f : Nat} {fn : Func} {s : ChangeSpec} {tb : Nat} (hv : s.vars = []) (hs : ∀ dd : List (DataW H), dd.length = fn.params.toList.length → s.fn H dd = { results := [.lit (.bool true)], args := dd })
    (hrt : fn.resultTypes = #[tb]) (hb : P.underlying tb = some .bool) (ht : fn.params.toList.all (fun t => (T t).tag != 0 && P.readableRec t && decide (t < P.types.size)) = true)
    (hf : ∀ dss, ShAll T fn.params.toList dss → FnC P f (pks T fn.params.toList dss) (ob true))
    {W : World} {r : Reach} {base : Nat} {args : Array Value} {ds gs : List (DataW H)} {before : List MemPlace}
    (hval : ∀ (j : Nat) (t : Nat) (v : Value), fn.params[j]? = some t → args[j]? = some v → Value.okWide P W r base t v) (hW : DataW.Whole enc P fn.params.toList s.vars false W args.toList ds gs before) :
    Calls P f args W fun e W' => ∃ v, e = .returned v ∧ s.post enc P fn false fresh false false W args v W' := by
 have hW' := hW
 obtain ⟨p, q, hA, hV, rfl, _, _⟩ := hW
 rw [hv] at hV
 obtain ⟨rfl, rfl⟩ := ChangeShapes.trodVars_none hV
 have ht' : ∀ t ∈ fn.params.toList, (T t).tag ≠ 0 ∧ P.readableRec t = true ∧ t < P.types.size := fun t h => by
  have := List.all_eq_true.1 ht t h
  simpa [and_assoc] using this
 obtain ⟨dss, h1, h2⟩ := qP hT hC (fun t h => (ht' t h).1) (fun j t v a b => hval j t v (by simpa using a) (by simpa using b)) hA
 have hc := (hf dss h1).calls (V0 W) W args.toList (a2s W) h2
 rw [Array.toArray_toList] at hc
 refine hc.mono fun e W' ⟨y, he, hd⟩ => ⟨y, he, ?_⟩
 have hy : y = .bool true := by
  obtain ⟨V', S, _, _, _, ⟨l, hs, hr⟩, _⟩ := hd.out
  obtain ⟨Ss, r1, r2, r3, r4⟩ := hr
  have hl : l = [y] := hs
  subst hl
  obtain ⟨_, T', hL⟩ := r4 0 (.d (bv true)) y _ rfl rfl (List.getElem?_eq_getElem (by rw [r2]; simp [SV.all]))
  cases hL; rfl
 subst hy
 have hbel := hd.below
 have hlen := mI hA
 have e : s.fn H (ds ++ []) = { results := [.lit (.bool true)], args := ds } := by rw [List.append_nil]; exact hs ds hlen
 refine ⟨ds, [], _, [], p, [], hW', ?_, ?_, ?_, hbel.frame _, fun h => by cases h⟩
 ·rw [e, hrt]
  exact ChangeShapes.trodAll_mk1 (shut_bool hb true)
 ·rw [e]
  exact jG hl hbel (fun t h => (ht' t h).2) hA (fun x hx => hW'.lt x (List.mem_append.2 (.inl hx)))
 ·rw [e, hv]; rfl
end
end Go.Sx
end
section
set_option linter.all false
namespace Go.Proofs.Yteaaopodnbjpoaa
open Go Go.Sx Go.RowKit
theorem a4z : Cl tt := Cl.of_list (by kernel_rfl)
theorem own : ownKnob Try.prog.godebug = none := by kernel_rfl
theorem a1p : laidOutB Try.prog = true := by kernel_rfl
end Go.Proofs.Yteaaopodnbjpoaa
end
end
