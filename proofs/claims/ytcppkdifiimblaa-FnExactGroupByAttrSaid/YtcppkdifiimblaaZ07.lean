/- Joined texts. -/
import Derived.Test.YtcppkdifiimblaaZ06
import Derived.Test.YtcppkdifiimblaaZ05
set_option linter.all false
section
namespace Go.Proofs.Ytcppkdifiimblaa.Opq
open Go Go.Sx Go.RowKit Go.Proofs
class NyO (P : Prop) (Q : outParam Prop) : Prop where
 ny : Q → P
instance (priority := low) {P Q : Prop} [i : Ny P Q] : NyO P Q := ⟨i.ny⟩
theorem nY {P Q : Prop} [i : NyO P Q] (h : Q) : P := i.ny h
noncomputable def ttl : List Ty := [.bad,
 .bad,
 ⟨3, 1, 8, [.d (.v (.int .i64 0))], [], 0, .i64⟩,
 ⟨3, 1, 8, [.d (.v (.int .i64 0))], [], 0, .i64⟩,
 ⟨4, 1, 1, [.d (.v (.bool false))], [], 0, .i64⟩,
 ⟨3, 1, 1, [.d (.v (.int .u8 0))], [], 0, .u8⟩,
 ⟨3, 1, 1, [.d (.v (.int .u8 0))], [], 0, .u8⟩,
 ⟨1, 4, 24, [.d (.v (.int .i64 0)), .d (.v (.int .i64 0)), .d (.v (.bool false)), .d (.v (.int .u8 0))], [(0, 2), (1, 3), (2, 4), (3, 6)], 0, .i64⟩,
 ⟨1, 4, 24, [.d (.v (.int .i64 0)), .d (.v (.int .i64 0)), .d (.v (.bool false)), .d (.v (.int .u8 0))], [(0, 2), (1, 3), (2, 4), (3, 6)], 0, .i64⟩,
 ⟨5, 1, 16, [.d (.v (.string ⟨#[]⟩))], [], 0, .i64⟩,
 ⟨5, 1, 16, [.d (.v (.string ⟨#[]⟩))], [], 0, .i64⟩,
 ⟨5, 1, 16, [.d (.v (.string ⟨#[]⟩))], [], 0, .i64⟩,
 .bad,
 .bad,
 .bad,
 .bad,
 .bad,
 .bad,
 .bad,
 .bad,
 .bad,
 .bad,
 ⟨2, 1, 24, [.z], [], 70, .i64⟩,
 ⟨2, 1, 24, [.z], [], 74, .i64⟩,
 ⟨1, 3, 56, [.z, .z, .d (.v (.int .i64 0))], [(0, 22), (1, 23), (2, 3)], 0, .i64⟩,
 ⟨1, 3, 56, [.z, .z, .d (.v (.int .i64 0))], [(0, 22), (1, 23), (2, 3)], 0, .i64⟩,
 ⟨2, 1, 24, [.z], [(0, 0)], 3, .i64⟩,
 .bad,
 ⟨2, 1, 24, [.z], [], 55, .i64⟩,
 .bad,
 ⟨2, 1, 24, [.z], [], 78, .i64⟩,
 ⟨2, 1, 24, [.z], [], 47, .i64⟩,
 ⟨1, 3, 56, [.z, .z, .d (.v (.int .i64 0))], [(0, 30), (1, 31), (2, 3)], 0, .i64⟩,
 ⟨1, 3, 56, [.z, .z, .d (.v (.int .i64 0))], [(0, 30), (1, 31), (2, 3)], 0, .i64⟩,
 .bad,
 .bad,
 .bad,
 .bad,
 .bad,
 .bad,
 .bad,
 .bad,
 .bad,
 .bad,
 .bad,
 ⟨2, 1, 24, [.z], [], 77, .i64⟩,
 ⟨1, 5, 56, [.d (.v (.int .i64 0)), .d (.v (.int .i64 0)), .d (.v (.bool false)), .d (.v (.int .i64 0)), .z], [(0, 3), (1, 3), (2, 4), (3, 3), (4, 45)], 0, .i64⟩,
 ⟨1, 5, 56, [.d (.v (.int .i64 0)), .d (.v (.int .i64 0)), .d (.v (.bool false)), .d (.v (.int .i64 0)), .z], [(0, 3), (1, 3), (2, 4), (3, 3), (4, 45)], 0, .i64⟩,
 .bad,
 .bad,
 ⟨1, 3, 32, [.d (.v (.int .i64 0)), .d (.v (.int .i64 0)), .d (.v (.string ⟨#[]⟩))], [(0, 3), (1, 3), (2, 9)], 0, .i64⟩,
 ⟨1, 3, 32, [.d (.v (.int .i64 0)), .d (.v (.int .i64 0)), .d (.v (.string ⟨#[]⟩))], [(0, 3), (1, 3), (2, 9)], 0, .i64⟩,
 .bad,
 .bad,
 ⟨1, 4, 56, [.d (.v (.int .i64 0)), .d (.v (.int .i64 0)), .d (.v (.string ⟨#[]⟩)), .d (.v (.slice none 0 0))], [(0, 51), (3, 26)], 0, .i64⟩,
 ⟨1, 4, 56, [.d (.v (.int .i64 0)), .d (.v (.int .i64 0)), .d (.v (.string ⟨#[]⟩)), .d (.v (.slice none 0 0))], [(0, 51), (3, 26)], 0, .i64⟩,
 .bad,
 .bad,
 .bad,
 .bad,
 .bad,
 .bad,
 .bad,
 .bad,
 .bad,
 .bad,
 .bad,
 .bad,
 .bad,
 ⟨1, 2, 24, [.d (.v (.string ⟨#[]⟩)), .d (.v (.int .i64 0))], [(0, 9), (1, 3)], 0, .i64⟩,
 ⟨1, 2, 24, [.d (.v (.string ⟨#[]⟩)), .d (.v (.int .i64 0))], [(0, 9), (1, 3)], 0, .i64⟩,
 .bad,
 ⟨2, 1, 24, [.z], [], 103, .i64⟩,
 ⟨1, 5, 56, [.d (.v (.int .i64 0)), .d (.v (.int .i64 0)), .d (.v (.bool false)), .d (.v (.int .i64 0)), .z], [(0, 3), (1, 3), (2, 4), (3, 3), (4, 72)], 0, .i64⟩,
 ⟨1, 5, 56, [.d (.v (.int .i64 0)), .d (.v (.int .i64 0)), .d (.v (.bool false)), .d (.v (.int .i64 0)), .z], [(0, 3), (1, 3), (2, 4), (3, 3), (4, 72)], 0, .i64⟩,
 .bad,
 ⟨1, 4, 48, [.d (.v (.string ⟨#[]⟩)), .d (.v (.int .i64 0)), .d (.v (.int .i64 0)), .d (.v (.string ⟨#[]⟩))], [(0, 9), (1, 51)], 0, .i64⟩,
 ⟨1, 4, 48, [.d (.v (.string ⟨#[]⟩)), .d (.v (.int .i64 0)), .d (.v (.int .i64 0)), .d (.v (.string ⟨#[]⟩))], [(0, 9), (1, 51)], 0, .i64⟩,
 ⟨1, 2, 24, [.d (.v (.string ⟨#[]⟩)), .d (.v (.int .i64 0))], [(0, 9), (1, 3)], 0, .i64⟩,
 .bad,
 .bad,
 .bad,
 .bad,
 .bad,
 .bad,
 .bad,
 .bad,
 .bad,
 .bad,
 ⟨2, 1, 24, [.z], [], 5, .i64⟩,
 .bad,
 .bad,
 .bad,
 .bad,
 .bad,
 .bad,
 .bad,
 .bad,
 .bad,
 .bad,
 .bad,
 ⟨1, 3, 32, [.d (.v (.int .i64 0)), .d (.v (.int .i64 0)), .d (.v (.string ⟨#[]⟩))], [(0, 3), (1, 3), (2, 9)], 0, .i64⟩,
 ⟨1, 4, 48, [.d (.v (.string ⟨#[]⟩)), .d (.v (.int .i64 0)), .d (.v (.int .i64 0)), .d (.v (.string ⟨#[]⟩))], [(0, 9), (1, 101)], 0, .i64⟩,
 ⟨1, 4, 48, [.d (.v (.string ⟨#[]⟩)), .d (.v (.int .i64 0)), .d (.v (.int .i64 0)), .d (.v (.string ⟨#[]⟩))], [(0, 9), (1, 101)], 0, .i64⟩,
 .bad,
 ⟨3, 1, 8, [.d (.v (.int .u64 0))], [], 0, .u64⟩,
 .bad,
 .bad,
 .bad,
 .bad,
 .bad,
 .bad,
 .bad,
 .bad,
 .bad,
 .bad,
 .bad,
 ⟨3, 1, 1, [.d (.v (.int .u8 0))], [], 0, .u8⟩,
 ⟨3, 1, 1, [.d (.v (.int .u8 0))], [], 0, .u8⟩,
 .bad,
 .bad,
 .bad,
 .bad,
 .bad,
 .bad,
 .bad]
noncomputable def tt : Nat → Ty := fun t => ttl.getD t .bad
theorem ttOK : TyOK Try.prog tt := TyOK.of_list (by kernel_rfl)
theorem tts : tt 2 = ⟨3, 1, 8, [.d (.v (.int .i64 0))], [], 0, .i64⟩ ∧ tt 3 = ⟨3, 1, 8, [.d (.v (.int .i64 0))], [], 0, .i64⟩ ∧ tt 4 = ⟨4, 1, 1, [.d (.v (.bool false))], [], 0, .i64⟩ ∧ tt 5 = ⟨3, 1, 1, [.d (.v (.int .u8 0))], [], 0, .u8⟩ ∧ tt 6 = ⟨3, 1, 1, [.d (.v (.int .u8 0))], [], 0, .u8⟩ ∧ tt 7 = ⟨1, 4, 24, [.d (.v (.int .i64 0)), .d (.v (.int .i64 0)), .d (.v (.bool false)), .d (.v (.int .u8 0))], [(0, 2), (1, 3), (2, 4), (3, 6)], 0, .i64⟩ ∧ tt 8 = ⟨1, 4, 24, [.d (.v (.int .i64 0)), .d (.v (.int .i64 0)), .d (.v (.bool false)), .d (.v (.int .u8 0))], [(0, 2), (1, 3), (2, 4), (3, 6)], 0, .i64⟩ ∧ tt 9 = ⟨5, 1, 16, [.d (.v (.string ⟨#[]⟩))], [], 0, .i64⟩ ∧ tt 10 = ⟨5, 1, 16, [.d (.v (.string ⟨#[]⟩))], [], 0, .i64⟩ ∧ tt 11 = ⟨5, 1, 16, [.d (.v (.string ⟨#[]⟩))], [], 0, .i64⟩ ∧ tt 22 = ⟨2, 1, 24, [.z], [], 70, .i64⟩ ∧ tt 23 = ⟨2, 1, 24, [.z], [], 74, .i64⟩ ∧ tt 24 = ⟨1, 3, 56, [.z, .z, .d (.v (.int .i64 0))], [(0, 22), (1, 23), (2, 3)], 0, .i64⟩ ∧ tt 25 = ⟨1, 3, 56, [.z, .z, .d (.v (.int .i64 0))], [(0, 22), (1, 23), (2, 3)], 0, .i64⟩ ∧ tt 26 = ⟨2, 1, 24, [.z], [(0, 0)], 3, .i64⟩ ∧ tt 28 = ⟨2, 1, 24, [.z], [], 55, .i64⟩ ∧ tt 30 = ⟨2, 1, 24, [.z], [], 78, .i64⟩ ∧ tt 31 = ⟨2, 1, 24, [.z], [], 47, .i64⟩ ∧ tt 32 = ⟨1, 3, 56, [.z, .z, .d (.v (.int .i64 0))], [(0, 30), (1, 31), (2, 3)], 0, .i64⟩ ∧ tt 33 = ⟨1, 3, 56, [.z, .z, .d (.v (.int .i64 0))], [(0, 30), (1, 31), (2, 3)], 0, .i64⟩ ∧ tt 45 = ⟨2, 1, 24, [.z], [], 77, .i64⟩ ∧ tt 46 = ⟨1, 5, 56, [.d (.v (.int .i64 0)), .d (.v (.int .i64 0)), .d (.v (.bool false)), .d (.v (.int .i64 0)), .z], [(0, 3), (1, 3), (2, 4), (3, 3), (4, 45)], 0, .i64⟩ ∧ tt 47 = ⟨1, 5, 56, [.d (.v (.int .i64 0)), .d (.v (.int .i64 0)), .d (.v (.bool false)), .d (.v (.int .i64 0)), .z], [(0, 3), (1, 3), (2, 4), (3, 3), (4, 45)], 0, .i64⟩ ∧ tt 50 = ⟨1, 3, 32, [.d (.v (.int .i64 0)), .d (.v (.int .i64 0)), .d (.v (.string ⟨#[]⟩))], [(0, 3), (1, 3), (2, 9)], 0, .i64⟩ ∧ tt 51 = ⟨1, 3, 32, [.d (.v (.int .i64 0)), .d (.v (.int .i64 0)), .d (.v (.string ⟨#[]⟩))], [(0, 3), (1, 3), (2, 9)], 0, .i64⟩ ∧ tt 54 = ⟨1, 4, 56, [.d (.v (.int .i64 0)), .d (.v (.int .i64 0)), .d (.v (.string ⟨#[]⟩)), .d (.v (.slice none 0 0))], [(0, 51), (3, 26)], 0, .i64⟩ ∧ tt 55 = ⟨1, 4, 56, [.d (.v (.int .i64 0)), .d (.v (.int .i64 0)), .d (.v (.string ⟨#[]⟩)), .d (.v (.slice none 0 0))], [(0, 51), (3, 26)], 0, .i64⟩ ∧ tt 69 = ⟨1, 2, 24, [.d (.v (.string ⟨#[]⟩)), .d (.v (.int .i64 0))], [(0, 9), (1, 3)], 0, .i64⟩ ∧ tt 70 = ⟨1, 2, 24, [.d (.v (.string ⟨#[]⟩)), .d (.v (.int .i64 0))], [(0, 9), (1, 3)], 0, .i64⟩ ∧ tt 72 = ⟨2, 1, 24, [.z], [], 103, .i64⟩ ∧ tt 73 = ⟨1, 5, 56, [.d (.v (.int .i64 0)), .d (.v (.int .i64 0)), .d (.v (.bool false)), .d (.v (.int .i64 0)), .z], [(0, 3), (1, 3), (2, 4), (3, 3), (4, 72)], 0, .i64⟩ ∧ tt 74 = ⟨1, 5, 56, [.d (.v (.int .i64 0)), .d (.v (.int .i64 0)), .d (.v (.bool false)), .d (.v (.int .i64 0)), .z], [(0, 3), (1, 3), (2, 4), (3, 3), (4, 72)], 0, .i64⟩ ∧ tt 76 = ⟨1, 4, 48, [.d (.v (.string ⟨#[]⟩)), .d (.v (.int .i64 0)), .d (.v (.int .i64 0)), .d (.v (.string ⟨#[]⟩))], [(0, 9), (1, 51)], 0, .i64⟩ ∧ tt 77 = ⟨1, 4, 48, [.d (.v (.string ⟨#[]⟩)), .d (.v (.int .i64 0)), .d (.v (.int .i64 0)), .d (.v (.string ⟨#[]⟩))], [(0, 9), (1, 51)], 0, .i64⟩ ∧ tt 78 = ⟨1, 2, 24, [.d (.v (.string ⟨#[]⟩)), .d (.v (.int .i64 0))], [(0, 9), (1, 3)], 0, .i64⟩ ∧ tt 89 = ⟨2, 1, 24, [.z], [], 5, .i64⟩ ∧ tt 101 = ⟨1, 3, 32, [.d (.v (.int .i64 0)), .d (.v (.int .i64 0)), .d (.v (.string ⟨#[]⟩))], [(0, 3), (1, 3), (2, 9)], 0, .i64⟩ ∧ tt 102 = ⟨1, 4, 48, [.d (.v (.string ⟨#[]⟩)), .d (.v (.int .i64 0)), .d (.v (.int .i64 0)), .d (.v (.string ⟨#[]⟩))], [(0, 9), (1, 101)], 0, .i64⟩ ∧ tt 103 = ⟨1, 4, 48, [.d (.v (.string ⟨#[]⟩)), .d (.v (.int .i64 0)), .d (.v (.int .i64 0)), .d (.v (.string ⟨#[]⟩))], [(0, 9), (1, 101)], 0, .i64⟩ ∧ tt 117 = ⟨3, 1, 1, [.d (.v (.int .u8 0))], [], 0, .u8⟩ ∧ tt 118 = ⟨3, 1, 1, [.d (.v (.int .u8 0))], [], 0, .u8⟩ :=
 ⟨rfl, rfl, rfl, rfl, rfl, rfl, rfl, rfl, rfl, rfl, rfl, rfl, rfl, rfl, rfl, rfl, rfl, rfl, rfl, rfl, rfl, rfl, rfl, rfl, rfl, rfl, rfl, rfl, rfl, rfl, rfl, rfl, rfl, rfl, rfl, rfl, rfl, rfl, rfl, rfl, rfl⟩
theorem ttU : tt 105 = ⟨3, 1, 8, [.d (.v (.int .u64 0))], [], 0, .u64⟩ := rfl
attribute [go_sem] ttU
noncomputable def EV (C : Ctx) : Env := ⟨Try.prog, tt, C, eqk⟩
theorem EV_T (C : Ctx) : (EV C).T = tt := rfl
theorem EV_q (C : Ctx) : (EV C).eqk = eqk := rfl
attribute [go_sem] tts EV_T EV_q
theorem reg {C : Ctx} {id : Nat} {ops : List Oper} {F : Ex → St → Prop} {st : St} (h : vcRun (EV C) ops ops st (F .normal) ⟨⟩) : WP Try.prog C (.region id ops.toArray false) F st := wN (E := EV C) ttOK vZ h.out
instance (priority := high) nReg {C : Ctx} {id : Nat} {ops : List Oper} {F : Ex → St → Prop} {st : St} : NyO (WP Try.prog C (.region id ops.toArray false) F st) (vcRun (EV C) ops ops st (F .normal) ⟨⟩) := ⟨reg⟩
instance clT {C : Ctx} {f : Nat} {args args' : List SV} {res : SV} {st : St} {K : St → SV → Prop} : Cy Try.prog f args' res (CallT (EV C) f args st K ⟨⟩) (args.map (cZ (aJ st.h (bB args))) = args' ∧ args'.all aW = true) (Nm (K ⟨st.t, aJ st.h (bB args) ++ adH res.all⟩ (adS (aJ st.h (bB args)).length res))) := ⟨fun h o k => ⟨CallS.frz (E := EV C) h o.1 o.2 k⟩⟩
instance clD {C : Ctx} {f : Nat} {args args' : List SV} {res : SV} {h : List HB} {k : SV → Prop} : Cy Try.prog f args' res (CallD (EV C) f args h k ⟨⟩) ((args.map (cZ h) = args' ∧ args'.all aW = true) ∧ res.all.all isD = true) (Nm (k res)) := ⟨fun hf o hk => CallD.of_fn (E := EV C) hf o.1.1 o.1.2 o.2 hk⟩
instance clG {C : Ctx} {f : Nat} {args args' : List SV} {res : SV} {h : List HB} {k : List HB → SV → Prop} : Cy Try.prog f args' res (CallG (EV C) f args h k ⟨⟩) (args.map (cZ (aJ h (bB args))) = args' ∧ args'.all aW = true) (Nm (k (aJ h (bB args) ++ adH res.all) (adS (aJ h (bB args)).length res))) := ⟨fun hf o hk => CallG.frz (E := EV C) hf o.1 o.2 hk⟩
theorem regd {C : Ctx} {id : Nat} {ops : List Oper} {F : Ex → St → Prop} {st : St} (hB : Region.lexB .any ops.toArray = true) (h : vcDRun (EV C) ops ops st (F .normal) ⟨⟩) : WP Try.prog C (.region id ops.toArray true) F st := a2j (E := EV C) ttOK vZ fol hB h.out
theorem ent {f : Nat} {fn : Func} {c : Code} {rs : List ResultVar} {args : List SV} {res : SV} (hf : Try.prog.funcs[f]? = some fn) (hb : fn.body = some c) (hcall : ∀ x w, (callFunc f x).run Try.prog w = .ok (.enter f x) w) (hres : fn.results = rs.toArray)
    (h : ∀ C : Ctx, WP Try.prog C c (aS Try.prog C [] (a1a (EV C) rs res)) (st0 args fn.ntmps)) : FnC Try.prog f args res := FnC.of_wp (eqk := eqk) ttOK hf hb hcall hres fun C _ => h C
theorem caldo {C : Ctx} {f : Nat} {args args' : List SV} {res : SV} {h : List HB} {k : SV → Prop} (hf : FnC Try.prog f args' res) (h1 : args.map (bH h) = args') (h2 : args'.all aW = true) (h3 : res.all.all isD = true) (h4 : res.all.all eP = true) (hk : k res) : CallD (EV C) f args h k ⟨⟩ := CallD.of_own (E := EV C) hf h1 h2 h3 h4 hk
theorem calo {C : Ctx} {f : Nat} {args args' : List SV} {res : SV} {st : St} {K : St → SV → Prop} (h : FnC Try.prog f args' res) (he : args.map (bH (aJ st.h (bB args))) = args') (hfree : args'.all aW = true) (hres : res.all.all eP = true) (k : K ⟨st.t, aJ st.h (bB args) ++ adG (fun _ => none) 0 res.all⟩ (adS (aJ st.h (bB args)).length res)) : CallT (EV C) f args st K ⟨⟩ := ⟨CallS.lendF (E := EV C) h he hfree hres k⟩
theorem calm {C : Ctx} {f : Nat} {b : Bool} {cs outs : List At} {n res : Int} {a0 : SV} {st : St} {K : St → SV → Prop} (h : FnM Try.prog f b cs outs n res) (ha : isG a0 = some b) (hm : bR st.h a0.cells cs outs) (k : K ⟨st.t, gX st.h a0.cells outs⟩ (oi res)) : CallT (EV C) f [a0, oi n] st K ⟨⟩ := ⟨CallS.mark (E := EV C) h (wU ha) hm k⟩
theorem caln {C : Ctx} {f : Nat} {ty0 ty1 sz' : Nat} {sub0 sub1 : List (List D)} {n res : Int} {id sz i fo : Nat} {st : St} {K : St → SV → Prop} (h : FnM Try.prog f false [.w ty0 sz' sub0] [.w ty1 sz' sub1] n res) (ok : nQ st.h id sz i fo sz' sub0) (k : K ⟨st.t, uF st.h id i fo sub1⟩ (oi res)) : CallT (EV C) f [.o (.n id sz i fo), oi n] st K ⟨⟩ := ⟨CallS.partC (E := EV C) h ok k⟩
theorem cali {C : Ctx} {f ty sz id : Nat} {rows rows' : List (List D)} {args' rest : List SV} {st : St} {K : St → SV → Prop} (h : FnI Try.prog f ty sz rows args' false rows') (hid : bK (aJ st.h (bB rest)) id = .row ty sz rows true) (he : rest.map (cZ (aJ st.h (bB rest))) = args') (hfree : args'.all aW = true) (k : K ⟨st.t.map (nE id), dF ((aJ st.h (bB rest)).map (iT id)) id (.row ty sz rows' true)⟩ (.o (.s id))) : CallT (EV C) f (.o (.s id) :: rest) st K ⟨⟩ := ⟨CallS.give (E := EV C) h hid he hfree (by simpa using k)⟩
theorem calj {C : Ctx} {f ty sz id : Nat} {rows rows' : List (List D)} {args' rest : List SV} {st : St} {K : St → SV → Prop} (h : FnI Try.prog f ty sz rows args' true rows') (hid : bK (aJ st.h (bB rest)) id = .row ty sz rows true) (he : rest.map (cZ (aJ st.h (bB rest))) = args') (hfree : args'.all aW = true) (k : K ⟨st.t, dF (aJ st.h (bB rest)) id (.row ty sz rows' true)⟩ (.t [])) : CallT (EV C) f (.o (.s id) :: rest) st K ⟨⟩ := ⟨CallS.give (E := EV C) h hid he hfree (by simpa using k)⟩
theorem cale {C : Ctx} {f : Nat} {args args' : List SV} {res : SV} {st : St} {K : St → SV → Prop} (h : FnC Try.prog f args' res) (he : args.map (bH st.h) = args') (hfree : args'.all aW = true) (hres : res.all.all eP = true) (k : K ⟨st.t, st.h ++ adG (fun _ => none) 0 res.all⟩ (adS st.h.length res)) : CallT (EV C) f args st K ⟨⟩ := ⟨CallS.lend (E := EV C) h he hfree hres k⟩
theorem entm {f : Nat} {fn : Func} {c : Code} {rs : List ResultVar} {b : Bool} {cs outs : List At} {n res : Int} (hf : Try.prog.funcs[f]? = some fn) (hb : fn.body = some c) (hcall : ∀ x w, (callFunc f x).run Try.prog w = .ok (.enter f x) w) (hres : fn.results = rs.toArray) (hone : b = false → cs.length = 1) (hsh : shp cs outs)
    (h : ∀ (C : Ctx) (tg : Nat → Option (Value × List Nat × List Value)), WP Try.prog C c (aS Try.prog C [] (a6u (EV C) rs res (adG tg 0 outs))) (stM tg b cs n fn.ntmps)) : FnM Try.prog f b cs outs n res := FnM.of_wp (eqk := eqk) ttOK hf hb hcall hres hone hsh h
theorem rS {C : Ctx} {id : Nat} {ops l m : List Oper} {F : Ex → St → Prop} {st : St} (ps ds : List Nat) (hl : rdX ds ops = l) (hm : uR ops = m) (hok : (xF ops ps ds && a0m ps ops && ps.all fun i => decide (i < ops.length)) = true) (hb : st.okB = true) (h : vcGRun (EV C) ds ops m st (fun st1 => vcStT (EV C) ops l ds ps ⟨st1.t, st.h⟩ (F .normal) ⟨⟩) ⟨⟩) : WP Try.prog C (.region id ops.toArray true) F st := by
 subst hl hm
 have e : (fun st1 : St => vcStT (EV C) ops (rdX ds ops) ds ps ⟨st1.t, st.h⟩ (F .normal) ⟨⟩) = (fun st1 => nG (EV C) ops ds ps ⟨st1.t, st.h⟩ (F .normal)) := funext fun s => propext ⟨fun h => h.out rfl, fun h => ⟨fun _ => h⟩⟩
 rw [e] at h
 simp only [Bool.and_eq_true] at hok
 exact xH (E := EV C) ttOK vZ fol ps ds hok.1.1 hok.1.2 hok.2 hb h.out
theorem cGo {C : Ctx} {f : Nat} {args args' : List SV} {res : SV} {h : List HB} {k : List HB → SV → Prop} (hf : FnC Try.prog f args' res) (he : args.map (bH h) = args') (hfree : args'.all aW = true) (hres : res.all.all eP = true) (hk : k (h ++ adG (fun _ => none) 0 res.all) (adS h.length res)) : CallG (EV C) f args h k ⟨⟩ := CallG.lend (E := EV C) hf he hfree hres hk
theorem cGr {C : Ctx} {f : Nat} {args args' : List SV} {res : SV} {h : List HB} {k : List HB → SV → Prop} (hf : FnC Try.prog f args' res) (he : args.map (bH h) = args') (hfree : args'.all aW = true) (hres : res.all.all eP = true) (hk : k (h ++ adH res.all) (adS h.length res)) : CallG (EV C) f args h k ⟨⟩ := CallG.lendW (E := EV C) hf he hfree hres hk
theorem vO {C : Ctx} {f : Nat} {args args' : List SV} {res : SV} {st : St} {K : St → SV → Prop} (h : FnC Try.prog f args' res) (k : Nm (K ⟨st.t, aJ st.h (bB args) ++ adG (fun _ => none) 0 res.all⟩ (adS (aJ st.h (bB args)).length res))) (he : args.map (bH (aJ st.h (bB args))) = args' := by simp only [go_sem, qH] <;> fail) (hfree : args'.all aW = true := by simp only [go_sem, qH] <;> fail) (hres : res.all.all eP = true := by simp only [go_sem, qH] <;> fail) : CallT (EV C) f args st K ⟨⟩ := calo h he hfree hres k
theorem vQ {C : Ctx} {f : Nat} {args args' : List SV} {res : SV} {h : List HB} {k : SV → Prop} (hf : FnC Try.prog f args' res) (hk : Nm (k res)) (h1 : args.map (bH h) = args' := by simp only [go_sem, qH] <;> fail) (h2 : args'.all aW = true := by simp only [go_sem, qH] <;> fail) (h3 : res.all.all isD = true := by simp only [go_sem, qH] <;> fail) (h4 : res.all.all eP = true := by simp only [go_sem, qH] <;> fail) : CallD (EV C) f args h k ⟨⟩ := caldo hf h1 h2 h3 h4 hk
theorem vM {C : Ctx} {f : Nat} {b : Bool} {cs outs : List At} {n res : Int} {a0 : SV} {st : St} {K : St → SV → Prop} (h : FnM Try.prog f b cs outs n res) (k : Nm (K ⟨st.t, gX st.h a0.cells outs⟩ (oi res))) (ha : isG a0 = some b := by simp only [go_sem] <;> fail) (hm : bR st.h a0.cells cs outs := by simp only [go_sem, qH] <;> fail) : CallT (EV C) f [a0, oi n] st K ⟨⟩ := calm h ha hm k
theorem vN {C : Ctx} {f : Nat} {ty0 ty1 sz' : Nat} {sub0 sub1 : List (List D)} {n res : Int} {id sz i fo : Nat} {st : St} {K : St → SV → Prop} (h : FnM Try.prog f false [.w ty0 sz' sub0] [.w ty1 sz' sub1] n res) (k : Nm (K ⟨st.t, uF st.h id i fo sub1⟩ (oi res))) (ok : nQ st.h id sz i fo sz' sub0 := by simp only [go_sem, qH] <;> fail) : CallT (EV C) f [.o (.n id sz i fo), oi n] st K ⟨⟩ := caln h ok k
theorem vI {C : Ctx} {f ty sz id : Nat} {rows rows' : List (List D)} {args' rest : List SV} {st : St} {K : St → SV → Prop} (h : FnI Try.prog f ty sz rows args' false rows') (k : Nm (K ⟨st.t.map (nE id), dF ((aJ st.h (bB rest)).map (iT id)) id (.row ty sz rows' true)⟩ (.o (.s id)))) (hid : bK (aJ st.h (bB rest)) id = .row ty sz rows true := by simp only [go_sem, qH] <;> fail) (he : rest.map (cZ (aJ st.h (bB rest))) = args' := by simp only [go_sem, qH] <;> fail) (hfree : args'.all aW = true := by simp only [go_sem, qH] <;> fail) : CallT (EV C) f (.o (.s id) :: rest) st K ⟨⟩ := cali h hid he hfree k
theorem vJ {C : Ctx} {f ty sz id : Nat} {rows rows' : List (List D)} {args' rest : List SV} {st : St} {K : St → SV → Prop} (h : FnI Try.prog f ty sz rows args' true rows') (k : Nm (K ⟨st.t, dF (aJ st.h (bB rest)) id (.row ty sz rows' true)⟩ (.t []))) (hid : bK (aJ st.h (bB rest)) id = .row ty sz rows true := by simp only [go_sem, qH] <;> fail) (he : rest.map (cZ (aJ st.h (bB rest))) = args' := by simp only [go_sem, qH] <;> fail) (hfree : args'.all aW = true := by simp only [go_sem, qH] <;> fail) : CallT (EV C) f (.o (.s id) :: rest) st K ⟨⟩ := calj h hid he hfree k
theorem vL {C : Ctx} {f : Nat} {args args' : List SV} {res : SV} {st : St} {K : St → SV → Prop} (h : FnC Try.prog f args' res) (k : Nm (K ⟨st.t, st.h ++ adG (fun _ => none) 0 res.all⟩ (adS st.h.length res))) (he : args.map (bH st.h) = args' := by simp only [go_sem, qH] <;> fail) (hfree : args'.all aW = true := by simp only [go_sem, qH] <;> fail) (hres : res.all.all eP = true := by simp only [go_sem, qH] <;> fail) : CallT (EV C) f args st K ⟨⟩ := cale h he hfree hres k
theorem rD {C : Ctx} {id : Nat} {ops : List Oper} {F : Ex → St → Prop} {st : St} (h : vcDRun (EV C) ops ops st (F .normal) ⟨⟩) (hB : Region.lexB .any ops.toArray = true := by kernel_rfl) : WP Try.prog C (.region id ops.toArray true) F st := regd hB h
theorem rT {C : Ctx} {id : Nat} {ops l m : List Oper} {F : Ex → St → Prop} {st : St} (ps : List Nat) (ds : List Nat) (h : vcGRun (EV C) ds ops m st (fun st1 => vcStT (EV C) ops l ds ps ⟨st1.t, st.h⟩ (F .normal) ⟨⟩) ⟨⟩) (hl : rdX ds ops = l := by simp only [go_sem]; rfl) (hm : uR ops = m := by simp only [go_sem]; rfl) (hok : (xF ops ps ds && a0m ps ops && ps.all fun i => decide (i < ops.length)) = true := by decide +kernel) (hb : st.okB = true := by simp only [go_sem] <;> fail) : WP Try.prog C (.region id ops.toArray true) F st := rS ps ds hl hm hok hb h
theorem rE {C : Ctx} {id : Nat} {ops L W : List Oper} {T : PO} {F : Ex → St → Prop} {st G : St} (ps ls l0 w0 : List Nat) (t : PT) (hl : bT ops l0 = L) (hw : bT ops w0 = W) (hp : gH ops t = T)
    (hok : (okE ops ps ls && (l0.all fun i => !ps.contains i) && okN ops ps [] ps w0 t && pK ops ps t [] ps && ps.all fun q => decide (q < ops.length)) = true) (hb : st.okB = true) (h : vcDRun (EV C) ops L st (fun st1 => vcTN (EV C) false ops W T st1 (sF G) ⟨⟩) ⟨⟩) (hG : Ok2 G) (hF : F .normal G) : WP Try.prog C (.region id ops.toArray true) F st := by
 subst hl hw hp
 simp only [Bool.and_eq_true] at hok
 refine a4C (E := EV C) ttOK vZ fol ps ls l0 w0 t hok.1.1.1.1 hok.1.1.1.2 hok.1.1.2 hok.1.2 hok.2 hb ?_ hG hF
 have e : (fun st1 => vcTN (EV C) false ops (bT ops w0) (gH ops t) st1 (sF G) ⟨⟩) = (fun st1 => jO (EV C) st1 (bT ops w0) ∧ if t.isNil = true then sF G st1 else lT (EV C) false ops t st1 (sF G)) := funext fun s => propext (by
  constructor
  ·intro h; have := h.out; rwa [jE, dY] at this
  ·intro h; exact ⟨by rwa [jE, dY]⟩)
 rw [e] at h
 exact h.out
theorem rF {C : Ctx} {id : Nat} {ops L W : List Oper} {T : PO} {F : Ex → St → Prop} {st : St} (ps ls l0 w0 : List Nat) (t : PT) (hl : bT ops l0 = L) (hw : bT ops w0 = W) (hp : gH ops t = T)
    (hok : (okE ops ps ls && (l0.all fun i => !ps.contains i) && okN ops ps [] ps w0 t && pK ops ps t [] ps && ps.all fun q => decide (q < ops.length)) = true) (hb : st.okB = true) (h : vcDRun (EV C) ops L st (fun st1 => vcTN (EV C) true ops W T st1 (F .normal) ⟨⟩) ⟨⟩) : WP Try.prog C (.region id ops.toArray true) F st := by
 subst hl hw hp
 simp only [Bool.and_eq_true] at hok
 refine a2C (E := EV C) ttOK vZ fol ps ls l0 w0 t hok.1.1.1.1 hok.1.1.1.2 hok.1.1.2 hok.1.2 hok.2 hb ?_
 have e : (fun st1 => vcTN (EV C) true ops (bT ops w0) (gH ops t) st1 (F .normal) ⟨⟩) = (fun st1 => jO (EV C) st1 (bT ops w0) ∧ if t.isNil = true then F .normal st1 else lT (EV C) true ops t st1 (F .normal)) := funext fun s => propext (by
  constructor
  ·intro h; have := h.out; rwa [jE, dY] at this
  ·intro h; exact ⟨by rwa [jE, dY]⟩)
 rw [e] at h
 exact h.out
instance clH {C : Ctx} {f : Nat} {args args' : List SV} {res : SV} {h : List HB} {k : List HB → SV → Prop} : Cy Try.prog f args' res (CallH (EV C) f args h k ⟨⟩) (args.map (cZ (aJ h (bB args))) = args' ∧ args'.all aW = true) (Nm (k (aJ h (bB args) ++ adH res.all) (adS (aJ h (bB args)).length res))) := ⟨fun hf o hk => CallH.det (CallG.frz (E := EV C) hf o.1 o.2 hk)⟩
theorem hO {C : Ctx} {f : Nat} {args args' : List SV} {res : SV} {h : List HB} {k : List HB → SV → Prop} (hf : FnC Try.prog f args' res) (hk : Nm (k (h ++ adG (fun _ => none) 0 res.all) (adS h.length res))) (he : args.map (bH h) = args' := by simp only [go_sem, qH] <;> fail) (hfree : args'.all aW = true := by simp only [go_sem, qH] <;> fail) (hres : res.all.all eP = true := by simp only [go_sem, qH] <;> fail) : CallH (EV C) f args h k ⟨⟩ := CallH.det (cGo hf he hfree hres hk)
theorem hR {C : Ctx} {f : Nat} {args args' : List SV} {res : SV} {h : List HB} {k : List HB → SV → Prop} (hf : FnC Try.prog f args' res) (hk : Nm (k (h ++ adH res.all) (adS h.length res))) (he : args.map (bH h) = args' := by simp only [go_sem, qH] <;> fail) (hfree : args'.all aW = true := by simp only [go_sem, qH] <;> fail) (hres : res.all.all eP = true := by simp only [go_sem, qH] <;> fail) : CallH (EV C) f args h k ⟨⟩ := CallH.det (cGr hf he hfree hres hk)
end Go.Proofs.Ytcppkdifiimblaa.Opq
end
section
section
set_option linter.all false
namespace Go.Proofs.Ytcppkdifiimblaa
open Go Go.Sx Go.RowKit Go.Proofs
def bY (n : Int) (w : Nat) : Int := if n - w < 0 then -1 else n - w
theorem bF {n : Int} {w : Nat} (h : n - w < 0) : bY n w = -1 := if_pos h
theorem bQ {n : Int} {w : Nat} (h : ¬ n - w < 0) : bY n w = n - w := if_neg h
theorem a4N {n : Int} {w : Nat} (h : ¬ bY n w < 0) : w ≤ n := by
 unfold bY at h
 split at h <;> omega
def wsum {α : Type} (w : α → Nat) : List α → Nat
 | [] => 0
 | x :: l => w x + wsum w l
theorem dK {α : Type} (w : α → Nat) : ∀ (l : List α) {k : Nat} (h : k < l.length), w l[k] ≤ wsum w l
 | [], _, h => by simp at h
 | x :: l, 0, _ => by simp [wsum]
 | x :: l, k + 1, h => by
  have := dK w l (k := k) (by simpa using h)
  simp only [List.getElem_cons_succ, wsum]; omega
theorem mQ {α : Type} (w : α → Nat) : ∀ (l : List α) {k : Nat} (h : k < l.length), wsum w (l.take (k + 1)) = wsum w (l.take k) + w l[k]
 | [], _, h => by simp at h
 | x :: l, 0, _ => by simp [wsum]
 | x :: l, k + 1, h => by
  have := mQ w l (k := k) (by simpa using h)
  simp only [List.take_succ_cons, List.getElem_cons_succ, wsum]; omega
theorem tF {α : Type} (w : α → Nat) : ∀ (l : List α) (k : Nat), wsum w (l.take k) ≤ wsum w l
 | [], k => by simp
 | x :: l, 0 => by simp [wsum]
 | x :: l, k + 1 => by
  have := tF w l k
  simp only [List.take_succ_cons, wsum]; omega
@[go_sem] def fJ (n : Int) : List D := [iv n]
@[go_sem] def a7X (s : ByteArray) : List D := [sv s]
abbrev slI (l : List Int) : D := .sl (l.map fJ)
abbrev slS (l : List ByteArray) : D := .sl (l.map a7X)
def a7Y (l : List ByteArray) : Nat := l.length + wsum ByteArray.size l
def qN (l : List Int) : Prop := l.length ≤ 9223372036854775807 ∧ ∀ i ∈ l, inR .i64 i
def a7t (l : List ByteArray) : Prop := l.length ≤ 9223372036854775807 ∧ ∀ s ∈ l, s.size ≤ 9223372036854775807
theorem a0F {n : Nat} {r : List D} (h : ShD tt n 3 r) : ∃ i, r = fJ i ∧ inR .i64 i := by
 match n, h with
 | n + 1, ⟨i, h, hi⟩ => exact ⟨i, h, hi⟩
theorem a5Y {n : Nat} {r : List D} (h : ShD tt n 9 r) : ∃ s : ByteArray, r = a7X s ∧ s.size ≤ 9223372036854775807 := by
 match n, h with
 | n + 1, ⟨s, h, hs⟩ => exact ⟨s, h, hs⟩
theorem a8W {n : Nat} {r : List D} (h : ShD tt n 4 r) : ∃ b : Bool, r = [bv b] := by
 match n, h with
 | n + 1, ⟨b, h⟩ => exact ⟨b, h⟩
theorem a5Z {n : Nat} {r : List D} (h : ShD tt n 26 r) : ∃ l : List Int, r = [slI l] ∧ qN l := by
 match n, h with
 | n + 1, ⟨rows, h, hm, hr⟩ =>
  obtain ⟨l, rfl, hl⟩ := kY fJ (inR .i64) (fun r h => a0F (hr r h))
  exact ⟨l, h, by unfold maxLen at hm; simpa using hm, hl⟩
theorem qO (l : List Int) (hl : l.length ≤ 1048576) : FnC Try.prog 7 [.o (.d (slI l))] (.o (.w 3 1 (l.map fJ))) := by
 refine ent Try.func7 rfl Try.call7 rfl (fun C => ?_); simp only [go_sem, st0, Try.ntmps7]
 refine aL ?_
 refine bE (α := Nat) (fun k => [(4, oi k)]) (fun k => [(0, .row 3 1 (gZ fJ [iv 0] l k) true)]) (fun k => k ≤ l.length) (fun k => l.length - k) 0 (fun _ => ?_) ?_ ?_ (fun k hk => ?_)
 ·simp only [go_sem]
 ·simp only [go_sem]; simp [jW]
 ·simp
 ·simp only [go_sem]
  refine aL ?_
  refine cnd rfl (fun h => ?_) (fun h => ?_)
  ·simp only [decide_eq_true_eq, Int.ofNat_lt] at h
   have q0 := @h; refine iM ?_
   refine aQ (k + 1) ?_ ?_ ?_
   ·simp only [go_sem]; simp [← mI, h, fJ]
   ·omega
   ·omega
  ·simp only [decide_eq_false_iff_not] at h
   have e : k = l.length := by omega
   subst e
   refine aL ?_
   exact aA ⟨⟨_, rfl, by simp only [go_sem, mJ]⟩, trivial⟩
theorem a1I (l : List Int) (hl : l.length ≤ 1048576) : FnC Try.prog 7 [.o (.d (slI l))] (.o (.d (slI l))) := (qO l hl).pu (by simp only [go_sem, and_self])
theorem qP (l : List Int) (hl : l.length ≤ 67108864) : FnC Try.prog 11 [.o (.d (slI l)), .o (.d (slI l))] (ob true) := by
 refine ent Try.func11 rfl Try.call11 rfl (fun C => ?_); simp only [go_sem, st0, Try.ntmps11]
 refine aL ?_
 refine bE (α := Nat) (fun k => [(5, oi k)]) (fun _ => []) (fun k => k ≤ l.length) (fun k => l.length - k) 0 (fun _ => ?_) ?_ ?_ (fun k hk => ?_)
 ·simp only [go_sem]
 ·simp only [go_sem]; simp
 ·simp
 ·simp only [go_sem]
  refine aL ?_
  refine cnd rfl (fun h => ?_) (fun h => ?_)
  ·simp only [decide_eq_true_eq, Int.ofNat_lt] at h
   have q0 := @h; refine iM ?_
   refine aQ (k + 1) ?_ ?_ ?_
   ·simp only [go_sem]; simp
   ·omega
   ·omega
  ·simp only [decide_eq_false_iff_not] at h
   refine aL ?_
   exact aA ⟨⟨_, rfl, by simp only [go_sem]⟩, trivial⟩
end Go.Proofs.Ytcppkdifiimblaa
end
section
set_option linter.all false
set_option maxHeartbeats 1000000
namespace Go.Proofs.Ytcppkdifiimblaa
open Go Go.Sx Go.RowKit Go.Proofs
structure TValue where
 fKind : Int
 fInt : Int
 fStr : ByteArray
@[go_sem] def a4O (x : TValue) : List D := [iv x.fKind, iv x.fInt, sv x.fStr]
@[go_sem] def iG (x : TValue) : SV := .g [.d (iv x.fKind), .d (iv x.fInt), .d (sv x.fStr)]
def cO (x : TValue) : Nat := x.fStr.size
def kN (x : TValue) : Prop := inR .i64 x.fKind ∧ inR .i64 x.fInt ∧ x.fStr.size ≤ 9223372036854775807
def a8z (l : List TValue) : Nat := l.length + wsum cO l
def a7Z (l : List TValue) : Prop := l.length ≤ 9223372036854775807 ∧ ∀ x ∈ l, kN x
theorem a4P {n : Nat} {r : List D} (h : ShD tt n 101 r) : ∃ x : TValue, r = a4O x ∧ kN x := by
 match n, h with
 | n + 1, ⟨a0, b0, e0, h0, a1, b1, e1, h1, a2, b2, e2, h2, ee⟩ =>
  obtain ⟨x0, rfl, p0⟩ := a0F h0
  obtain ⟨x1, rfl, p1⟩ := a0F h1
  obtain ⟨x2, rfl, p2⟩ := a5Y h2
  have ee' : b2 = [] := ee
  subst ee' e2 e1 e0
  exact ⟨⟨x0, x1, x2⟩, rfl, p0, p1, p2⟩
theorem vB (x : TValue) (n : Int) (h0 : 0 ≤ n ∧ n ≤ 1048576) (hw : kN x) : FnC Try.prog 67 [iG x, oi n] (oi (bY n (cO x))) := by
 refine ent Try.func67 rfl Try.call67 rfl (fun C => ?_); simp only [go_sem, st0, Try.ntmps67]
 unfold kN at hw
 by_cases hc0 : n - (x.fStr.size : Nat) < 0
 ·have e : bY n (cO x) = -1 := by rw [bF (by unfold cO; omega)]
  have q0 := @hc0; refine iM ?_
  exact aA ⟨⟨_, rfl, by simp only [go_sem, e]⟩, trivial⟩
 have e : bY n (cO x) = n - (x.fStr.size : Nat) := by rw [bQ (by unfold cO; omega)]; unfold cO; omega
 have q0 := @hc0; refine iM ?_
 exact aA ⟨⟨_, rfl, by simp only [go_sem, e]⟩, trivial⟩
theorem a1J (x : TValue) (hx : cO x ≤ 1048576) : FnC Try.prog 68 [iG x] (iG x) := by
 unfold cO at hx
 refine ent Try.func68 rfl Try.call68 rfl (fun C => ?_); simp only [go_sem, st0, Try.ntmps68]
 refine aL ?_
 exact aA ⟨⟨_, rfl, by simp only [go_sem]⟩, trivial⟩
theorem vC (x : TValue) (hx : cO x ≤ 67108864) : FnC Try.prog 49 [iG x, iG x] (ob true) := by
 unfold cO at hx
 refine ent Try.func49 rfl Try.call49 rfl (fun C => ?_); simp only [go_sem, st0, Try.ntmps49]
 refine aL ?_
 exact aA ⟨⟨_, rfl, by simp only [go_sem]⟩, trivial⟩
end Go.Proofs.Ytcppkdifiimblaa
end
section
set_option linter.all false
set_option maxHeartbeats 1000000
namespace Go.Proofs.Ytcppkdifiimblaa
open Go Go.Sx Go.RowKit Go.Proofs
structure TField where
 fName : ByteArray
 fKind : Int
@[go_sem] def bD (x : TField) : List D := [sv x.fName, iv x.fKind]
@[go_sem] def vD (x : TField) : SV := .g [.d (sv x.fName), .d (iv x.fKind)]
def wField (x : TField) : Nat := x.fName.size
def pV (x : TField) : Prop := x.fName.size ≤ 9223372036854775807 ∧ inR .i64 x.fKind
def cB (l : List TField) : Nat := l.length + wsum wField l
def pW (l : List TField) : Prop := l.length ≤ 9223372036854775807 ∧ ∀ x ∈ l, pV x
theorem a4Q {n : Nat} {r : List D} (h : ShD tt n 70 r) : ∃ x : TField, r = bD x ∧ pV x := by
 match n, h with
 | n + 1, ⟨a0, b0, e0, h0, a1, b1, e1, h1, ee⟩ =>
  obtain ⟨x0, rfl, p0⟩ := a5Y h0
  obtain ⟨x1, rfl, p1⟩ := a0F h1
  have ee' : b1 = [] := ee
  subst ee' e1 e0
  exact ⟨⟨x0, x1⟩, rfl, p0, p1⟩
theorem a3p {n : Nat} {r : List D} (h : ShD tt n 22 r) : ∃ l : List TField, r = [.sl (l.map bD)] ∧ pW l := by
 match n, h with
 | n + 1, ⟨rows, h, hm, hr⟩ =>
  obtain ⟨l, rfl, hl⟩ := kY bD pV (fun r h => a4Q (hr r h))
  exact ⟨l, h, by unfold maxLen at hm; simpa using hm, hl⟩
theorem vE (x : TField) (n : Int) (h0 : 0 ≤ n ∧ n ≤ 1048576) (hw : pV x) : FnC Try.prog 37 [vD x, oi n] (oi (bY n (wField x))) := by
 refine ent Try.func37 rfl Try.call37 rfl (fun C => ?_); simp only [go_sem, st0, Try.ntmps37]
 unfold pV at hw
 by_cases hc0 : n - (x.fName.size : Nat) < 0
 ·have e : bY n (wField x) = -1 := by rw [bF (by unfold wField; omega)]
  have q0 := @hc0; refine iM ?_
  exact aA ⟨⟨_, rfl, by simp only [go_sem, e]⟩, trivial⟩
 have e : bY n (wField x) = n - (x.fName.size : Nat) := by rw [bQ (by unfold wField; omega)]; unfold wField; omega
 have q0 := @hc0; refine iM ?_
 exact aA ⟨⟨_, rfl, by simp only [go_sem, e]⟩, trivial⟩
theorem a1K (x : TField) (hx : wField x ≤ 1048576) : FnC Try.prog 41 [vD x] (vD x) := by
 unfold wField at hx
 refine ent Try.func41 rfl Try.call41 rfl (fun C => ?_); simp only [go_sem, st0, Try.ntmps41]
 refine aL ?_
 exact aA ⟨⟨_, rfl, by simp only [go_sem]⟩, trivial⟩
theorem a1L (x : TField) (hx : wField x ≤ 67108864) : FnC Try.prog 50 [vD x, vD x] (ob true) := by
 unfold wField at hx
 refine ent Try.func50 rfl Try.call50 rfl (fun C => ?_); simp only [go_sem, st0, Try.ntmps50]
 refine aL ?_
 exact aA ⟨⟨_, rfl, by simp only [go_sem]⟩, trivial⟩
theorem a0G (l : List TField) (hl : cB l ≤ 1048576) : FnC Try.prog 21 [.o (.d (.sl (l.map bD)))] (.o (.w 78 2 (l.map bD))) := by
 unfold cB at hl
 refine ent Try.func21 rfl Try.call21 rfl (fun C => ?_); simp only [go_sem, st0, Try.ntmps21]
 refine aL ?_
 refine bE (α := Nat) (fun k => [(4, oi k)]) (fun k => [(0, .row 78 2 (gZ bD [sv ⟨#[]⟩, iv 0] l k) true)]) (fun k => k ≤ l.length) (fun k => l.length - k) 0 (fun _ => ?_) ?_ ?_ (fun k hk => ?_)
 ·simp only [go_sem]
 ·simp only [go_sem]; simp [jW]
 ·simp
 ·simp only [go_sem]
  refine aL ?_
  refine cnd rfl (fun h => ?_) (fun h => ?_)
  ·simp only [decide_eq_true_eq, Int.ofNat_lt] at h
   have hw := dK wField l h
   have q0 := @h; refine wB (a1K l[k] (by omega)) ?_
   refine aQ (k + 1) ?_ ?_ ?_
   ·simp only [go_sem]; simp [← mI, h, bD]
   ·omega
   ·omega
  ·simp only [decide_eq_false_iff_not] at h
   have e : k = l.length := by omega
   subst e
   refine aL ?_
   exact aA ⟨⟨_, rfl, by simp only [go_sem, mJ]⟩, trivial⟩
theorem a0H (l : List TField) (hl : cB l ≤ 67108864) : FnC Try.prog 31 [.o (.d (.sl (l.map bD))), .o (.d (.sl (l.map bD)))] (ob true) := by
 unfold cB at hl
 refine ent Try.func31 rfl Try.call31 rfl (fun C => ?_); simp only [go_sem, st0, Try.ntmps31]
 refine aL ?_
 refine bE (α := Nat) (fun k => [(5, oi k)]) (fun _ => []) (fun k => k ≤ l.length) (fun k => l.length - k) 0 (fun _ => ?_) ?_ ?_ (fun k hk => ?_)
 ·simp only [go_sem]
 ·simp only [go_sem]; simp
 ·simp
 ·simp only [go_sem]
  refine aL ?_
  refine cnd rfl (fun h => ?_) (fun h => ?_)
  ·simp only [decide_eq_true_eq, Int.ofNat_lt] at h
   have hw := dK wField l h
   have q0 := @h; refine wB (a1L l[k] (by omega)) ?_
   refine aQ (k + 1) ?_ ?_ ?_
   ·simp only [go_sem]; simp
   ·omega
   ·omega
  ·simp only [decide_eq_false_iff_not] at h
   refine aL ?_
   exact aA ⟨⟨_, rfl, by simp only [go_sem]⟩, trivial⟩
theorem lU (l : List TField) (n : Int) (h0 : 0 ≤ n ∧ n ≤ 1048576) (hw : pW l) : FnC Try.prog 16 [.o (.d (.sl (l.map bD))), oi n] (oi (bY n (cB l))) := by
 unfold pW at hw
 refine ent Try.func16 rfl Try.call16 rfl (fun C => ?_); simp only [go_sem, st0, Try.ntmps16]
 by_cases hc : n - (l.length : Nat) < 0
 ·have e : bY n (cB l) = -1 := by rw [bF (by unfold cB; omega)]
  have q0 := @hc; refine iM ?_
  exact aA ⟨⟨_, rfl, by simp only [go_sem, e]⟩, trivial⟩
 have q0 := @hc; refine iM ?_
 refine bE (α := Nat) (fun k => [(5, oi k), (1, oi (n - (l.length : Nat) - (wsum wField (l.take k) : Nat)))]) (fun _ => []) (fun k => k ≤ l.length ∧ 0 ≤ n - (l.length : Nat) - (wsum wField (l.take k) : Nat)) (fun k => l.length - k) 0 (fun _ => ?_) ?_ ?_ (fun k hk => ?_)
 ·simp only [go_sem]
 ·simp only [go_sem]; simp [wsum]
 ·simp [wsum]; omega
 ·obtain ⟨hk, hn⟩ := hk
  simp only [go_sem]
  refine aL ?_
  refine cnd rfl (fun h => ?_) (fun h => ?_)
  ·simp only [decide_eq_true_eq, Int.ofNat_lt] at h
   have hs := mQ wField l h
   have ht := tF wField l (k + 1)
   by_cases h2 : n - (l.length : Nat) - (wsum wField (l.take k) : Nat) - (wField l[k] : Nat) < 0
   ·have e : bY n (cB l) = -1 := by rw [bF (by unfold cB; omega)]
    have q0 := @h; have q1 := bF h2; refine a0x (vE l[k] _ ⟨hn, by omega⟩ (hw.2 _ (List.getElem_mem h))) ?_
    exact aA ⟨⟨_, rfl, by simp only [go_sem, e]⟩, trivial⟩
   ·have q0 := @h; have q1 := bQ h2; have q2 := @h2; refine a4r (vE l[k] _ ⟨hn, by omega⟩ (hw.2 _ (List.getElem_mem h))) ?_
    refine aQ (k + 1) ?_ ?_ ?_
    ·simp only [go_sem]; simp; omega
    ·omega
    ·omega
  ·simp only [decide_eq_false_iff_not] at h
   have e0 : k = l.length := by omega
   subst e0
   rw [List.take_length] at hn
   have e : bY n (cB l) = n - (l.length : Nat) - (wsum wField l : Nat) := by rw [bQ (by unfold cB; omega)]; unfold cB; omega
   refine aL ?_
   exact aA ⟨⟨_, rfl, by simp only [go_sem, e, List.take_length]⟩, trivial⟩
end Go.Proofs.Ytcppkdifiimblaa
end
section
set_option linter.all false
set_option maxHeartbeats 1000000
namespace Go.Proofs.Ytcppkdifiimblaa
open Go Go.Sx Go.RowKit Go.Proofs
structure TAttr where
 fName : ByteArray
 fValue : TValue
@[go_sem] def bL (x : TAttr) : List D := [sv x.fName, iv x.fValue.fKind, iv x.fValue.fInt, sv x.fValue.fStr]
@[go_sem] def a0I (x : TAttr) : SV := .g [.d (sv x.fName), .d (iv x.fValue.fKind), .d (iv x.fValue.fInt), .d (sv x.fValue.fStr)]
def wAttr (x : TAttr) : Nat := x.fName.size + cO x.fValue
def vF (x : TAttr) : Prop := x.fName.size ≤ 9223372036854775807 ∧ kN x.fValue
def cK (l : List TAttr) : Nat := l.length + wsum wAttr l
def pX (l : List TAttr) : Prop := l.length ≤ 9223372036854775807 ∧ ∀ x ∈ l, vF x
theorem a6a {n : Nat} {r : List D} (h : ShD tt n 103 r) : ∃ x : TAttr, r = bL x ∧ vF x := by
 match n, h with
 | n + 1, ⟨a0, b0, e0, h0, a1, b1, e1, h1, ee⟩ =>
  obtain ⟨x0, rfl, p0⟩ := a5Y h0
  obtain ⟨x1, rfl, p1⟩ := a4P h1
  have ee' : b1 = [] := ee
  subst ee' e1 e0
  exact ⟨⟨x0, x1⟩, rfl, p0, p1⟩
theorem a4R {n : Nat} {r : List D} (h : ShD tt n 72 r) : ∃ l : List TAttr, r = [.sl (l.map bL)] ∧ pX l := by
 match n, h with
 | n + 1, ⟨rows, h, hm, hr⟩ =>
  obtain ⟨l, rfl, hl⟩ := kY bL vF (fun r h => a6a (hr r h))
  exact ⟨l, h, by unfold maxLen at hm; simpa using hm, hl⟩
theorem xO (x : TAttr) (n : Int) (h0 : 0 ≤ n ∧ n ≤ 1048576) (hw : vF x) : FnC Try.prog 63 [a0I x, oi n] (oi (bY n (wAttr x))) := by
 refine ent Try.func63 rfl Try.call63 rfl (fun C => ?_); simp only [go_sem, st0, Try.ntmps63]
 unfold vF at hw
 by_cases hc0 : n - (x.fName.size : Nat) < 0
 ·have e : bY n (wAttr x) = -1 := by rw [bF (by unfold wAttr; omega)]
  have q0 := @hc0; refine iM ?_
  exact aA ⟨⟨_, rfl, by simp only [go_sem, e]⟩, trivial⟩
 by_cases hc1 : n - (x.fName.size : Nat) - (cO x.fValue : Nat) < 0
 ·have e : bY n (wAttr x) = -1 := by rw [bF (by unfold wAttr; omega)]
  have q0 := @hc0; have q1 := bF hc1; have q2 := @hc1; refine a4r (vB x.fValue (n - (x.fName.size : Nat)) (by omega) hw.2) ?_
  exact aA ⟨⟨_, rfl, by simp only [go_sem, e]⟩, trivial⟩
 have e : bY n (wAttr x) = n - (x.fName.size : Nat) - (cO x.fValue : Nat) := by rw [bQ (by unfold wAttr; omega)]; unfold wAttr; omega
 have q0 := @hc0; have q1 := bQ hc1; have q2 := @hc1; refine a4r (vB x.fValue (n - (x.fName.size : Nat)) (by omega) hw.2) ?_
 exact aA ⟨⟨_, rfl, by simp only [go_sem, e]⟩, trivial⟩
theorem a3q (x : TAttr) (hx : wAttr x ≤ 1048576) : FnC Try.prog 64 [a0I x] (a0I x) := by
 unfold wAttr at hx
 refine ent Try.func64 rfl Try.call64 rfl (fun C => ?_); simp only [go_sem, st0, Try.ntmps64]
 refine yY (a1J x.fValue (by omega)) ?_
 exact aA ⟨⟨_, rfl, by simp only [go_sem]⟩, trivial⟩
theorem a3r (x : TAttr) (hx : wAttr x ≤ 67108864) : FnC Try.prog 66 [a0I x, a0I x] (ob true) := by
 unfold wAttr at hx
 refine ent Try.func66 rfl Try.call66 rfl (fun C => ?_); simp only [go_sem, st0, Try.ntmps66]
 refine yY (vC x.fValue (by omega)) ?_
 exact aA ⟨⟨_, rfl, by simp only [go_sem]⟩, trivial⟩
theorem a1M (l : List TAttr) (hl : cK l ≤ 1048576) : FnC Try.prog 54 [.o (.d (.sl (l.map bL)))] (.o (.w 77 4 (l.map bL))) := by
 unfold cK at hl
 refine ent Try.func54 rfl Try.call54 rfl (fun C => ?_); simp only [go_sem, st0, Try.ntmps54]
 refine aL ?_
 refine bE (α := Nat) (fun k => [(4, oi k)]) (fun k => [(0, .row 77 4 (gZ bL [sv ⟨#[]⟩, iv 0, iv 0, sv ⟨#[]⟩] l k) true)]) (fun k => k ≤ l.length) (fun k => l.length - k) 0 (fun _ => ?_) ?_ ?_ (fun k hk => ?_)
 ·simp only [go_sem]
 ·simp only [go_sem]; simp [jW]
 ·simp
 ·simp only [go_sem]
  refine aL ?_
  refine cnd rfl (fun h => ?_) (fun h => ?_)
  ·simp only [decide_eq_true_eq, Int.ofNat_lt] at h
   have hw := dK wAttr l h
   have q0 := @h; refine wB (a3q l[k] (by omega)) ?_
   refine aQ (k + 1) ?_ ?_ ?_
   ·simp only [go_sem]; simp [← mI, h, bL]
   ·omega
   ·omega
  ·simp only [decide_eq_false_iff_not] at h
   have e : k = l.length := by omega
   subst e
   refine aL ?_
   exact aA ⟨⟨_, rfl, by simp only [go_sem, mJ]⟩, trivial⟩
theorem a1N (l : List TAttr) (hl : cK l ≤ 67108864) : FnC Try.prog 62 [.o (.d (.sl (l.map bL))), .o (.d (.sl (l.map bL)))] (ob true) := by
 unfold cK at hl
 refine ent Try.func62 rfl Try.call62 rfl (fun C => ?_); simp only [go_sem, st0, Try.ntmps62]
 refine aL ?_
 refine bE (α := Nat) (fun k => [(5, oi k)]) (fun _ => []) (fun k => k ≤ l.length) (fun k => l.length - k) 0 (fun _ => ?_) ?_ ?_ (fun k hk => ?_)
 ·simp only [go_sem]
 ·simp only [go_sem]; simp
 ·simp
 ·simp only [go_sem]
  refine aL ?_
  refine cnd rfl (fun h => ?_) (fun h => ?_)
  ·simp only [decide_eq_true_eq, Int.ofNat_lt] at h
   have hw := dK wAttr l h
   have q0 := @h; refine wB (a3r l[k] (by omega)) ?_
   refine aQ (k + 1) ?_ ?_ ?_
   ·simp only [go_sem]; simp
   ·omega
   ·omega
  ·simp only [decide_eq_false_iff_not] at h
   refine aL ?_
   exact aA ⟨⟨_, rfl, by simp only [go_sem]⟩, trivial⟩
theorem vG (l : List TAttr) (n : Int) (h0 : 0 ≤ n ∧ n ≤ 1048576) (hw : pX l) : FnC Try.prog 53 [.o (.d (.sl (l.map bL))), oi n] (oi (bY n (cK l))) := by
 unfold pX at hw
 refine ent Try.func53 rfl Try.call53 rfl (fun C => ?_); simp only [go_sem, st0, Try.ntmps53]
 by_cases hc : n - (l.length : Nat) < 0
 ·have e : bY n (cK l) = -1 := by rw [bF (by unfold cK; omega)]
  have q0 := @hc; refine iM ?_
  exact aA ⟨⟨_, rfl, by simp only [go_sem, e]⟩, trivial⟩
 have q0 := @hc; refine iM ?_
 refine bE (α := Nat) (fun k => [(5, oi k), (1, oi (n - (l.length : Nat) - (wsum wAttr (l.take k) : Nat)))]) (fun _ => []) (fun k => k ≤ l.length ∧ 0 ≤ n - (l.length : Nat) - (wsum wAttr (l.take k) : Nat)) (fun k => l.length - k) 0 (fun _ => ?_) ?_ ?_ (fun k hk => ?_)
 ·simp only [go_sem]
 ·simp only [go_sem]; simp [wsum]
 ·simp [wsum]; omega
 ·obtain ⟨hk, hn⟩ := hk
  simp only [go_sem]
  refine aL ?_
  refine cnd rfl (fun h => ?_) (fun h => ?_)
  ·simp only [decide_eq_true_eq, Int.ofNat_lt] at h
   have hs := mQ wAttr l h
   have ht := tF wAttr l (k + 1)
   by_cases h2 : n - (l.length : Nat) - (wsum wAttr (l.take k) : Nat) - (wAttr l[k] : Nat) < 0
   ·have e : bY n (cK l) = -1 := by rw [bF (by unfold cK; omega)]
    have q0 := @h; have q1 := bF h2; refine a0x (xO l[k] _ ⟨hn, by omega⟩ (hw.2 _ (List.getElem_mem h))) ?_
    exact aA ⟨⟨_, rfl, by simp only [go_sem, e]⟩, trivial⟩
   ·have q0 := @h; have q1 := bQ h2; have q2 := @h2; refine a4r (xO l[k] _ ⟨hn, by omega⟩ (hw.2 _ (List.getElem_mem h))) ?_
    refine aQ (k + 1) ?_ ?_ ?_
    ·simp only [go_sem]; simp; omega
    ·omega
    ·omega
  ·simp only [decide_eq_false_iff_not] at h
   have e0 : k = l.length := by omega
   subst e0
   rw [List.take_length] at hn
   have e : bY n (cK l) = n - (l.length : Nat) - (wsum wAttr l : Nat) := by rw [bQ (by unfold cK; omega)]; unfold cK; omega
   refine aL ?_
   exact aA ⟨⟨_, rfl, by simp only [go_sem, e, List.take_length]⟩, trivial⟩
end Go.Proofs.Ytcppkdifiimblaa
end
section
set_option linter.all false
set_option maxHeartbeats 1000000
namespace Go.Proofs.Ytcppkdifiimblaa
open Go Go.Sx Go.RowKit Go.Proofs
structure TFile where
 fID : Int
 fOwner : Int
 fShared : Bool
 fLink : Int
 fAttrs : List TAttr
@[go_sem] def bM (x : TFile) : List D := [iv x.fID, iv x.fOwner, bv x.fShared, iv x.fLink, .sl (x.fAttrs.map bL)]
@[go_sem] def kV (x : TFile) : SV := .g [.d (iv x.fID), .d (iv x.fOwner), .d (bv x.fShared), .d (iv x.fLink), .d (.sl (x.fAttrs.map bL))]
@[go_sem] def a0J (x : TFile) : SV := .g [.d (iv x.fID), .d (iv x.fOwner), .d (bv x.fShared), .d (iv x.fLink), .w 77 4 (x.fAttrs.map bL)]
def wFile (x : TFile) : Nat := cK x.fAttrs
def qQ (x : TFile) : Prop := inR .i64 x.fID ∧ inR .i64 x.fOwner ∧ True ∧ inR .i64 x.fLink ∧ pX x.fAttrs
def bZ (l : List TFile) : Nat := l.length + wsum wFile l
def tH (l : List TFile) : Prop := l.length ≤ 9223372036854775807 ∧ ∀ x ∈ l, qQ x
theorem a6b {n : Nat} {r : List D} (h : ShD tt n 74 r) : ∃ x : TFile, r = bM x ∧ qQ x := by
 match n, h with
 | n + 1, ⟨a0, b0, e0, h0, a1, b1, e1, h1, a2, b2, e2, h2, a3, b3, e3, h3, a4, b4, e4, h4, ee⟩ =>
  obtain ⟨x0, rfl, p0⟩ := a0F h0
  obtain ⟨x1, rfl, p1⟩ := a0F h1
  obtain ⟨x2, rfl⟩ := a8W h2
  obtain ⟨x3, rfl, p3⟩ := a0F h3
  obtain ⟨x4, rfl, p4⟩ := a4R h4
  have ee' : b4 = [] := ee
  subst ee' e4 e3 e2 e1 e0
  exact ⟨⟨x0, x1, x2, x3, x4⟩, rfl, p0, p1, trivial, p3, p4⟩
theorem a4S {n : Nat} {r : List D} (h : ShD tt n 23 r) : ∃ l : List TFile, r = [.sl (l.map bM)] ∧ tH l := by
 match n, h with
 | n + 1, ⟨rows, h, hm, hr⟩ =>
  obtain ⟨l, rfl, hl⟩ := kY bM qQ (fun r h => a6b (hr r h))
  exact ⟨l, h, by unfold maxLen at hm; simpa using hm, hl⟩
theorem xP (x : TFile) (n : Int) (h0 : 0 ≤ n ∧ n ≤ 1048576) (hw : qQ x) : FnC Try.prog 38 [kV x, oi n] (oi (bY n (wFile x))) := by
 refine ent Try.func38 rfl Try.call38 rfl (fun C => ?_); simp only [go_sem, st0, Try.ntmps38]
 unfold qQ at hw
 by_cases hc0 : n - (cK x.fAttrs : Nat) < 0
 ·have e : bY n (wFile x) = -1 := by rw [bF (by unfold wFile; omega)]
  have q0 := bF hc0; have q1 := @hc0; refine a0x (vG x.fAttrs (n) (by omega) hw.2.2.2.2) ?_
  exact aA ⟨⟨_, rfl, by simp only [go_sem, e]⟩, trivial⟩
 have e : bY n (wFile x) = n - (cK x.fAttrs : Nat) := by rw [bQ (by unfold wFile; omega)]; unfold wFile; omega
 have q0 := bQ hc0; have q1 := @hc0; refine a0x (vG x.fAttrs (n) (by omega) hw.2.2.2.2) ?_
 exact aA ⟨⟨_, rfl, by simp only [go_sem, e]⟩, trivial⟩
theorem a3s (x : TFile) (hx : wFile x ≤ 1048576) : FnC Try.prog 42 [kV x] (a0J x) := by
 unfold wFile at hx
 refine ent Try.func42 rfl Try.call42 rfl (fun C => ?_); simp only [go_sem, st0, Try.ntmps42]
 refine yY (a1M x.fAttrs (by omega)) ?_
 exact aA ⟨⟨_, rfl, by simp only [go_sem]⟩, trivial⟩
theorem a3t (x : TFile) (hx : wFile x ≤ 67108864) : FnC Try.prog 51 [kV x, kV x] (ob true) := by
 unfold wFile at hx
 refine ent Try.func51 rfl Try.call51 rfl (fun C => ?_); simp only [go_sem, st0, Try.ntmps51]
 refine yY (a1N x.fAttrs (by omega)) ?_
 exact aA ⟨⟨_, rfl, by simp only [go_sem]⟩, trivial⟩
theorem a1O (l : List TFile) (hl : bZ l ≤ 1048576) : FnC Try.prog 22 [.o (.d (.sl (l.map bM)))] (.o (.w 47 5 (l.map bM))) := by
 unfold bZ at hl
 refine ent Try.func22 rfl Try.call22 rfl (fun C => ?_); simp only [go_sem, st0, Try.ntmps22]
 refine aL ?_
 refine bE (α := Nat) (fun k => [(4, oi k)]) (fun k => [(0, .row 47 5 (gZ bM [iv 0, iv 0, bv false, iv 0, .sl []] l k) true)]) (fun k => k ≤ l.length) (fun k => l.length - k) 0 (fun _ => ?_) ?_ ?_ (fun k hk => ?_)
 ·simp only [go_sem]
 ·simp only [go_sem]; simp [jW]
 ·simp
 ·simp only [go_sem]
  refine aL ?_
  refine cnd rfl (fun h => ?_) (fun h => ?_)
  ·simp only [decide_eq_true_eq, Int.ofNat_lt] at h
   have hw := dK wFile l h
   have q0 := @h; refine wB (a3s l[k] (by omega)) ?_
   refine aQ (k + 1) ?_ ?_ ?_
   ·simp only [go_sem]; simp [← mI, h, bM]
   ·omega
   ·omega
  ·simp only [decide_eq_false_iff_not] at h
   have e : k = l.length := by omega
   subst e
   refine aL ?_
   exact aA ⟨⟨_, rfl, by simp only [go_sem, mJ]⟩, trivial⟩
theorem a1P (l : List TFile) (hl : bZ l ≤ 67108864) : FnC Try.prog 32 [.o (.d (.sl (l.map bM))), .o (.d (.sl (l.map bM)))] (ob true) := by
 unfold bZ at hl
 refine ent Try.func32 rfl Try.call32 rfl (fun C => ?_); simp only [go_sem, st0, Try.ntmps32]
 refine aL ?_
 refine bE (α := Nat) (fun k => [(5, oi k)]) (fun _ => []) (fun k => k ≤ l.length) (fun k => l.length - k) 0 (fun _ => ?_) ?_ ?_ (fun k hk => ?_)
 ·simp only [go_sem]
 ·simp only [go_sem]; simp
 ·simp
 ·simp only [go_sem]
  refine aL ?_
  refine cnd rfl (fun h => ?_) (fun h => ?_)
  ·simp only [decide_eq_true_eq, Int.ofNat_lt] at h
   have hw := dK wFile l h
   have q0 := @h; refine wB (a3t l[k] (by omega)) ?_
   refine aQ (k + 1) ?_ ?_ ?_
   ·simp only [go_sem]; simp
   ·omega
   ·omega
  ·simp only [decide_eq_false_iff_not] at h
   refine aL ?_
   exact aA ⟨⟨_, rfl, by simp only [go_sem]⟩, trivial⟩
theorem vH (l : List TFile) (n : Int) (h0 : 0 ≤ n ∧ n ≤ 1048576) (hw : tH l) : FnC Try.prog 17 [.o (.d (.sl (l.map bM))), oi n] (oi (bY n (bZ l))) := by
 unfold tH at hw
 refine ent Try.func17 rfl Try.call17 rfl (fun C => ?_); simp only [go_sem, st0, Try.ntmps17]
 by_cases hc : n - (l.length : Nat) < 0
 ·have e : bY n (bZ l) = -1 := by rw [bF (by unfold bZ; omega)]
  have q0 := @hc; refine iM ?_
  exact aA ⟨⟨_, rfl, by simp only [go_sem, e]⟩, trivial⟩
 have q0 := @hc; refine iM ?_
 refine bE (α := Nat) (fun k => [(5, oi k), (1, oi (n - (l.length : Nat) - (wsum wFile (l.take k) : Nat)))]) (fun _ => []) (fun k => k ≤ l.length ∧ 0 ≤ n - (l.length : Nat) - (wsum wFile (l.take k) : Nat)) (fun k => l.length - k) 0 (fun _ => ?_) ?_ ?_ (fun k hk => ?_)
 ·simp only [go_sem]
 ·simp only [go_sem]; simp [wsum]
 ·simp [wsum]; omega
 ·obtain ⟨hk, hn⟩ := hk
  simp only [go_sem]
  refine aL ?_
  refine cnd rfl (fun h => ?_) (fun h => ?_)
  ·simp only [decide_eq_true_eq, Int.ofNat_lt] at h
   have hs := mQ wFile l h
   have ht := tF wFile l (k + 1)
   by_cases h2 : n - (l.length : Nat) - (wsum wFile (l.take k) : Nat) - (wFile l[k] : Nat) < 0
   ·have e : bY n (bZ l) = -1 := by rw [bF (by unfold bZ; omega)]
    have q0 := @h; have q1 := bF h2; refine a0x (xP l[k] _ ⟨hn, by omega⟩ (hw.2 _ (List.getElem_mem h))) ?_
    exact aA ⟨⟨_, rfl, by simp only [go_sem, e]⟩, trivial⟩
   ·have q0 := @h; have q1 := bQ h2; have q2 := @h2; refine a4r (xP l[k] _ ⟨hn, by omega⟩ (hw.2 _ (List.getElem_mem h))) ?_
    refine aQ (k + 1) ?_ ?_ ?_
    ·simp only [go_sem]; simp; omega
    ·omega
    ·omega
  ·simp only [decide_eq_false_iff_not] at h
   have e0 : k = l.length := by omega
   subst e0
   rw [List.take_length] at hn
   have e : bY n (bZ l) = n - (l.length : Nat) - (wsum wFile l : Nat) := by rw [bQ (by unfold bZ; omega)]; unfold bZ; omega
   refine aL ?_
   exact aA ⟨⟨_, rfl, by simp only [go_sem, e, List.take_length]⟩, trivial⟩
end Go.Proofs.Ytcppkdifiimblaa
end
section
set_option linter.all false
set_option maxHeartbeats 1000000
namespace Go.Proofs.Ytcppkdifiimblaa
open Go Go.Sx Go.RowKit Go.Proofs
structure TStore where
 fSchema : List TField
 fFiles : List TFile
 fNextID : Int
@[go_sem] def a4T (x : TStore) : List D := [.sl (x.fSchema.map bD), .sl (x.fFiles.map bM), iv x.fNextID]
@[go_sem] def eZ (x : TStore) : SV := .g [.d (.sl (x.fSchema.map bD)), .d (.sl (x.fFiles.map bM)), .d (iv x.fNextID)]
@[go_sem] def a7d (x : TStore) : SV := .g [.w 78 2 (x.fSchema.map bD), .w 47 5 (x.fFiles.map bM), .d (iv x.fNextID)]
def bI (x : TStore) : Nat := cB x.fSchema + bZ x.fFiles
def kP (x : TStore) : Prop := pW x.fSchema ∧ tH x.fFiles ∧ inR .i64 x.fNextID
def a8A (l : List TStore) : Nat := l.length + wsum bI l
def a8a (l : List TStore) : Prop := l.length ≤ 9223372036854775807 ∧ ∀ x ∈ l, kP x
theorem a4U {n : Nat} {r : List D} (h : ShD tt n 25 r) : ∃ x : TStore, r = a4T x ∧ kP x := by
 match n, h with
 | n + 1, ⟨a0, b0, e0, h0, a1, b1, e1, h1, a2, b2, e2, h2, ee⟩ =>
  obtain ⟨x0, rfl, p0⟩ := a3p h0
  obtain ⟨x1, rfl, p1⟩ := a4S h1
  obtain ⟨x2, rfl, p2⟩ := a0F h2
  have ee' : b2 = [] := ee
  subst ee' e2 e1 e0
  exact ⟨⟨x0, x1, x2⟩, rfl, p0, p1, p2⟩
theorem a1Q (x : TStore) (n : Int) (h0 : 0 ≤ n ∧ n ≤ 1048576) (hw : kP x) : FnC Try.prog 4 [eZ x, oi n] (oi (bY n (bI x))) := by
 refine ent Try.func4 rfl Try.call4 rfl (fun C => ?_); simp only [go_sem, st0, Try.ntmps4]
 unfold kP at hw
 by_cases hc0 : n - (cB x.fSchema : Nat) < 0
 ·have e : bY n (bI x) = -1 := by rw [bF (by unfold bI; omega)]
  have q0 := bF hc0; have q1 := @hc0; refine a0x (lU x.fSchema (n) (by omega) hw.1) ?_
  exact aA ⟨⟨_, rfl, by simp only [go_sem, e]⟩, trivial⟩
 by_cases hc1 : n - (cB x.fSchema : Nat) - (bZ x.fFiles : Nat) < 0
 ·have e : bY n (bI x) = -1 := by rw [bF (by unfold bI; omega)]
  have q0 := bQ hc0; have q1 := @hc0; have q2 := bF hc1; have q3 := @hc1; refine a4s (lU x.fSchema (n) (by omega) hw.1) (vH x.fFiles (n - (cB x.fSchema : Nat)) (by omega) hw.2.1) ?_
  exact aA ⟨⟨_, rfl, by simp only [go_sem, e]⟩, trivial⟩
 have e : bY n (bI x) = n - (cB x.fSchema : Nat) - (bZ x.fFiles : Nat) := by rw [bQ (by unfold bI; omega)]; unfold bI; omega
 have q0 := bQ hc0; have q1 := @hc0; have q2 := bQ hc1; have q3 := @hc1; refine a4s (lU x.fSchema (n) (by omega) hw.1) (vH x.fFiles (n - (cB x.fSchema : Nat)) (by omega) hw.2.1) ?_
 exact aA ⟨⟨_, rfl, by simp only [go_sem, e]⟩, trivial⟩
theorem oD (x : TStore) (hx : bI x ≤ 1048576) : FnC Try.prog 6 [eZ x] (a7d x) := by
 unfold bI at hx
 refine ent Try.func6 rfl Try.call6 rfl (fun C => ?_); simp only [go_sem, st0, Try.ntmps6]
 refine a6M (a0G x.fSchema (by omega)) (a1O x.fFiles (by omega)) ?_
 exact aA ⟨⟨_, rfl, by simp only [go_sem]⟩, trivial⟩
theorem a0K (x : TStore) (hx : bI x ≤ 1048576) : FnC Try.prog 6 [eZ x] (eZ x) := (oD x hx).pu (by simp only [go_sem, and_self])
theorem vK (x : TStore) (hx : bI x ≤ 67108864) : FnC Try.prog 10 [eZ x, eZ x] (ob true) := by
 unfold bI at hx
 refine ent Try.func10 rfl Try.call10 rfl (fun C => ?_); simp only [go_sem, st0, Try.ntmps10]
 refine a6M (a0H x.fSchema (by omega)) (a1P x.fFiles (by omega)) ?_
 exact aA ⟨⟨_, rfl, by simp only [go_sem]⟩, trivial⟩
end Go.Proofs.Ytcppkdifiimblaa
end
section
set_option linter.all false
set_option maxHeartbeats 1000000
namespace Go.Proofs.Ytcppkdifiimblaa
open Go Go.Sx Go.RowKit Go.Proofs
structure TNode where
 fOp : Int
 fLeft : Int
 fRight : Int
 fName : ByteArray
 fValue : TValue
@[go_sem] def tJ (x : TNode) : List D := [iv x.fOp, iv x.fLeft, iv x.fRight, sv x.fName, iv x.fValue.fKind, iv x.fValue.fInt, sv x.fValue.fStr]
@[go_sem] def a9n (x : TNode) : SV := .g [.d (iv x.fOp), .d (iv x.fLeft), .d (iv x.fRight), .d (sv x.fName), .d (iv x.fValue.fKind), .d (iv x.fValue.fInt), .d (sv x.fValue.fStr)]
def a8b (x : TNode) : Nat := x.fName.size + cO x.fValue
def a7e (x : TNode) : Prop := inR .i64 x.fOp ∧ inR .i64 x.fLeft ∧ inR .i64 x.fRight ∧ x.fName.size ≤ 9223372036854775807 ∧ kN x.fValue
def a7f (l : List TNode) : Nat := l.length + wsum a8b l
def a6c (l : List TNode) : Prop := l.length ≤ 9223372036854775807 ∧ ∀ x ∈ l, a7e x
end Go.Proofs.Ytcppkdifiimblaa
end
section
set_option linter.all false
set_option maxHeartbeats 1000000
namespace Go.Proofs.Ytcppkdifiimblaa
open Go Go.Sx Go.RowKit Go.Proofs
structure TDir where
 fName : ByteArray
 fQuery : List TNode
@[go_sem] def zC (x : TDir) : List D := [sv x.fName, .sl (x.fQuery.map tJ)]
@[go_sem] def a9B (x : TDir) : SV := .g [.d (sv x.fName), .d (.sl (x.fQuery.map tJ))]
def a8c (x : TDir) : Nat := x.fName.size + a7f x.fQuery
def a6m (x : TDir) : Prop := x.fName.size ≤ 9223372036854775807 ∧ a6c x.fQuery
def a6n (l : List TDir) : Nat := l.length + wsum a8c l
def a4V (l : List TDir) : Prop := l.length ≤ 9223372036854775807 ∧ ∀ x ∈ l, a6m x
end Go.Proofs.Ytcppkdifiimblaa
end
end
section
section
set_option linter.all false
set_option maxHeartbeats 1000000
namespace Go.Proofs.Ytcppkdifiimblaa
open Go Go.Sx Go.RowKit Go.Proofs
structure TResult where
 fName : ByteArray
 fIDs : List Int
@[go_sem] def xN (x : TResult) : List D := [sv x.fName, .sl (x.fIDs.map fJ)]
@[go_sem] def a8q (x : TResult) : SV := .g [.d (sv x.fName), .d (.sl (x.fIDs.map fJ))]
@[go_sem] def a8r (x : TResult) : SV := .g [.d (sv x.fName), .w 3 1 (x.fIDs.map fJ)]
def a5V (x : TResult) : Nat := x.fName.size + x.fIDs.length
def a4I (x : TResult) : Prop := x.fName.size ≤ 9223372036854775807 ∧ qN x.fIDs
def a4J (l : List TResult) : Nat := l.length + wsum a5V l
def a3m (l : List TResult) : Prop := l.length ≤ 9223372036854775807 ∧ ∀ x ∈ l, a4I x
end Go.Proofs.Ytcppkdifiimblaa
end
section
set_option linter.all false
set_option maxHeartbeats 1000000
namespace Go.Proofs.Ytcppkdifiimblaa
open Go Go.Sx Go.RowKit Go.Proofs
structure TDiff where
 fName : ByteArray
 fAdded : List Int
 fRemoved : List Int
@[go_sem] def a8s (x : TDiff) : List D := [sv x.fName, .sl (x.fAdded.map fJ), .sl (x.fRemoved.map fJ)]
@[go_sem] def a9i (x : TDiff) : SV := .g [.d (sv x.fName), .d (.sl (x.fAdded.map fJ)), .d (.sl (x.fRemoved.map fJ))]
@[go_sem] def a9j (x : TDiff) : SV := .g [.d (sv x.fName), .w 3 1 (x.fAdded.map fJ), .w 3 1 (x.fRemoved.map fJ)]
def a7R (x : TDiff) : Nat := x.fName.size + x.fAdded.length + x.fRemoved.length
def a6X (x : TDiff) : Prop := x.fName.size ≤ 9223372036854775807 ∧ qN x.fAdded ∧ qN x.fRemoved
def a8S (l : List TDiff) : Nat := l.length + wsum a7R l
def a8t (l : List TDiff) : Prop := l.length ≤ 9223372036854775807 ∧ ∀ x ∈ l, a6X x
end Go.Proofs.Ytcppkdifiimblaa
end
section
set_option linter.all false
set_option maxHeartbeats 1000000
namespace Go.Proofs.Ytcppkdifiimblaa
open Go Go.Sx Go.RowKit Go.Proofs
structure TCatalog where
 fStore : TStore
 fDirs : List TDir
 fResults : List TResult
@[go_sem] def a6Y (x : TCatalog) : List D := [.sl (x.fStore.fSchema.map bD), .sl (x.fStore.fFiles.map bM), iv x.fStore.fNextID, .sl (x.fDirs.map zC), .sl (x.fResults.map xN)]
@[go_sem] def a7S (x : TCatalog) : SV := .g [.d (.sl (x.fStore.fSchema.map bD)), .d (.sl (x.fStore.fFiles.map bM)), .d (iv x.fStore.fNextID), .d (.sl (x.fDirs.map zC)), .d (.sl (x.fResults.map xN))]
def a4K (x : TCatalog) : Nat := bI x.fStore + a6n x.fDirs + a4J x.fResults
def a3n (x : TCatalog) : Prop := kP x.fStore ∧ a4V x.fDirs ∧ a3m x.fResults
def a7p (l : List TCatalog) : Nat := l.length + wsum a4K l
def a6Z (l : List TCatalog) : Prop := l.length ≤ 9223372036854775807 ∧ ∀ x ∈ l, a3n x
end Go.Proofs.Ytcppkdifiimblaa
end
section
set_option linter.all false
set_option maxHeartbeats 1000000
namespace Go.Proofs.Ytcppkdifiimblaa
open Go Go.Sx Go.RowKit Go.Proofs
structure TGroup where
 fValue : TValue
 fIDs : List Int
@[go_sem] def dC (x : TGroup) : List D := [iv x.fValue.fKind, iv x.fValue.fInt, sv x.fValue.fStr, .sl (x.fIDs.map fJ)]
@[go_sem] def a4L (x : TGroup) : SV := .g [.d (iv x.fValue.fKind), .d (iv x.fValue.fInt), .d (sv x.fValue.fStr), .d (.sl (x.fIDs.map fJ))]
@[go_sem] def a8T (x : TGroup) : SV := .g [.d (iv x.fValue.fKind), .d (iv x.fValue.fInt), .d (sv x.fValue.fStr), .w 3 1 (x.fIDs.map fJ)]
def jF (x : TGroup) : Nat := cO x.fValue + x.fIDs.length
def a5W (x : TGroup) : Prop := kN x.fValue ∧ qN x.fIDs
def pU (l : List TGroup) : Nat := l.length + wsum jF l
def a7T (l : List TGroup) : Prop := l.length ≤ 9223372036854775807 ∧ ∀ x ∈ l, a5W x
theorem a1G (x : TGroup) (hx : jF x ≤ 67108864) : FnC Try.prog 30 [a4L x, a4L x] (ob true) := by
 unfold jF at hx
 refine ent Try.func30 rfl Try.call30 rfl (fun C => ?_); simp only [go_sem, st0, Try.ntmps30]
 refine a6M (vC x.fValue (by omega)) (qP x.fIDs (by omega)) ?_
 exact aA ⟨⟨_, rfl, by simp only [go_sem]⟩, trivial⟩
theorem rM (l : List TGroup) (hl : pU l ≤ 67108864) : FnC Try.prog 9 [.o (.d (.sl (l.map dC))), .o (.d (.sl (l.map dC)))] (ob true) := by
 unfold pU at hl
 refine ent Try.func9 rfl Try.call9 rfl (fun C => ?_); simp only [go_sem, st0, Try.ntmps9]
 refine aL ?_
 refine bE (α := Nat) (fun k => [(5, oi k)]) (fun _ => []) (fun k => k ≤ l.length) (fun k => l.length - k) 0 (fun _ => ?_) ?_ ?_ (fun k hk => ?_)
 ·simp only [go_sem]
 ·simp only [go_sem]; simp
 ·simp
 ·simp only [go_sem]
  refine aL ?_
  refine cnd rfl (fun h => ?_) (fun h => ?_)
  ·simp only [decide_eq_true_eq, Int.ofNat_lt] at h
   have hw := dK jF l h
   have q0 := @h; refine wB (a1G l[k] (by omega)) ?_
   refine aQ (k + 1) ?_ ?_ ?_
   ·simp only [go_sem]; simp
   ·omega
   ·omega
  ·simp only [decide_eq_false_iff_not] at h
   refine aL ?_
   exact aA ⟨⟨_, rfl, by simp only [go_sem]⟩, trivial⟩
end Go.Proofs.Ytcppkdifiimblaa
end
section
set_option linter.all false
set_option maxHeartbeats 1000000
namespace Go.Proofs.Ytcppkdifiimblaa
open Go Go.Sx Go.RowKit Go.Proofs
structure TEdit where
 fOK : Bool
 fSet : List TAttr
@[go_sem] def a8u (x : TEdit) : List D := [bv x.fOK, .sl (x.fSet.map bL)]
@[go_sem] def a9k (x : TEdit) : SV := .g [.d (bv x.fOK), .d (.sl (x.fSet.map bL))]
@[go_sem] def a9l (x : TEdit) : SV := .g [.d (bv x.fOK), .w 77 4 (x.fSet.map bL)]
def a7U (x : TEdit) : Nat := cK x.fSet
def a7a (x : TEdit) : Prop := True ∧ pX x.fSet
def a8U (l : List TEdit) : Nat := l.length + wsum a7U l
def a8v (l : List TEdit) : Prop := l.length ≤ 9223372036854775807 ∧ ∀ x ∈ l, a7a x
end Go.Proofs.Ytcppkdifiimblaa
end
section
set_option linter.all false
set_option maxHeartbeats 1000000
namespace Go.Proofs.Ytcppkdifiimblaa
open Go Go.Sx Go.RowKit Go.Proofs
structure TChange where
 fKind : Int
 fFile : TFile
 fID : Int
 fDir : TDir
@[go_sem] def a7q (x : TChange) : List D := [iv x.fKind, iv x.fFile.fID, iv x.fFile.fOwner, bv x.fFile.fShared, iv x.fFile.fLink, .sl (x.fFile.fAttrs.map bL), iv x.fID, sv x.fDir.fName, .sl (x.fDir.fQuery.map tJ)]
@[go_sem] def a8w (x : TChange) : SV := .g [.d (iv x.fKind), .d (iv x.fFile.fID), .d (iv x.fFile.fOwner), .d (bv x.fFile.fShared), .d (iv x.fFile.fLink), .d (.sl (x.fFile.fAttrs.map bL)), .d (iv x.fID), .d (sv x.fDir.fName), .d (.sl (x.fDir.fQuery.map tJ))]
def a5X (x : TChange) : Nat := wFile x.fFile + a8c x.fDir
def a4M (x : TChange) : Prop := inR .i64 x.fKind ∧ qQ x.fFile ∧ inR .i64 x.fID ∧ a6m x.fDir
def a7V (l : List TChange) : Nat := l.length + wsum a5X l
def a7r (l : List TChange) : Prop := l.length ≤ 9223372036854775807 ∧ ∀ x ∈ l, a4M x
end Go.Proofs.Ytcppkdifiimblaa
end
section
set_option linter.all false
set_option maxHeartbeats 1000000
namespace Go.Proofs.Ytcppkdifiimblaa
open Go Go.Sx Go.RowKit Go.Proofs
structure TSnapshot where
 fStore : TStore
 fDirs : List TDir
@[go_sem] def a6k (x : TSnapshot) : List D := [.sl (x.fStore.fSchema.map bD), .sl (x.fStore.fFiles.map bM), iv x.fStore.fNextID, .sl (x.fDirs.map zC)]
@[go_sem] def a7s (x : TSnapshot) : SV := .g [.d (.sl (x.fStore.fSchema.map bD)), .d (.sl (x.fStore.fFiles.map bM)), .d (iv x.fStore.fNextID), .d (.sl (x.fDirs.map zC))]
def a3o (x : TSnapshot) : Nat := bI x.fStore + a6n x.fDirs
def a1H (x : TSnapshot) : Prop := kP x.fStore ∧ a4V x.fDirs
def a7b (l : List TSnapshot) : Nat := l.length + wsum a3o l
def a6l (l : List TSnapshot) : Prop := l.length ≤ 9223372036854775807 ∧ ∀ x ∈ l, a1H x
end Go.Proofs.Ytcppkdifiimblaa
end
section
set_option linter.all false
set_option maxHeartbeats 1000000
namespace Go.Proofs.Ytcppkdifiimblaa
open Go Go.Sx Go.RowKit Go.Proofs
structure TDisk where
 fSlotA : ByteArray
 fSlotB : ByteArray
@[go_sem] def a8x (x : TDisk) : List D := [sv x.fSlotA, sv x.fSlotB]
@[go_sem] def a9m (x : TDisk) : SV := .g [.d (sv x.fSlotA), .d (sv x.fSlotB)]
def a7W (x : TDisk) : Nat := x.fSlotA.size + x.fSlotB.size
def a7c (x : TDisk) : Prop := x.fSlotA.size ≤ 9223372036854775807 ∧ x.fSlotB.size ≤ 9223372036854775807
def a8V (l : List TDisk) : Nat := l.length + wsum a7W l
def a8y (l : List TDisk) : Prop := l.length ≤ 9223372036854775807 ∧ ∀ x ∈ l, a7c x
end Go.Proofs.Ytcppkdifiimblaa
end
section
set_option linter.all false
namespace Go.Proofs.Ytcppkdifiimblaa
open Go Go.Sx Go.RowKit Go.Proofs
def inB (n a b : Int) : Bool := decide (a ≤ n) && decide (n ≤ b)
end Go.Proofs.Ytcppkdifiimblaa
end
section
set_option linter.all false
set_option maxHeartbeats 1000000
namespace Go.Proofs.Ytcppkdifiimblaa
open Go Go.Sx Go.RowKit Go.Proofs
end Go.Proofs.Ytcppkdifiimblaa
end
end
section
set_option maxRecDepth 100000
set_option maxHeartbeats 4000000
namespace Go.Proofs.Ytcppkdifiimblaa
open Go Go.Sx Go.RowKit Go.Proofs
def low (s : ByteArray) (k : Nat) : Bool := inB (uL s k) 97 122
def a6W (s : ByteArray) : Bool := (List.range s.size).all (low s)
def oC (s : ByteArray) (n : Int) : Bool := a6W s && inB s.size 1 n
def a4H (v : TValue) : Bool :=
 if v.fKind = 0 then decide (v.fInt = 0) && decide (v.fStr = ⟨#[]⟩)
 else if v.fKind = 1 then inB v.fInt 0 999 && decide (v.fStr = ⟨#[]⟩)
 else if v.fKind = 2 then oC v.fStr 6 && decide (v.fInt = 0) else false
def two (n : TNode) : Bool := decide (n.fOp = 6) || decide (n.fOp = 7)
def a8R (n : TNode) (i : Int) : Nat := (if (two n || decide (n.fOp = 5)) && decide (n.fLeft = i) then 1 else 0) + (if two n && decide (n.fRight = i) then 1 else 0)
def a7Q (q : List TNode) (i : Int) : Nat := match q with
 | [] => 0
 | n :: q => a8R n i + a7Q q i
end Go.Proofs.Ytcppkdifiimblaa
end
