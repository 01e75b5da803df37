/-
  Drawn regions of readings and effects: the rule at this program.
-/
import Derived.Test.YtgglopecipbbfaaGreatB6Base
import Derived.Test.YtgglopecipbbfaaGreatB5Eff
set_option linter.all false
namespace Go.Proofs.YtgglopecipbbfaaGreat
open Go Go.Sx Go.RowKit Go.Proofs

def Ok2 (s : St) : Prop := s.okB = true
theorem oG {s : St} (h : s.okB = true) : Ok2 s := h
theorem rE {C : Ctx} {id : Nat} {ops L W : List Oper} {T : PO} {F : Ex → St → Prop} {st G : St} (ps ls l0 w0 : List Nat) (t : PT) (hl : opsAt ops l0 = L) (hw : opsAt ops w0 = W) (hp : ptOps ops t = T)
    (hok : (okE ops ps ls && (l0.all fun i => !ps.contains i) && okN ops ps [] ps w0 t && okPT ops ps t [] ps && ps.all fun q => decide (q < ops.length)) = true) (hb : st.okB = true) (h : vcDRun (EV C) ops L st (fun st1 => vcTN (EV C) ops W T st1 (Meet G) ⟨⟩) ⟨⟩) (hG : Ok2 G) (hF : F .normal G) : WP Tryz.prog C (.region id ops.toArray true) F st := by
  subst hl hw hp
  simp only [Bool.and_eq_true] at hok
  refine WP_eff (E := EV C) ttOK eqOK fol ps ls l0 w0 t hok.1.1.1.1 hok.1.1.1.2 hok.1.1.2 hok.1.2 hok.2 hb ?_ hG hF
  have e : (fun st1 => vcTN (EV C) ops (opsAt ops w0) (ptOps ops t) st1 (Meet G) ⟨⟩) = (fun st1 => chkR (EV C) st1 (opsAt ops w0) ∧ if t.isNil = true then Meet G st1 else vcEP (EV C) ops t st1 (Meet G)) := funext fun s => propext (by
    constructor
    · intro h; have := h.out; rwa [vcEJ_T, ptOps_nil] at this
    · intro h; exact ⟨by rwa [vcEJ_T, ptOps_nil]⟩)
  rw [e] at h
  exact h.out
end Go.Proofs.YtgglopecipbbfaaGreat
