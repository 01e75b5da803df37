/-
  Calls whose arguments hold rows of the caller (from then on only read); contracts whose results are taken as plain data.
-/
import Derived.Test.YteganoldfldlhaaB4Draw
set_option linter.all false
namespace Go.Sx
open Go Go.RowKit

def idsS : List SV → List Nat
  | [] => []
  | s :: r => idsL s.all ++ idsS r

theorem CallS.frz {E : Env} {f : Nat} {args args' : List SV} {res : SV} {st : St} {K : St → SV → Prop} (h : FnC E.P f args' res) (he : args.map (pureS (frzH st.h (idsS args))) = args') (hfree : args'.all freeS = true)
    (k : K ⟨st.t, frzH st.h (idsS args) ++ adH res.all⟩ (adS (frzH st.h (idsS args)).length res)) : CallS E f args st K := by
  refine ⟨h.enters, fun g V a w vs hr hlen hargs => ?_⟩
  obtain ⟨g', V', hr', hg, hv, _⟩ := frzH_ok (idsS args) hr
  have := CallS.of_fn (E := E) (st := ⟨st.t, frzH st.h (idsS args)⟩) (K := K) h he hfree k
  exact this.2 g' V' a w vs hr' hlen fun i s y h1 h2 => (hargs i s y h1 h2).mono hg hv

theorem rL_of_cL {V : View} {w : World} {g : List Gh} {cs : List At} {l : List Value} (h : cL g V cs l) (hd : cs.all isD = true) : rL V w cs l [] := by
  refine ⟨List.replicate cs.length [], h.1, by simp, by simp, fun k a y s h1 h2 h3 => ?_⟩
  have ha := List.all_eq_true.1 hd a (List.mem_of_getElem? h1)
  have hc := h.2 k a y h1 h2
  have hs : s = [] := by
    rw [List.getElem?_replicate] at h3
    split at h3
    · cases h3; rfl
    · cases h3
  subst hs
  cases a <;> simp [isD] at ha
  exact ⟨rfl, hc⟩

def flat1 : SV → Bool
  | .t _ => false
  | _ => true
theorem FnC.pure {P : Program} {f : Nat} {args : List SV} {res res' : SV} (h : FnC P f args res) (ha : args.map (pureS []) = args) (hf : args.all freeS = true)
    (hp : pureS (frzH (adH res.all) (idsL (adS 0 res).all)) (adS 0 res) = res') (hd : res'.all.all isD = true) (ht : flat1 res' = true) : FnC P f args res' := by
  refine ⟨h.enters, fun V w vs hm hc => ?_⟩
  have hr : Rel ⟨w, [], V⟩ [] V ⟨[], []⟩ ⟨#[], []⟩ w :=
    ⟨⟨rfl, fun i s y h1 _ => by simp at h1, rfl⟩, ⟨rfl, fun i b x h => by simp at h, fun i b x h => by simp at h, fun i j b b' x x' _ h => by simp at h, fun i b x h => by simp at h, fun i b x h => by simp at h⟩, hm,
      ⟨rfl, rfl, rfl, Nat.le_refl _, fun _ _ _ => rfl⟩, ⟨View.le.refl V, (fun b cs h1 h2 => by have h2' : V b = none := h2; rw [h1] at h2'; cases h2'), (fun b cs h1 h2 => by have h2' : V b = none := h2; rw [h1] at h2'; cases h2')⟩⟩
  have hcall := CallS.of_fn (E := ⟨P, fun _ => .bad, ⟨w, [], V⟩, fun _ => []⟩) (st := ⟨[], []⟩) (K := fun st s => st = ⟨[], adH res.all⟩ ∧ s = adS 0 res) h ha hf ⟨by simp, rfl⟩
  refine (hcall.2 [] V _ w vs hr hc.1 (fun i s y h1 h2 => hc.2 i s y h1 h2)).mono ?_
  rintro e w' ⟨y, g', V', st', s, rfl, hr', hs, rfl, rfl⟩
  obtain ⟨g2, V2, hr2, hg2, hv2, _⟩ := frzH_ok (idsL (adS 0 res).all) hr'
  have hp2 := pureS_ok hr2 (hs.mono hg2 hv2)
  rw [hp] at hp2
  refine ⟨y, rfl, ⟨V2, [], hr2.vw.le, hr2.mod, fun b cs h1 h2 => ?_, ?_, List.nodup_nil, fun b hb => by cases hb⟩, ⟨hr2.fr.os, hr2.fr.tape, hr2.fr.output, hr2.fr.size, fun k hk => hr2.fr.block k hk (by simp)⟩⟩
  · refine ⟨?_, hr2.vw.unf b cs h1 h2⟩
    rcases hr2.vw.fresh b cs h1 h2 with h | h
    · exact h
    · cases h
  · cases res' with
    | o x => exact ⟨[y], rfl, rL_of_cL (cL.cons hp2 (cL.nil g2 V2)) hd⟩
    | g cs =>
      obtain ⟨l, hl, hcl⟩ := hp2
      exact ⟨l, hl, rL_of_cL hcl hd⟩
    | t cs => cases ht
end Go.Sx
