/-
  slices.DeleteFunc at structures with a closure that has captured one variable: a row of the caller's own.
-/
import Derived.Test.YteganoldfldlhaaJ2Del
import Derived.Test.YteganoldfldlhaaK1Lib
set_option linter.all false
set_option maxRecDepth 100000
set_option maxHeartbeats 4000000
namespace Go.Proofs.Yteganoldfldlhaa
open Go Go.Sx Go.RowKit Go.Proofs


theorem deleteFuncAttr_ok (f : Nat) (c : List D) (p : TAttr → Bool) (l : List TAttr) (hf : ∀ s ∈ l, FnC Try.prog f [gAttr s, .o (.q c)] (ob (p s))) (hl : l.length ≤ 2097152) :
    FnI Try.prog 164 134 4 (l.map encAttr) [.o (.f f [c])] false ((l.filter fun x => !p x).map encAttr) := by
  have he : ∀ x : TAttr, (encAttr x).length = 4 := fun x => rfl
  refine ⟨Try.call164, fun V w y S vs hm hrow hnd hlt hargs => ?_⟩
  have hl1 : vs.length = 1 := by have := hargs.1; simpa using this
  match vs, hl1 with
  | [v], _ =>
    have hv := hargs.2 0 _ v rfl rfl
    obtain ⟨lb, rfl, hlb, hcaps⟩ := hv
    have hcl : cSV [] V (.o (.f f [c])) (.func (.func f) #[] lb.toArray) := ⟨lb, rfl, hlb, hcaps⟩
    have hone : ∃ pv, lb = [pv] := by
      match lb, hlb with
      | [pv], _ => exact ⟨pv, rfl⟩
    obtain ⟨pv, rfl⟩ := hone
    have hq : cSV [] V (.o (.q c)) pv := hcaps 0 c pv rfl rfl
    have hI := indexFuncAttr_ok f c p l hf hl
    obtain ⟨hu, h⟩ := row_down hrow
    rcases h with ⟨⟨ao, rfl⟩, hnil, rfl⟩ | ⟨b, cap, ys, Ss, rfl, e3, e4, hR, el, eL, eV, rfl⟩
    · have hl0 : l = [] := by simpa using hnil
      subst hl0
      have hIF := hI.calls V w [.slice ao 0 0, .func (.func f) #[] #[pv]] hm ⟨rfl, fun i s y e1 e2 => by
        match i with
        | 0 => simp at e1 e2; subst e1; subst e2; exact lay_none ao
        | 1 => simp at e1 e2; subst e1; subst e2; exact hcl
        | i + 2 => simp at e1⟩
      have hD := delAttr_none ao 0 0 w f #[pv] (hIF.mono (by
        rintro e w' ⟨y, rfl, hd⟩
        exact ⟨by simpa [idxP] using done_oi hd, hd.below⟩))
      refine hD.mono ?_
      rintro e w' ⟨rfl, hb⟩
      exact ⟨_, rfl, (fun h => (by cases h)), ⟨grownBy_below _ hb, [], ⟨by simp, [], [], LayL.nil V, .inl ⟨⟨ao, rfl⟩, rfl, rfl⟩⟩, hnd, (fun b hb => .inl hb), (fun _ => rfl)⟩⟩
    · rw [List.length_map] at e3 el
      have hlay := row_lay (w := w) (ty := 134) hu eL (by simpa using e3) e4 eV
      have hcapl : (l.map encAttr).length = l.length := by simp
      rw [hcapl] at hlay
      have hIF := hI.calls (withB V b ys) w [.slice (some ⟨b, 0, none⟩) l.length cap, .func (.func f) #[] #[pv]] (withB_mod hm hR) ⟨rfl, fun i s y e1 e2 => by
        match i with
        | 0 => simp at e1 e2; subst e1; subst e2; exact hlay
        | 1 => simp at e1 e2; subst e1; subst e2; exact hcl.mono (GLe.refl _) (withB_le eV _)
        | i + 2 => simp at e1⟩
      rw [hcapl]
      rcases Nat.eq_zero_or_pos l.length with h0 | h0
      · have hnil : l = [] := List.eq_nil_of_length_eq_zero h0
        subst hnil
        have hD := delAttr_none (some ⟨b, 0, none⟩) 0 cap w f #[pv] (hIF.mono (by
          rintro e w' ⟨y, rfl, hd⟩
          exact ⟨by simpa [idxP] using done_oi hd, hd.below⟩))
        refine hD.mono ?_
        rintro e w' ⟨rfl, hb⟩
        have hG := row_up (rows := []) (ys := []) (Ss := []) (G := []) (V := V) (by simp) (LayL.nil V) ((hR.behind hb).pre (List.nil_prefix)) (by simp) e4 eV
        exact ⟨_, rfl, (fun h => (by cases h)), ⟨grownBy_below _ hb, _, by simpa using hG, by simp, (fun b hb => .inl (by simp at hb; simp [hb])), (fun h => (by cases h))⟩⟩
      · have hg := hf l[0] (List.getElem_mem h0)
        have hxl := chunks_len 4 p l ys
        have hxu := chunks_un 4 p l ys el
        have hxf := chunks_flat 4 p l ys el
        obtain ⟨hs1, hs2⟩ := chunks_sel 4 p l ys
        have hxg := chunks_get 4 p l ys
        have hx1 : ∀ x ∈ chunks 4 p ys l, ∀ v ∈ x.1, v.oneCell' = true := fun x hx v hv => by
          refine eL.oneCell v ?_
          rw [← hxf]
          exact List.mem_flatten.2 ⟨x.1, List.mem_map.2 ⟨x, hx, rfl⟩, hv⟩
        have hW := delAttr_walk b cap (chunks 4 p ys l) w f #[pv] (by rw [hxf]; exact hR) (by rw [hxl]; exact e3) (by simp only [maxLen] at e4; omega) hxu hx1 (idxP p l 0) (by
            rcases idxP_spec p l 0 with h | ⟨k0, e1, e2, e5, e6⟩
            · refine .inl ⟨h.1, fun x hx => ?_⟩
              obtain ⟨j, hj, rfl⟩ := List.mem_iff_getElem.1 hx
              rw [hxg j (by rw [hxl] at hj; exact hj) hj]
              exact h.2 _ (List.getElem_mem _)
            · refine .inr ⟨k0, by rw [e1]; simp, by rw [hxl]; exact e2, ?_, fun j hj hjk => ?_⟩
              · rw [hxg k0 e2]; exact e5
              · rw [hxg j (by rw [hxl] at hj; exact hj) hj]; exact e6 j _ hjk) hg.enters (by
            rw [hxl]
            refine hIF.mono ?_
            rintro e w' ⟨y, rfl, hd⟩
            exact ⟨done_oi hd, hd.below⟩) (fun W F x hx hRW => by
            obtain ⟨j, hj, rfl⟩ := List.mem_iff_getElem.1 hx
            have hjl : j < l.length := by rw [hxl] at hj; exact hj
            rw [hxg j hjl hj]
            have hch := eL.chunk he j hjl
            refine ((hf l[j] (List.getElem_mem hjl)).calls V W [.agg ((ys.drop (j * 4)).take 4).toArray, pv] (hRW.mod hm eV) ⟨rfl, fun i s y e1 e2 => ?_⟩).mono ?_
            · match i with
              | 0 => simp at e1 e2; subst e1; subst e2; exact ⟨_, rfl, cl_lay hch⟩
              | 1 => simp at e1 e2; subst e1; subst e2; exact hq
              | i + 2 => simp at e1
            · rintro e w' ⟨y, rfl, hd⟩
              exact ⟨done_ob hd, hd.below⟩)
        rw [hxl] at hW
        refine hW.mono ?_
        rintro e w' ⟨rfl, G, hG⟩
        rw [hs1] at hG
        rw [hs2]
        have hsel := eL.sel encAttr p he
        have hup := row_up (V := V) (fun r hr => by obtain ⟨x, _, rfl⟩ := List.mem_map.1 hr; exact he x) hsel hG (by rw [List.length_map]; exact Nat.le_trans (List.length_filter_le _ _) e3) e4 eV
        rw [List.length_map] at hup
        have hsub := selK_sub 4 p l Ss
        have hfs : (selK 4 p Ss l).flatten.Sublist Ss.flatten := sub_flatten hsub
        refine ⟨_, rfl, (fun h => (by cases h)), ⟨hG.grown, _, hup, ?_, (fun n hn => .inl ?_), (fun h => (by cases h))⟩⟩
        · exact hnd.sublist (hfs.cons_cons b)
        · exact (hfs.cons_cons b).subset hn

end Go.Proofs.Yteganoldfldlhaa
