/-
  slices.Insert of one element at structures: a row of the caller's own takes another one's element.
-/
import Derived.Test.YteganoldfldlhaaI8Ins
set_option linter.all false
set_option maxRecDepth 100000
namespace Go.Proofs.Yteganoldfldlhaa
open Go Go.Sx Go.RowKit Go.Proofs


theorem insertAttr_ok (rows : List (List D)) (r : List D) (i : Nat) (hi : i ≤ rows.length) (hl : rows.length ≤ 2097152) : FnJ Try.prog 101 134 4 rows i [r] (rows.take i ++ r :: rows.drop i) := by
  refine ⟨Try.call101, fun V w y S y2 S2 hm hrow hrow2 hnd hlt => ?_⟩
  obtain ⟨hu, h⟩ := row_down hrow
  obtain ⟨hu2, h2⟩ := row_down hrow2
  have hr : r.length = 4 := hu2 r (by simp)
  rcases h2 with ⟨_, h2, _⟩ | ⟨vb, vc, vs, Ts, rfl, v3, v4, hV, vl, vL, vV, rfl⟩
  · cases h2
  have vL' : LayL V r vs Ts := by simpa using vL
  have vl' : vs.length = 4 := by simpa using vl
  have v3' : 1 ≤ vc := by simpa using v3
  have h1v := vL'.oneCell
  rcases h with ⟨⟨ao, rfl⟩, rfl, rfl⟩ | ⟨b, cap, ys, Ss, rfl, e3, e4, hR, el, eL, eV, rfl⟩
  · have hi0 : i = 0 := by simpa using hi
    subst hi0
    refine (insAttr_end ao 0 0 vb vc [] vs w (by omega) (by omega) (by omega) (by simp) vl' (fun _ => rfl) (fun a _ j v hj => by simp at hj) hV h1v).mono ?_
    rintro e w' ⟨G, rfl, hG, hGm, hN⟩
    have hd := ins_done (S := []) (S2 := vb :: Ts.flatten) (rows := []) (r := r) (i := 0) (Ss := []) (ys := []) (V := V) (hi) hu hr (LayL.nil V) vL' (by simpa using hN) (by simpa using hG) hGm (hm.fresh (Nat.le_refl _)) (.inr ⟨Nat.le_refl _, hN.lt⟩) (fun n hn => by simp at hn) (fun n hn => List.mem_cons_of_mem _ hn)
      (by
        simp only [List.flatten_nil, List.nil_append]
        refine List.nodup_cons.2 ⟨fun h => ?_, (List.nodup_cons.1 (by simpa using hnd)).2⟩
        have := hlt _ (by simp only [List.nil_append]; exact List.mem_cons_of_mem _ h)
        omega)
    exact ⟨_, rfl, grownBy_new hN.grown, hd⟩
  · have h1F := eL.oneCell
    have hbw := hR.lt
    have hvb : vb ≠ b := fun e => by subst e; simp at hnd
    have hnd2 : (Ss.flatten ++ Ts.flatten).Nodup := by
      have h1 : (Ss.flatten ++ vb :: Ts.flatten).Nodup := (List.nodup_cons.1 (by simpa using hnd)).2
      exact h1.sublist (List.Sublist.append_left (List.sublist_cons_self _ _) _)
    have hbS : b ∉ Ss.flatten ++ Ts.flatten := fun h => by
      have h1 := (List.nodup_cons.1 (show (b :: (Ss.flatten ++ vb :: Ts.flatten)).Nodup by simpa using hnd)).1
      rcases List.mem_append.1 h with h | h
      · exact h1 (List.mem_append.2 (.inl h))
      · exact h1 (List.mem_append.2 (.inr (List.mem_cons_of_mem _ h)))
    have hfr : w.heap.size ∉ Ss.flatten ++ Ts.flatten := fun h => by
      have := hlt w.heap.size (by
        rcases List.mem_append.1 h with h | h
        · exact List.mem_append.2 (.inl (List.mem_cons_of_mem _ h))
        · exact List.mem_append.2 (.inr (List.mem_cons_of_mem _ h)))
      omega
    have old : ∀ w', RowAt w w' b 134 (cap * 4) (ys.take (i * 4) ++ vs ++ ys.drop (i * 4)) → rows.length + 1 ≤ cap → ∃ S', RowR V w' 134 4 (rows.take i ++ r :: rows.drop i) (.slice (some ⟨b, 0, none⟩) (rows.length + 1) cap) S' ∧ S'.Nodup ∧ ∀ n ∈ S', n ∈ (b :: Ss.flatten) ∨ n ∈ (vb :: Ts.flatten) ∨ (w.heap.size ≤ n ∧ n < w'.heap.size) := fun w' h hc =>
      ins_done hi hu hr eL vL' h hc e4 eV (.inl (by simp)) (fun n hn => List.mem_cons_of_mem _ hn) (fun n hn => List.mem_cons_of_mem _ hn) (List.nodup_cons.2 ⟨hbS, hnd2⟩)
    have new : ∀ w' G, RowAt w w' w.heap.size 134 (G * 4) (ys.take (i * 4) ++ vs ++ ys.drop (i * 4)) → rows.length + 1 ≤ G → G ≤ maxLen → ∃ S', RowR V w' 134 4 (rows.take i ++ r :: rows.drop i) (.slice (some ⟨w.heap.size, 0, none⟩) (rows.length + 1) G) S' ∧ S'.Nodup ∧ ∀ n ∈ S', n ∈ (b :: Ss.flatten) ∨ n ∈ (vb :: Ts.flatten) ∨ (w.heap.size ≤ n ∧ n < w'.heap.size) := fun w' G h hc hGm =>
      ins_done hi hu hr eL vL' h hc hGm (hm.fresh (Nat.le_refl _)) (.inr ⟨Nat.le_refl _, h.lt⟩) (fun n hn => List.mem_cons_of_mem _ hn) (fun n hn => List.mem_cons_of_mem _ hn) (List.nodup_cons.2 ⟨hfr, hnd2⟩)
    have e63 : cap ≤ 9223372036854775807 := by unfold maxLen at e4; omega
    rcases Nat.lt_or_ge i rows.length with hlt' | hge
    · rcases Nat.lt_or_ge cap (rows.length + 1) with hc | hc
      · refine (insAttr_grow b cap i vb vc rows.length ys vs w hlt' e3 hc (by omega) v3' el vl' hR hV h1F h1v).mono ?_
        rintro e w' ⟨G, rfl, hG, hGm, hN⟩
        exact ⟨_, rfl, grownBy_new hN.grown, new w' G hN hG hGm⟩
      · refine (insAttr_shift b cap i vb vc rows.length ys vs w hlt' hc e63 hvb v3' el vl' hR hV h1F h1v).mono ?_
        rintro e w' ⟨rfl, hN⟩
        exact ⟨_, rfl, hN.grown, old w' hN hc⟩
    · have hie : i = rows.length := by omega
      subst hie
      rw [List.take_of_length_le (l := ys) (by omega), List.drop_of_length_le (l := ys) (by omega), List.append_nil] at old new
      rcases Nat.lt_or_ge cap (rows.length + 1) with hc | hc
      · refine (insAttr_end (some ⟨b, 0, none⟩) rows.length cap vb vc ys vs w e3 hc (by omega) el vl' (fun h => by cases h) (fun a ha j v hj => by cases ha; rw [Addr.add_lit, Nat.zero_add]; exact hR.cell hj) hV h1v).mono ?_
        rintro e w' ⟨G, rfl, hG, hGm, hN⟩
        exact ⟨_, rfl, grownBy_new hN.grown, new w' G hN hG hGm⟩
      · refine (insAttr_room b rows.length cap vb vc ys vs w hc e63 el vl' hR hV h1v).mono ?_
        rintro e w' ⟨rfl, hN⟩
        exact ⟨_, rfl, hN.grown, old w' hN hc⟩

end Go.Proofs.Yteganoldfldlhaa
