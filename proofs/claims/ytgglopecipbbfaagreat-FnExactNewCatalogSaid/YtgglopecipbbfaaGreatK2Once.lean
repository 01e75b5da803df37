/-
  sortedOnce; a row of the function's own taken as data.
-/
import Derived.Test.YtgglopecipbbfaaGreatI2Lib
import Derived.Test.YtgglopecipbbfaaGreatK0Str
import Derived.Test.YtgglopecipbbfaaGreatC10Unaff
set_option linter.all false
set_option maxRecDepth 100000
set_option maxHeartbeats 4000000
namespace Go.Sx
theorem WP_frzd {P : Program} {C : Ctx} {F : Ex → St → Prop} {st : St} {code : Code} (i id : Nat) {ty sz : Nat} {rows : List (List D)} {lin : Bool} (hi : nth st.t i = .o (.s id)) (hb : nthH st.h id = .row ty sz rows lin) (h : WP P C code F ⟨setN st.t i (.o (.d (.sl rows))), setH st.h id (.frz rows lin)⟩) : WP P C code F st := by
  intro g V a w hr
  obtain ⟨g', V', h1, h2, h3, h4, h5⟩ := hr.hp.frz hr.mod hr.fr.size (nthH_some hb (by simp))
  have hr1 : Rel C g' V' ⟨st.t, setH st.h id (.frz rows lin)⟩ a w := ⟨hr.sl.mono h1 h2, by rw [setH_eq]; exact h4, h3, hr.fr, hr.vw.grow h2 h5⟩
  refine h g' V' a w ⟨⟨by rw [setN_eq]; simpa using hr1.sl.size, fun n s y e1 e2 => ?_, hr1.sl.defers⟩, hr1.hp, hr1.mod, hr1.fr, hr1.vw⟩
  rw [setN_eq, List.getElem?_set] at e1
  by_cases e : i = n
  · subst e
    rw [if_pos rfl] at e1
    split at e1
    · rename_i hlt
      cases e1
      have hs : st.t[i]? = some (.o (.s id)) := by
        rw [nth_eq, List.getD_eq_getElem?_getD, List.getElem?_eq_getElem hlt] at hi
        rw [List.getElem?_eq_getElem hlt]
        exact congrArg some hi
      obtain ⟨gh, hgh, hy, _⟩ := hr1.sl.slot i _ y hs e2
      have hf : (setH st.h id (.frz rows lin))[id]? = some (.frz rows lin) := by
        have := nthH_some hb (by simp)
        rw [setH_eq, List.getElem?_set]; simp [(List.getElem?_eq_some_iff.1 this).1]
      obtain ⟨_, S, q1, _⟩ := hr1.hp.hb id _ gh hf hgh
      exact ⟨S, by rw [hy]; exact q1⟩
    · cases e1
  · rw [if_neg e] at e1
    exact hr1.sl.slot n s y e1 e2
end Go.Sx
namespace Go.Proofs.YtgglopecipbbfaaGreat
open Go Go.Sx Go.RowKit Go.Proofs

theorem mem_compUp {α : Type} [Inhabited α] [DecidableEq α] (d : Array α) : ∀ (m i : Nat), i < m → d[i]! ∈ Lib.compactUpTo d m
  | 0, i, h => by omega
  | m + 1, i, h => by
    rw [Lib.compactUpTo_succ]
    by_cases hi : i < m
    · exact List.mem_append_left _ (mem_compUp d m i hi)
    · have e : i = m := by omega
      subst e
      cases hk : Lib.keeps d i with
      | true => exact List.mem_append_right _ (by simp)
      | false =>
        have h0 : 0 < i := by
          rcases Nat.eq_zero_or_pos i with h | h
          · subst h; rw [Lib.keeps_lt_one d 0 (by omega)] at hk; cases hk
          · exact h
        have he : d[i]! = d[i - 1]! := Classical.byContradiction fun hn => by rw [Lib.keeps_pos hn] at hk; cases hk
        rw [he]
        exact List.mem_append_left _ (mem_compUp d i (i - 1) (by omega))
theorem mem_comp {α : Type} [Inhabited α] [DecidableEq α] (zs : List α) (x : α) : x ∈ Lib.compact zs ↔ x ∈ zs := by
  refine ⟨fun h => ?_, fun h => ?_⟩
  · unfold Lib.compact Lib.compactUpTo at h
    obtain ⟨i, hi, rfl⟩ := List.mem_map.1 h
    have hi' : i < zs.length := List.mem_range.1 (List.mem_filter.1 hi).1
    simp [getElem!_pos, hi']
  · obtain ⟨i, hi, rfl⟩ := List.mem_iff_getElem.1 h
    have := mem_compUp zs.toArray zs.length i hi
    have e : zs.toArray[i]! = zs[i] := by simp [getElem!_pos, hi]
    rw [e] at this
    exact this
def onceS (l : List ByteArray) : List ByteArray := compS (sortS l)
theorem onceS_len (l : List ByteArray) : (onceS l).length ≤ l.length := by
  have := compactUpTo_len ((sortS l).map bl).toArray ((sortS l).map bl).length
  simp only [onceS, compS, Lib.compact, List.length_map, sortS_len] at this ⊢
  exact this
theorem hasS_mem (l : List ByteArray) (s : ByteArray) : hasS l s = true ↔ s ∈ l := by
  unfold hasS
  rw [List.any_eq_true]
  constructor
  · rintro ⟨x, h1, h2⟩; rw [of_decide_eq_true h2] at h1; exact h1
  · intro h; exact ⟨s, h, by simp⟩
theorem mem_onceS (l : List ByteArray) (s : ByteArray) : s ∈ onceS l ↔ s ∈ l := by
  have e : (sortS l).map bl = sortB (l.map bl) := by
    unfold sortS
    rw [List.map_map]
    have : (bl ∘ lb) = id := by funext x; exact bl_lb x
    rw [this, List.map_id]
  unfold onceS compS
  rw [e]
  constructor
  · intro h
    obtain ⟨y, hy, rfl⟩ := List.mem_map.1 h
    rw [mem_comp, sortB, List.mem_mergeSort] at hy
    obtain ⟨z, hz, rfl⟩ := List.mem_map.1 hy
    rw [lb_bl]; exact hz
  · intro h
    refine List.mem_map.2 ⟨bl s, ?_, lb_bl s⟩
    rw [mem_comp, sortB, List.mem_mergeSort]
    exact List.mem_map.2 ⟨s, h, rfl⟩
theorem sortedOnce_ok (l : List ByteArray) (hl : l.length ≤ 4300000) : FnC Tryz.prog 205 [.o (.d (.sl (l.map encS)))] (.o (.w 9 1 ((onceS l).map encS))) := by
  refine ent Tryz.func205 rfl Tryz.call205 rfl (fun C => ?_); simp only [go_sem, st0, Tryz.ntmps205]
  repeat' (with_reducible first | refine nY ?_ | (refine mX ?_; try simp only [go_sem]) | refine kO ?_ (by decide) | (refine regx (by simp only [bodyX, isStX, Bool.false_eq_true, if_false, if_true]; rfl) (by kernel_rfl) (by kernel_rfl) (by decide) ?_ ?_ ?_; (focus simp only [go_sem]; done); (focus simp only [go_sem]; done)) | refine xE ?_ (by simp only [tailX, isStX, Bool.false_eq_true, if_false, if_true]; rfl) (by simp only [go_sem]; rfl) | refine regd (by kernel_rfl) ?_ | (refine cC (cloneStr_ok l hl) ?_ ?_; focus simp only [go_sem, and_self]; done) | (refine cali (sortStr_ok l (by omega)) ?_ ?_ ?_ (uX ?_); (focus simp only [go_sem]; done); (focus simp only [go_sem]; done); (focus simp only [go_sem]; done)) | (refine calj (sortStr_ok l (by omega)) ?_ ?_ ?_ (uX ?_); (focus simp only [go_sem]; done); (focus simp only [go_sem]; done); (focus simp only [go_sem]; done)) | (refine cali (compactStr_ok (sortS l) (by rw [sortS_len]; omega)) ?_ ?_ ?_ (uX ?_); (focus simp only [go_sem]; done); (focus simp only [go_sem]; done); (focus simp only [go_sem]; done)) | (refine calj (compactStr_ok (sortS l) (by rw [sortS_len]; omega)) ?_ ?_ ?_ (uX ?_); (focus simp only [go_sem]; done); (focus simp only [go_sem]; done); (focus simp only [go_sem]; done)) | (refine And.intro ?_ ?_; focus omega))
  exact retK_ret ⟨⟨_, rfl, by simp only [go_sem, onceS]⟩, trivial⟩
/-! The other side's: each text put into its place -/
def geS (s : ByteArray) (y : ByteArray) : Bool := !strLt y s
def putS (l : List ByteArray) (s : ByteArray) : List ByteArray := if (l.drop (fstIx (geS s) l)).head? = some s then l else insAt (fstIx (geS s) l) s l
def putL (l : List ByteArray) : List ByteArray := l.foldl putS []
theorem mem_putS (l : List ByteArray) (s x : ByteArray) : x ∈ putS l s ↔ x = s ∨ x ∈ l := by
  unfold putS
  split
  · rename_i h
    have : s ∈ l.drop (fstIx (geS s) l) := by
      cases hd : l.drop (fstIx (geS s) l) with
      | nil => rw [hd] at h; cases h
      | cons y r => rw [hd] at h; simp at h; simp [h]
    have hs := List.mem_of_mem_drop this
    constructor
    · exact .inr
    · rintro (rfl | h) <;> first | exact hs | exact h
  · unfold insAt
    conv => rhs; rw [← List.take_append_drop (fstIx (geS s) l) l]
    simp only [List.mem_append, List.mem_cons]
    constructor
    · rintro (h | h | h) <;> first | exact .inr (.inl h) | exact .inl h | exact .inr (.inr h)
    · rintro (h | h | h) <;> first | exact .inr (.inl h) | exact .inl h | exact .inr (.inr h)
theorem putS_len (l : List ByteArray) (s : ByteArray) : (putS l s).length ≤ l.length + 1 := by
  unfold putS
  split
  · omega
  · rw [insAt_len _ _ _ (fstIx_le _ l)]; omega
theorem putL_app (l : List ByteArray) (s : ByteArray) : putL (l ++ [s]) = putS (putL l) s := by simp [putL]
theorem mem_foldl (l : List ByteArray) : ∀ (a : List ByteArray) (x : ByteArray), x ∈ l.foldl putS a ↔ x ∈ a ∨ x ∈ l := by
  induction l with
  | nil => simp
  | cons y l ih =>
    intro a x
    rw [List.foldl_cons, ih, mem_putS]
    simp only [List.mem_cons]
    constructor
    · rintro ((h | h) | h) <;> first | exact .inr (.inl h) | exact .inl h | exact .inr (.inr h)
    · rintro (h | h | h) <;> first | exact .inl (.inr h) | exact .inl (.inl h) | exact .inr h
theorem mem_putL (l : List ByteArray) (x : ByteArray) : x ∈ putL l ↔ x ∈ l := by rw [putL, mem_foldl]; simp
theorem foldl_len (l : List ByteArray) : ∀ a : List ByteArray, (l.foldl putS a).length ≤ a.length + l.length := by
  induction l with
  | nil => simp
  | cons y l ih =>
    intro a
    have h1 := ih (putS a y)
    have h2 := putS_len a y
    simp only [List.foldl_cons, List.length_cons]; omega
theorem putL_len (l : List ByteArray) : (putL l).length ≤ l.length := by have := foldl_len l []; simpa [putL] using this
theorem fstIx_at' {α : Type} (p : α → Bool) (l : List α) (k : Nat) (h : k < l.length) (hk : fstIx p l = k + fstIx p (l.drop k)) : fstIx p l = if p l[k] then k else k + 1 + fstIx p (l.drop (k + 1)) := by
  rw [hk, fstIx_drop p l k h]
  split <;> omega
theorem take_mapS {α β : Type} (f : α → β) (l : List α) (n : Nat) : (l.map f).take n = (l.take n).map f := List.map_take.symm
theorem drop_mapS {α β : Type} (f : α → β) (l : List α) (n : Nat) : (l.map f).drop n = (l.drop n).map f := List.map_drop.symm
end Go.Proofs.YtgglopecipbbfaaGreat
