/-
  Rows of the function's own: freezing, new rows, appends, stores.
-/
import Derived.Test.YteganoldfldlhaaB1Sound
import Derived.Maps.AppendAt
set_option linter.all false
namespace Go.Sx
open Go Go.RowKit

section
/-! ### Rows that nobody writes any more -/

theorem Hp.frz {C : Ctx} {g : List Gh} {V : View} {h : List HB} {w : World} (k : Hp C g V h w) (hm : Mod V w) (hsz : C.w0.heap.size ≤ w.heap.size) {id ty sz : Nat} {rows : List (List D)} {lin : Bool} (h1 : h[id]? = some (.row ty sz rows lin)) :
    ∃ g' V', GLe g g' ∧ V.le V' ∧ Mod V' w ∧ Hp C g' V' (h.set id (.frz rows lin)) w ∧ (∀ b cs, V' b = some cs → V b = none → (C.w0.heap.size ≤ b ∨ b ∈ C.X) ∧ Unf w b) := by
  have hl : id < g.length := by rw [k.glen]; exact (List.getElem?_eq_some_iff.1 h1).1
  obtain ⟨x, h2⟩ : ∃ x, g[id]? = some x := ⟨_, List.getElem?_eq_getElem hl⟩
  obtain ⟨h0, ys, Ss, q1, q2, q3⟩ := k.hb id _ x h1 h2
  have hnd := k.nd id _ x h1 h2
  rcases q3 with ⟨e1, e2, rfl⟩ | ⟨b, cap, c, e1, e2, e3, e4, e5, e6, e7⟩
  · have hys : Ss = [] := by have := q1.2.1; simpa using this
    subst hys
    refine ⟨g.set id { x with tr := [] }, V, GLe.set h2 rfl rfl rfl, View.le.refl V, hm, ?_, ?_⟩
    case refine_2 => intro b cs h h'; rw [h] at h'; cases h'
    refine k.swap (x' := { x with tr := [] }) id h1 h2 rfl rfl rfl (View.le.refl V) ?_ ?_ ?_ ?_ (fun _ _ _ => rfl) (Nat.le_refl _) hsz (fun n _ _ hn => hn)
    · intro n hn; simp [ownB] at hn
    · simp [ownB]
    · intro n hn; simp [rootB] at hn
    · obtain ⟨ao, e2⟩ := e2
      refine ⟨by rw [e2]; rfl, [], ?_, fun _ => rfl⟩
      rw [e2]
      cases ao with
      | none => exact .nil
      | some ad => exact .sl [] ad 0 sz [] [] (fun r h => by simp at h) (by simp) (by simp) rfl rfl (fun k y h => by simp at h) (fun k d y S h => by simp at h)
  · let V' : View := fun n => if n = b then some ys else V n
    have hVb : V b = none := k.rt id _ x h1 h2 b (by simp [rootB, e1])
    have hle : V.le V' := fun n cs hn => by
      have : n ≠ b := fun e => by rw [e, hVb] at hn; cases hn
      exact ⟨cs, by simp [V', this, hn], List.prefix_refl _⟩
    have hm' : Mod V' w := fun n cs hn => by
      by_cases e : n = b
      · subst e
        simp [V'] at hn
        subst hn
        exact ⟨c, ty, (0, 0), e5, e7⟩
      · simp [V', e] at hn
        exact hm n cs hn
    let T : List Nat := (if rows.isEmpty then [] else [b]) ++ Ss.flatten
    have hlay : Lay V' (.sl rows) x.val T := by
      rw [e2]
      refine .sl rows ⟨b, 0, none⟩ cap sz ys Ss h0 e3 e4 q1.1 q1.2.1 (fun j y hj => ?_) (q1.mono hle).2.2
      rw [Addr.add_lit, Nat.zero_add]
      simp [View.cell, V', hj]
    have hown : lin = true → ownB x (.row ty sz rows lin) = b :: Ss.flatten := fun hlin => by simp [ownB, e1, hlin, q2 hlin]
    refine ⟨g.set id { x with tr := T }, V', GLe.set h2 rfl rfl rfl, hle, hm', ?_, ?_⟩
    · refine k.swap (x' := { x with tr := T }) id h1 h2 rfl rfl rfl hle ?_ ?_ ?_ ?_ (fun _ _ _ => rfl) (Nat.le_refl _) hsz ?_
      · intro n hn
        left
        cases hlin : lin with
        | false => simp [ownB, hlin] at hn
        | true =>
          have ho := hown hlin
          rw [hlin] at ho
          rw [ho]
          simp only [ownB, hlin, if_true, T] at hn
          split at hn
          · simp only [List.nil_append] at hn; exact List.mem_cons_of_mem _ hn
          · simpa using hn
      · cases hlin : lin with
        | false => simp [ownB]
        | true =>
          have ho := hown hlin
          rw [ho] at hnd
          simp only [ownB, if_true, T]
          split
          · exact (List.nodup_cons.1 hnd).2
          · exact hnd
      · intro n hn; simp [rootB] at hn
      · exact ⟨by simp [e2, Value.oneCell'], T, hlay, fun _ => rfl⟩
      · intro n hn _ hv
        have : n ≠ b := fun e => hn (by subst e; exact rootB_own (by simp [rootB, e1]))
        simp [V', this, hv]
    · intro n cs h h'
      by_cases e : n = b
      · subst e; exact ⟨(k.lo id _ x h1 h2 n (rootB_own (by simp [rootB, e1]))).1, c, ty, e5⟩
      · simp [V', e] at h; rw [h] at h'; cases h'

end

theorem Hp.drop {C : Ctx} {g : List Gh} {V : View} {h : List HB} {w : World} (k : Hp C g V h w) (id : Nat) : Hp C g V (h.set id .gone) w := by
  rcases Nat.lt_or_ge id h.length with hl | hl
  · have hg : id < g.length := by rw [k.glen]; exact hl
    exact k.set id (List.getElem?_eq_getElem hl) (List.getElem?_eq_getElem hg) (fun n hn => by simp [ownB] at hn) (by simp [ownB]) (fun n hn => by simp [rootB] at hn) trivial (fun _ _ => rfl) rfl
  · rw [List.set_eq_of_length_le hl]; exact k

theorem goneH_get : ∀ (ids : List Nat) (h : List HB) (i : Nat), (goneH h ids).length = h.length ∧ ((goneH h ids)[i]? = if i < h.length ∧ i ∈ ids then some .gone else h[i]?)
  | [], h, i => by simp [goneH]
  | id :: ids, h, i => by
    obtain ⟨h1, h2⟩ := goneH_get ids (setH h id .gone) i
    simp only [goneH]
    rw [setH_eq] at h1 h2
    rw [setH_eq]
    refine ⟨by simpa using h1, ?_⟩
    rw [h2]
    simp only [List.length_set, List.mem_cons]
    by_cases e1 : i < h.length
    · by_cases e2 : i ∈ ids
      · rw [if_pos ⟨e1, e2⟩, if_pos ⟨e1, .inr e2⟩]
      · rw [if_neg (fun h => e2 h.2), List.getElem?_set]
        by_cases e3 : id = i
        · rw [if_pos e3, if_pos (by omega), if_pos ⟨e1, .inl e3.symm⟩]
        · rw [if_neg e3, if_neg (fun h => h.2.elim (fun h => e3 h.symm) e2)]
    · rw [if_neg (fun h => e1 h.1), if_neg (fun h => e1 h.1), List.getElem?_eq_none (by simp; omega), List.getElem?_eq_none (by omega)]
theorem goneH_ok {C : Ctx} {g : List Gh} {V : View} {w : World} : ∀ (ids : List Nat) {h : List HB}, Hp C g V h w → Hp C g V (goneH h ids) w
  | [], _, k => k
  | id :: ids, h, k => by
    simp only [goneH, setH_eq]
    exact goneH_ok ids (k.drop id)

theorem frzH_ok {C : Ctx} {a : Act} {w : World} : ∀ (ids : List Nat) {st : St} {g : List Gh} {V : View}, Rel C g V st a w → ∃ g' V', Rel C g' V' ⟨st.t, frzH st.h ids⟩ a w ∧ GLe g g' ∧ V.le V' ∧ (frzH st.h ids).length = st.h.length ∧ ∀ (i : Nat), i ∉ ids → (frzH st.h ids)[i]? = st.h[i]?
  | [], st, g, V, hr => ⟨g, V, hr, GLe.refl g, View.le.refl V, rfl, fun _ _ => rfl⟩
  | id :: ids, st, g, V, hr => by
    simp only [frzH]
    split
    · rename_i ty sz rows lin e
      obtain ⟨g1, V1, h1, h2, h3, h4, h5⟩ := hr.hp.frz hr.mod hr.fr.size (nthH_some e (by simp))
      have hr1 : Rel C g1 V1 ⟨st.t, setH st.h id (.frz rows lin)⟩ a w := ⟨hr.sl.mono h1 h2, by rw [setH_eq]; exact h4, h3, hr.fr, hr.vw.grow h2 h5⟩
      obtain ⟨g', V', k1, k2, k3, k4, k5⟩ := frzH_ok ids hr1
      refine ⟨g', V', k1, h1.trans k2, h2.trans k3, by rw [k4, setH_eq]; simp, fun i hi => ?_⟩
      rw [k5 i (fun h => hi (List.mem_cons_of_mem _ h)), setH_eq, List.getElem?_set, if_neg (fun e => hi (by subst e; exact List.mem_cons_self ..))]
    · obtain ⟨g', V', k1, k2, k3, k4, k5⟩ := frzH_ok ids hr
      exact ⟨g', V', k1, k2, k3, k4, fun i hi => k5 i (fun h => hi (List.mem_cons_of_mem _ h))⟩

theorem memN_iff (x : Nat) : ∀ (l : List Nat), memN x l = true ↔ x ∈ l
  | [] => by simp [memN]
  | y :: ys => by simp [memN, memN_iff x ys]

/-- Blocks that come with absorbed rows. -/
def FromIds (g : List Gh) (h : List HB) (ids : List Nat) (b : Nat) : Prop := ∃ id ∈ ids, ∃ (x : Gh) (rows : List (List D)), h[id]? = some (.frz rows true) ∧ g[id]? = some x ∧ b ∈ x.tr

theorem absL_ok {C : Ctx} {g : List Gh} {V : View} {h : List HB} {w : World} (hp : Hp C g V h w) : ∀ {cs : List At} {l : List Value} {ds : List D} {lin : Bool}, absL h cs = some (ds, lin) → cL g V cs l →
    ∃ Ss, LayL V ds l Ss ∧ (lin = true → nodupN (idsL cs) = true → Ss.flatten.Nodup ∧ ∀ b ∈ Ss.flatten, FromIds g h (idsL cs) b)
  | [], l, ds, lin, hab, hc => by
    simp only [absL, Option.some.injEq, Prod.mk.injEq] at hab
    obtain ⟨rfl, rfl⟩ := hab
    rw [hc.nil_inv]
    exact ⟨[], LayL.nil V, fun _ _ => ⟨by simp, fun b hb => by simp at hb⟩⟩
  | c :: cs, l, ds, lin, hab, hc => by
    simp only [absL, Option.bind_eq_some_iff, Option.map_eq_some_iff] at hab
    obtain ⟨⟨d, l1⟩, h1, ⟨ds', l2⟩, h2, h3⟩ := hab
    simp only [Prod.mk.injEq] at h3
    obtain ⟨rfl, rfl⟩ := h3
    obtain ⟨y, l', rfl, hy, hl⟩ := hc.cons_inv
    obtain ⟨Ss, q1, q2⟩ := absL_ok hp h2 hl
    have plain : ∀ S, Lay V d y S → (l1 = true → S = []) → idsL (c :: cs) = idsL cs → ∃ Ss, LayL V (d :: ds') (y :: l') Ss ∧ (((l1 && l2) = true) → nodupN (idsL (c :: cs)) = true → Ss.flatten.Nodup ∧ ∀ b ∈ Ss.flatten, FromIds g h (idsL (c :: cs)) b) := by
      intro S hS hS0 hid
      refine ⟨S :: Ss, LayL.append (ds := [d]) (ys := [y]) (Ss := [S]) ⟨rfl, rfl, fun k d' y' S' e1 e2 e3 => ?_⟩ q1, fun hlin hn => ?_⟩
      · cases k with
        | zero => simp at e1 e2 e3; subst e1; subst e2; subst e3; exact hS
        | succ k => simp at e1
      · rw [hid] at hn ⊢
        simp only [Bool.and_eq_true] at hlin
        rw [List.flatten_cons, hS0 hlin.1, List.nil_append]
        exact q2 hlin.2 hn
    cases c with
    | d x =>
      obtain ⟨S, hy⟩ := hy
      cases x with
      | v z =>
        simp only [absA, Option.some.injEq, Prod.mk.injEq] at h1
        obtain ⟨rfl, rfl⟩ := h1
        cases hy with
        | v _ hs => exact plain [] (.v _ hs) (fun _ => rfl) rfl
      | sl rows =>
        simp only [absA, Option.some.injEq, Prod.mk.injEq] at h1
        obtain ⟨rfl, rfl⟩ := h1
        exact plain S hy (fun h => by cases h) rfl
    | z =>
      simp only [absA, Option.some.injEq, Prod.mk.injEq] at h1
      obtain ⟨rfl, rfl⟩ := h1
      have hy : y = _ := hy
      subst hy
      exact plain [] .nil (fun _ => rfl) rfl
    | s id =>
      simp only [absA] at h1
      split at h1
      · rename_i rows lin' e
        simp only [Option.some.injEq, Prod.mk.injEq] at h1
        obtain ⟨rfl, rfl⟩ := h1
        obtain ⟨gh, hg, hv, _⟩ := hy
        have hi := nthH_some e (by simp)
        obtain ⟨_, S, hS, hS2⟩ := hp.hb id _ gh hi hg
        refine ⟨S :: Ss, LayL.append (ds := [.sl rows]) (ys := [y]) (Ss := [S]) ⟨rfl, rfl, fun k d' y' S' e1 e2 e3 => ?_⟩ q1, fun hlin hn => ?_⟩
        · cases k with
          | zero => simp at e1 e2 e3; subst e1; subst e2; subst e3; rw [hv]; exact hS
          | succ k => simp at e1
        · simp only [Bool.and_eq_true] at hlin
          obtain ⟨rfl, hl2⟩ := hlin
          simp only [idsL, nodupN, Bool.and_eq_true, Bool.not_eq_true'] at hn
          obtain ⟨r1, r2⟩ := q2 hl2 hn.2
          have hni : id ∉ idsL cs := fun hm => by have := (memN_iff id (idsL cs)).2 hm; rw [hn.1] at this; cases this
          have hSt := hS2 rfl
          have hown : ownB gh (.frz rows true) = S := by simp [ownB, hSt]
          rw [List.flatten_cons]
          refine ⟨List.nodup_append.2 ⟨by rw [← hown]; exact hp.nd id _ gh hi hg, r1, fun b hb c hc => ?_⟩, fun b hb => ?_⟩
          · rintro rfl
            obtain ⟨id', hid', x', rows', e1, e2, e3⟩ := r2 b hc
            exact hp.dj id id' _ _ gh x' (fun e => hni (e ▸ hid')) hi hg e1 e2 b (by rw [hown]; exact hb) (by simpa [ownB] using e3)
          · rcases List.mem_append.1 hb with hb | hb
            · exact ⟨id, by simp [idsL], gh, rows, hi, hg, by rw [hSt]; exact hb⟩
            · obtain ⟨id', hid', r⟩ := r2 b hb
              exact ⟨id', by simp [idsL, hid'], r⟩
      · cases h1
    | u => simp [absA] at h1
    | p => simp [absA] at h1
    | r => simp [absA] at h1
    | q => simp [absA] at h1
    | f => simp [absA] at h1
    | w => simp [absA] at h1
    | e => simp [absA] at h1
    | n => simp [absA] at h1

/-- What absorbed rows bring lies in no live block of anybody else's. -/
theorem FromIds.free {C : Ctx} {g : List Gh} {V : View} {h : List HB} {w : World} (hp : Hp C g V h w) {ids : List Nat} {b : Nat} (hb : FromIds g h ids b) :
    ((C.w0.heap.size ≤ b ∨ b ∈ C.X) ∧ b < w.heap.size) ∧ ∀ (i : Nat) (c : HB) (x : Gh), (goneH h ids)[i]? = some c → g[i]? = some x → b ∉ ownB x c := by
  obtain ⟨id, hid, y, rows, e1, e2, e3⟩ := hb
  have hy : b ∈ ownB y (.frz rows true) := by simpa [ownB] using e3
  refine ⟨hp.lo id _ y e1 e2 b hy, fun i c x h1 h2 => ?_⟩
  have hil : i < h.length := by have := (List.getElem?_eq_some_iff.1 h1).1; rwa [(goneH_get ids h i).1] at this
  rw [(goneH_get ids h i).2] at h1
  split at h1
  · cases h1; simp [ownB]
  · rename_i hc
    exact fun hb' => hp.dj id i _ c y x (fun e => hc ⟨hil, e ▸ hid⟩) e1 e2 h1 h2 b hy hb'

/-- A new row of the function's own. -/
theorem Rel.newRow {C : Ctx} {g : List Gh} {V : View} {st : St} {a : Act} {w : World} (hr : Rel C g V st a w) (ids : List Nat) {ty sz cap : Nat} {rows : List (List D)} {lin : Bool} {ys : List Value} {Ss : List (List Nat)} {cur : Array Value}
    (hu : uni sz rows) (hl : LayL V rows.flatten ys Ss) (hlin : lin = true → Ss.flatten.Nodup ∧ ∀ b ∈ Ss.flatten, FromIds g st.h ids b) (hcap : rows.length ≤ cap) (hmax : cap ≤ maxLen) (hcs : cur.size = cap * sz) (hpre : ys <+: cur.toList) {w1 : World} (hw1 : w1.heap = w.heap ∧ w1.os = w.os ∧ w1.tape = w.tape ∧ w1.output = w.output) :
    ∃ g', Rel C g' V ⟨st.t, goneH st.h ids ++ [.row ty sz rows lin]⟩ a (w1.alloc (.cells cur ty)) ∧ GLe g g' ∧ cSV g' V (.o (.s st.h.length)) (.slice (some ⟨w.heap.size, 0, none⟩) rows.length cap) := by
  obtain ⟨q1, q2, q3, q4⟩ := hw1
  have hb1 : Below w.heap.size w w1 := ⟨q2, q3, q4, by rw [q1]; exact Nat.le_refl _, fun k _ => by rw [q1]⟩
  have hm1 : Mod V w1 := fun b cs hb => by rw [q1]; exact hr.mod b cs hb
  have hr1 := hr.later (View.le.refl V) hm1 hb1 (fun b cs h1 h2 => by rw [h1] at h2; cases h2)
  have hr2 := hr1.later (View.le.refl V) (hm1.alloc (.cells cur ty)) (below_alloc w1 _) (fun b cs h1 h2 => by rw [h1] at h2; cases h2)
  have hsz1 : w1.heap.size = w.heap.size := by rw [q1]
  let x : Gh := ⟨some w.heap.size, .slice (some ⟨w.heap.size, 0, none⟩) rows.length cap, Ss.flatten, []⟩
  have hlen : g.length = st.h.length := hr.hp.glen
  have hgl : (goneH st.h ids).length = st.h.length := (goneH_get ids st.h 0).1
  have hown : ∀ n ∈ ownB x (.row ty sz rows lin), n = w.heap.size ∨ (lin = true ∧ n ∈ Ss.flatten) := fun n hn => by
    simp only [ownB, x, List.mem_append] at hn
    rcases hn with hn | hn
    · simp at hn; exact .inl hn
    · split at hn
      · exact .inr ⟨‹_›, hn⟩
      · simp at hn
  refine ⟨g ++ [x], ⟨hr2.sl.mono (GLe.push _ _) (View.le.refl V), ?_, hr2.mod, hr2.fr, hr2.vw⟩, GLe.push _ _, x, by rw [List.getElem?_append_right (by omega)]; simp [hlen], rfl, rfl⟩
  refine (goneH_ok ids hr2.hp).push ?_ ?_ ?_ ?_ ?_
  · exact ⟨hu, ys, Ss, hl, fun _ => rfl, .inr ⟨w.heap.size, cap, cur, rfl, rfl, hcap, hmax, by rw [← hsz1]; exact heap_alloc_new w1 _, hcs, hpre⟩⟩
  · simp only [ownB, x, Option.toList_some, List.singleton_append]
    refine List.nodup_cons.2 ⟨fun hm => ?_, ?_⟩
    · split at hm
      · have := ((hlin ‹_›).2 _ hm).free hr.hp
        omega
      · simp at hm
    · split
      · exact (hlin ‹_›).1
      · simp
  · intro n hn
    rcases hown n hn with rfl | ⟨h1, h2⟩
    · exact ⟨.inl hr.fr.size, by simp [hsz1]⟩
    · have := (((hlin h1).2 n h2).free hr.hp).1
      exact ⟨this.1, by simp [hsz1]; omega⟩
  · intro i b' x' h1 h2 n hn hm
    rcases hown n hm with rfl | ⟨h3, h4⟩
    · have hil : i < st.h.length := by have := (List.getElem?_eq_some_iff.1 h1).1; rwa [hgl] at this
      rw [(goneH_get ids st.h i).2] at h1
      split at h1
      · cases h1; simp [ownB] at hn
      · exact Nat.lt_irrefl _ (hr.hp.lo i b' x' h1 h2 _ hn).2
    · exact (((hlin h3).2 n h4).free hr.hp).2 i b' x' h1 h2 hn
  · intro n hn
    simp [rootB, x] at hn
    subst hn
    exact hr.mod.fresh (Nat.le_refl _)
end Go.Sx
