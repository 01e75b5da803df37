/- Joined texts. -/
import Derived.Test.YtddimbdeggomaaaGreatZ12
set_option linter.all false
section
namespace Go.Proofs.YtddimbdeggomaaaGreat
open Go Go.Sx Go.RowKit Go.Proofs
def sortI (l : List Int) : List Int := l.mergeSort fun x y => decide (x ≤ y)
theorem compactUpTo_len {α : Type} [Inhabited α] [DecidableEq α] (d : Array α) : ∀ m, (Lib.compactUpTo d m).length ≤ m
 | 0 => by simp [Lib.compactUpTo]
 | m + 1 => by
  have := compactUpTo_len d m
  rw [Lib.compactUpTo_succ, List.length_append]
  split <;> simp <;> omega
def compI (l : List Int) : List Int := Lib.compact l
def bl (s : ByteArray) : List UInt8 := s.data.toList
def lb (l : List UInt8) : ByteArray := ⟨l.toArray⟩
theorem bl_lb (l : List UInt8) : bl (lb l) = l := rfl
theorem lb_bl (s : ByteArray) : lb (bl s) = s := by cases s; simp [lb, bl]
def sortB (l : List (List UInt8)) : List (List UInt8) := l.mergeSort fun x y => decide (x ≤ y)
def sortS (l : List ByteArray) : List ByteArray := (sortB (l.map bl)).map lb
def compS (l : List ByteArray) : List ByteArray := (Lib.compact (l.map bl)).map lb
theorem sortS_len (l : List ByteArray) : (sortS l).length = l.length := by simp [sortS, sortB, List.length_mergeSort]
theorem rows_bl (l : List ByteArray) : l.map encS = rowS Go.Proofs.encStr (l.map bl) := by
 simp only [rowS, List.map_map]
 refine List.map_congr_left fun s _ => ?_
 have h := lb_bl s
 simp only [lb] at h
 simp only [Function.comp, encS, Go.Proofs.encStr, h]
theorem rows_lb (l : List (List UInt8)) : (l.map lb).map encS = rowS Go.Proofs.encStr l := by
 rw [rows_bl, List.map_map]
 congr 1
 simp [Function.comp_def, bl_lb]
theorem encStr_scalar (x : List UInt8) : scalar (Go.Proofs.encStr x) = true := rfl
theorem sortStr_ok (l : List ByteArray) (hl : l.length ≤ 4611686018427387903) : FnI Tryz.prog 273 9 1 (l.map encS) [] true ((sortS l).map encS) := by
 refine ⟨Tryz.call273, fun V w y S vs hm hrow hnd hlt hargs => ?_⟩
 have hvs : vs = [] := by have := hargs.1; simpa using this
 subst hvs
 rw [sortS, rows_lb]
 rw [rows_bl] at hrow
 rcases scal_down (e := Go.Proofs.encStr) hrow with ⟨⟨ao, rfl⟩, hn, rfl⟩ | ⟨b, cap, c, rfl, h1, h2, h3, h4, h5, h6, rfl⟩
 ·refine (Any.slices_Sort_string_none Tryz.laysSortStr ao 0 w).mono ?_
  rintro e w' ⟨rfl, rfl⟩
  exact ⟨_, rfl, fun _ => rfl, ⟨⟨rfl, rfl, rfl, Nat.le_refl _, fun _ _ _ => rfl⟩, [], (by rw [hn] at hrow ⊢; simpa [sortB] using hrow), hnd, fun b hb => .inl hb, fun _ => rfl⟩⟩
 ·have hb : b < w.heap.size := (Array.getElem?_eq_some_iff.1 h3).1
  refine (Any.slices_Sort_string Tryz.laysSortStr b 0 cap (l.map bl) w h5 hb (by simp; omega)).mono ?_
  rintro e w' ⟨rfl, n, os, rfl⟩
  have hsl : (sortB (l.map bl)).length = (l.map bl).length := by simp [sortB, List.length_mergeSort]
  have hup := scal_up (e := Go.Proofs.encStr) (l := sortB (l.map bl)) (d := (sortB (l.map bl)).toArray) encStr_scalar h3 h4 h2 (by simp only [List.size_toArray, hsl]; exact h1) rfl (List.prefix_refl _) h6 (n := n) (os := os)
  rw [hsl] at hup
  exact ⟨_, rfl, fun _ => rfl, ⟨hup.2, [b], hup.1, hnd, fun b hb => .inl hb, fun _ => rfl⟩⟩
theorem compactStr_ok (l : List ByteArray) (hl : l.length ≤ 4611686018427387903) : FnI Tryz.prog 274 9 1 (l.map encS) [] false ((compS l).map encS) := by
 refine ⟨Tryz.call274, fun V w y S vs hm hrow hnd hlt hargs => ?_⟩
 have hvs : vs = [] := by have := hargs.1; simpa using this
 subst hvs
 rw [compS, rows_lb]
 rw [rows_bl] at hrow
 rcases scal_down (e := Go.Proofs.encStr) hrow with ⟨⟨ao, rfl⟩, hn, rfl⟩ | ⟨b, cap, c, rfl, h1, h2, h3, h4, h5, h6, rfl⟩
 ·refine (Any.slices_Compact_string_empty Tryz.laysCompactStr ao 0 w).mono ?_
  rintro e w' ⟨rfl, rfl⟩
  exact ⟨_, rfl, fun h => (by cases h), ⟨⟨rfl, rfl, rfl, Nat.le_refl _, fun _ _ _ => rfl⟩, [], (by rw [hn] at hrow ⊢; exact hrow), hnd, fun b hb => .inl hb, fun _ => rfl⟩⟩
 ·have hb : b < w.heap.size := (Array.getElem?_eq_some_iff.1 h3).1
  refine (Any.slices_Compact_string Tryz.laysCompactStr b 0 cap (l.map bl) w h5 (by simp; omega) h1).mono ?_
  rintro e w' ⟨rfl, n, rfl⟩
  have hle : (Lib.compact (l.map bl)).length ≤ (l.map bl).length := compactUpTo_len _ _
  have hup := scal_up (e := Go.Proofs.encStr) (l := Lib.compact (l.map bl)) (d := (Lib.compact (l.map bl) ++ List.replicate ((l.map bl).length - (Lib.compact (l.map bl)).length) []).toArray) (w' := Sort.putRow Go.Proofs.encStr (Sort.ahead w n) b 0 (Lib.compact (l.map bl) ++ List.replicate ((l.map bl).length - (Lib.compact (l.map bl)).length) []).toArray) encStr_scalar h3 h4 h2 (by simp only [List.size_toArray, List.length_append, List.length_replicate]; omega) (by rw [Sort.grow_empty]) (by simp) h6 (n := n) (os := #[])
  exact ⟨_, rfl, fun h => (by cases h), ⟨hup.2, [b], hup.1, hnd, fun b hb => .inl hb, fun _ => rfl⟩⟩
end Go.Proofs.YtddimbdeggomaaaGreat
end
section
set_option maxRecDepth 100000
set_option maxHeartbeats 4000000
namespace Go.Sx
theorem WP_frzd {P : Program} {C : Ctx} {F : Ex → St → Prop} {st : St} {code : Code} (i id : Nat) {ty sz : Nat} {rows : List (List D)} {lin : Bool} (hi : nth st.t i = .o (.s id)) (hb : nthH st.h id = .row ty sz rows lin) (h : WP P C code F ⟨setN st.t i (.o (.d (.sl rows))), setH st.h id (.frz rows lin)⟩) : WP P C code F st := by
 intro g V a w hr
 obtain ⟨g', V', h1, h2, h3, h4, h5⟩ := hr.hp.frz hr.mod hr.fr.size (nthH_some hb (by simp))
 have hr1 : Rel C g' V' ⟨st.t, setH st.h id (.frz rows lin)⟩ a w := ⟨hr.sl.mono h1 h2, by rw [setH_eq]; exact h4, h3, hr.fr, hr.vw.grow h2 h5⟩
 refine h g' V' a w ⟨⟨by rw [setN_eq]; simpa using hr1.sl.size, fun n s y e1 e2 => ?_, hr1.sl.defers⟩, hr1.hp, hr1.mod, hr1.fr, hr1.vw⟩
 rw [setN_eq, List.getElem?_set] at e1
 by_cases e : i = n
 ·subst e
  rw [if_pos rfl] at e1
  split at e1
  ·rename_i hlt
   cases e1
   have hs : st.t[i]? = some (.o (.s id)) := by
    rw [nth_eq, List.getD_eq_getElem?_getD, List.getElem?_eq_getElem hlt] at hi
    rw [List.getElem?_eq_getElem hlt]
    exact congrArg some hi
   obtain ⟨gh, hgh, hy, _⟩ := hr1.sl.slot i _ y hs e2
   have hf : (setH st.h id (.frz rows lin))[id]? = some (.frz rows lin) := by
    have := nthH_some hb (by simp)
    rw [setH_eq, List.getElem?_set]; simp [(List.getElem?_eq_some_iff.1 this).1]
   obtain ⟨_, S, q1, _⟩ := hr1.hp.hb id _ gh hf hgh
   exact ⟨S, by rw [hy]; exact q1⟩
  ·cases e1
 ·rw [if_neg e] at e1
  exact hr1.sl.slot n s y e1 e2
end Go.Sx
namespace Go.Proofs.YtddimbdeggomaaaGreat
open Go Go.Sx Go.RowKit Go.Proofs
theorem mem_compUp {α : Type} [Inhabited α] [DecidableEq α] (d : Array α) : ∀ (m i : Nat), i < m → d[i]! ∈ Lib.compactUpTo d m
 | 0, i, h => by omega
 | m + 1, i, h => by
  rw [Lib.compactUpTo_succ]
  by_cases hi : i < m
  ·exact List.mem_append_left _ (mem_compUp d m i hi)
  ·have e : i = m := by omega
   subst e
   cases hk : Lib.keeps d i with
   | true => exact List.mem_append_right _ (by simp)
   | false =>
    have h0 : 0 < i := by
     rcases Nat.eq_zero_or_pos i with h | h
     ·subst h; rw [Lib.keeps_lt_one d 0 (by omega)] at hk; cases hk
     ·exact h
    have he : d[i]! = d[i - 1]! := Classical.byContradiction fun hn => by rw [Lib.keeps_pos hn] at hk; cases hk
    rw [he]
    exact List.mem_append_left _ (mem_compUp d i (i - 1) (by omega))
theorem mem_comp {α : Type} [Inhabited α] [DecidableEq α] (zs : List α) (x : α) : x ∈ Lib.compact zs ↔ x ∈ zs := by
 refine ⟨fun h => ?_, fun h => ?_⟩
 ·unfold Lib.compact Lib.compactUpTo at h
  obtain ⟨i, hi, rfl⟩ := List.mem_map.1 h
  have hi' : i < zs.length := List.mem_range.1 (List.mem_filter.1 hi).1
  simp [getElem!_pos, hi']
 ·obtain ⟨i, hi, rfl⟩ := List.mem_iff_getElem.1 h
  have := mem_compUp zs.toArray zs.length i hi
  have e : zs.toArray[i]! = zs[i] := by simp [getElem!_pos, hi]
  rw [e] at this
  exact this
def onceS (l : List ByteArray) : List ByteArray := compS (sortS l)
theorem onceS_len (l : List ByteArray) : (onceS l).length ≤ l.length := by
 have := compactUpTo_len ((sortS l).map bl).toArray ((sortS l).map bl).length
 simp only [onceS, compS, Lib.compact, List.length_map, sortS_len] at this ⊢
 exact this
theorem hasS_mem (l : List ByteArray) (s : ByteArray) : hasS l s = true ↔ s ∈ l := by
 unfold hasS
 rw [List.any_eq_true]
 constructor
 ·rintro ⟨x, h1, h2⟩; rw [of_decide_eq_true h2] at h1; exact h1
 ·intro h; exact ⟨s, h, by simp⟩
theorem mem_onceS (l : List ByteArray) (s : ByteArray) : s ∈ onceS l ↔ s ∈ l := by
 have e : (sortS l).map bl = sortB (l.map bl) := by
  unfold sortS
  rw [List.map_map]
  have : (bl ∘ lb) = id := by funext x; exact bl_lb x
  rw [this, List.map_id]
 unfold onceS compS
 rw [e]
 constructor
 ·intro h
  obtain ⟨y, hy, rfl⟩ := List.mem_map.1 h
  rw [mem_comp, sortB, List.mem_mergeSort] at hy
  obtain ⟨z, hz, rfl⟩ := List.mem_map.1 hy
  rw [lb_bl]; exact hz
 ·intro h
  refine List.mem_map.2 ⟨bl s, ?_, lb_bl s⟩
  rw [mem_comp, sortB, List.mem_mergeSort]
  exact List.mem_map.2 ⟨s, h, rfl⟩
theorem sortedOnce_ok (l : List ByteArray) (hl : l.length ≤ 4300000) : FnC Tryz.prog 205 [.o (.d (.sl (l.map encS)))] (.o (.w 9 1 ((onceS l).map encS))) := by
 refine ent Tryz.func205 rfl Tryz.call205 rfl (fun C => ?_); simp only [go_sem, st0, Tryz.ntmps205]
 repeat' (with_reducible first | refine nY ?_ | (refine mX ?_; try simp only [go_sem]) | refine kO ?_ (by decide) | refine regd (by kernel_rfl) ?_ | (refine cC (cloneStr_ok l hl) ?_ ?_; focus simp only [go_sem, and_self]; done) | (refine cali (sortStr_ok l (by omega)) ?_ ?_ ?_ (uX ?_); (focus simp only [go_sem]; done); (focus simp only [go_sem]; done); (focus simp only [go_sem]; done)) | (refine calj (sortStr_ok l (by omega)) ?_ ?_ ?_ (uX ?_); (focus simp only [go_sem]; done); (focus simp only [go_sem]; done); (focus simp only [go_sem]; done)) | (refine cali (compactStr_ok (sortS l) (by rw [sortS_len]; omega)) ?_ ?_ ?_ (uX ?_); (focus simp only [go_sem]; done); (focus simp only [go_sem]; done); (focus simp only [go_sem]; done)) | (refine calj (compactStr_ok (sortS l) (by rw [sortS_len]; omega)) ?_ ?_ ?_ (uX ?_); (focus simp only [go_sem]; done); (focus simp only [go_sem]; done); (focus simp only [go_sem]; done)) | (refine And.intro ?_ ?_; focus omega))
 exact retK_ret ⟨⟨_, rfl, by simp only [go_sem, onceS]⟩, trivial⟩
def geS (s : ByteArray) (y : ByteArray) : Bool := !strLt y s
def putS (l : List ByteArray) (s : ByteArray) : List ByteArray := if (l.drop (fstIx (geS s) l)).head? = some s then l else insAt (fstIx (geS s) l) s l
def putL (l : List ByteArray) : List ByteArray := l.foldl putS []
theorem mem_putS (l : List ByteArray) (s x : ByteArray) : x ∈ putS l s ↔ x = s ∨ x ∈ l := by
 unfold putS
 split
 ·rename_i h
  have : s ∈ l.drop (fstIx (geS s) l) := by
   cases hd : l.drop (fstIx (geS s) l) with
   | nil => rw [hd] at h; cases h
   | cons y r => rw [hd] at h; simp at h; simp [h]
  have hs := List.mem_of_mem_drop this
  constructor
  ·exact .inr
  ·rintro (rfl | h) <;> first | exact hs | exact h
 ·unfold insAt
  conv => rhs; rw [← List.take_append_drop (fstIx (geS s) l) l]
  simp only [List.mem_append, List.mem_cons]
  constructor
  ·rintro (h | h | h) <;> first | exact .inr (.inl h) | exact .inl h | exact .inr (.inr h)
  ·rintro (h | h | h) <;> first | exact .inr (.inl h) | exact .inl h | exact .inr (.inr h)
theorem putS_len (l : List ByteArray) (s : ByteArray) : (putS l s).length ≤ l.length + 1 := by
 unfold putS
 split
 ·omega
 ·rw [insAt_len _ _ _ (fstIx_le _ l)]; omega
theorem putL_app (l : List ByteArray) (s : ByteArray) : putL (l ++ [s]) = putS (putL l) s := by simp [putL]
theorem mem_foldl (l : List ByteArray) : ∀ (a : List ByteArray) (x : ByteArray), x ∈ l.foldl putS a ↔ x ∈ a ∨ x ∈ l := by
 induction l with
 | nil => simp
 | cons y l ih =>
  intro a x
  rw [List.foldl_cons, ih, mem_putS]
  simp only [List.mem_cons]
  constructor
  ·rintro ((h | h) | h) <;> first | exact .inr (.inl h) | exact .inl h | exact .inr (.inr h)
  ·rintro (h | h | h) <;> first | exact .inl (.inr h) | exact .inl (.inl h) | exact .inr h
theorem mem_putL (l : List ByteArray) (x : ByteArray) : x ∈ putL l ↔ x ∈ l := by rw [putL, mem_foldl]; simp
theorem foldl_len (l : List ByteArray) : ∀ a : List ByteArray, (l.foldl putS a).length ≤ a.length + l.length := by
 induction l with
 | nil => simp
 | cons y l ih =>
  intro a
  have h1 := ih (putS a y)
  have h2 := putS_len a y
  simp only [List.foldl_cons, List.length_cons]; omega
theorem putL_len (l : List ByteArray) : (putL l).length ≤ l.length := by have := foldl_len l []; simpa [putL] using this
theorem fstIx_at' {α : Type} (p : α → Bool) (l : List α) (k : Nat) (h : k < l.length) (hk : fstIx p l = k + fstIx p (l.drop k)) : fstIx p l = if p l[k] then k else k + 1 + fstIx p (l.drop (k + 1)) := by
 rw [hk, fstIx_drop p l k h]
 split <;> omega
theorem take_mapS {α β : Type} (f : α → β) (l : List α) (n : Nat) : (l.map f).take n = (l.take n).map f := List.map_take.symm
theorem drop_mapS {α β : Type} (f : α → β) (l : List α) (n : Nat) : (l.map f).drop n = (l.drop n).map f := List.map_drop.symm
end Go.Proofs.YtddimbdeggomaaaGreat
end
section
set_option maxRecDepth 100000
set_option maxHeartbeats 4000000
namespace Go.Proofs.YtddimbdeggomaaaGreat
open Go Go.Sx Go.RowKit Go.Proofs
theorem uniS (l : List ByteArray) : ∀ r ∈ l.map encS, r.length = 1 := by intro r hr; obtain ⟨x, _, rfl⟩ := List.mem_map.1 hr; rfl
theorem l04Put_ok (l : List ByteArray) (s : ByteArray) (hl : l.length ≤ 4300000) : FnC Tryz.prog 195 [.o (.d (.sl (l.map encS))), os s] (.o (.d (.sl ((putS l s).map encS)))) := by
 have hle := fstIx_le (geS s) l
 refine ent Tryz.func195 rfl Tryz.call195 rfl (fun C => ?_); simp only [go_sem, st0, Tryz.ntmps195]
 repeat' (with_reducible first | refine nY ?_ | (refine mX ?_; try simp only [go_sem]) | refine kO ?_ (by decide) | (refine regx (by simp only [bodyX, isStX, Bool.false_eq_true, if_false, if_true]; rfl) (by kernel_rfl) (by kernel_rfl) (by decide) ?_ ?_ ?_; (focus simp only [go_sem]; done); (focus simp only [go_sem]; done)) | refine xE ?_ (by simp only [tailX, isStX, Bool.false_eq_true, if_false, if_true]; rfl) (by simp only [go_sem]; rfl) | refine regd (by kernel_rfl) ?_ | (refine And.intro ?_ ?_; focus omega))
 refine WP_lp (α := Nat) (fun k => [(5, oi k)]) (fun _ => []) (fun k => k ≤ l.length ∧ fstIx (geS s) l = k + fstIx (geS s) (l.drop k)) (fun k => l.length - k) 0 (fun _ => ?_) ?_ ?_ (fun k hk => ?_)
 ·simp only [go_sem]
 ·simp only [go_sem]; simp
 ·simp
 ·obtain ⟨hk, hf⟩ := hk
  simp only [go_sem]
  by_cases h1 : k < l.length
  ·have hfx := fstIx_at' (geS s) l k h1 hf
   have h1' : ((k : Int) < (l.length : Int)) = True := by simp [h1]
   repeat' (with_reducible first | refine nY ?_ | (refine mX ?_; try simp only [go_sem, h1, h1', decide_true]) | refine kO ?_ (by decide) | (refine regx (by simp only [bodyX, isStX, Bool.false_eq_true, if_false, if_true]; rfl) (by kernel_rfl) (by kernel_rfl) (by decide) ?_ ?_ ?_; (focus simp only [go_sem]; done); (focus simp only [go_sem]; done)) | refine xE ?_ (by simp only [tailX, isStX, Bool.false_eq_true, if_false, if_true]; rfl) (by simp only [go_sem]; rfl) | refine regd (by kernel_rfl) ?_ | (refine And.intro ?_ ?_; focus omega))
   refine cnd (b := strLt l[k] s) rfl (fun h2 => ?_) (fun h2 => ?_)
   ·rw [if_neg (by simp [geS, h2])] at hfx
    repeat' (with_reducible first | refine nY ?_ | (refine mX ?_; try simp only [go_sem]) | refine kO ?_ (by decide) | (refine regx (by simp only [bodyX, isStX, Bool.false_eq_true, if_false, if_true]; rfl) (by kernel_rfl) (by kernel_rfl) (by decide) ?_ ?_ ?_; (focus simp only [go_sem]; done); (focus simp only [go_sem]; done)) | refine xE ?_ (by simp only [tailX, isStX, Bool.false_eq_true, if_false, if_true]; rfl) (by simp only [go_sem]; rfl) | refine regd (by kernel_rfl) ?_ | (refine And.intro ?_ ?_; focus omega))
    refine L_next (k + 1) ?_ ?_ ?_
    ·simp only [go_sem]; simp
    ·exact ⟨by omega, hfx⟩
    ·omega
   ·rw [if_pos (by simp [geS, h2])] at hfx
    have hd := List.drop_eq_getElem_cons h1
    by_cases h3 : l[k] = s
    ·have hput : putS l s = l := by unfold putS; rw [hfx, hd]; simp [h3]
     repeat' (with_reducible first | refine nY ?_ | (refine mX ?_; try simp only [go_sem, h1, h1', h3, decide_true]) | refine kO ?_ (by decide) | (refine regx (by simp only [bodyX, isStX, Bool.false_eq_true, if_false, if_true]; rfl) (by kernel_rfl) (by kernel_rfl) (by decide) ?_ ?_ ?_; (focus simp only [go_sem]; done); (focus simp only [go_sem]; done)) | refine xE ?_ (by simp only [tailX, isStX, Bool.false_eq_true, if_false, if_true]; rfl) (by simp only [go_sem]; rfl) | refine regd (by kernel_rfl) ?_ | (refine And.intro ?_ ?_; focus omega))
     exact retK_ret ⟨⟨_, rfl, by simp only [go_sem, hput]⟩, trivial⟩
    ·have hput : putS l s = insAt k s l := by unfold putS; rw [hfx, hd]; exact if_neg (fun h => h3 (Option.some.inj h))
     have hn1 : ((0 : Int) ≤ (k : Int)) := by omega
     repeat' (with_reducible first | refine nY ?_ | (refine mX ?_; try simp only [go_sem, h1, h1', h3, hn1, decide_true, decide_false, take_mapS, drop_mapS, List.length_take, List.length_drop, List.length_append]) | refine kO ?_ (by decide) | (refine regx (by simp only [bodyX, isStX, Bool.false_eq_true, if_false, if_true]; rfl) (by kernel_rfl) (by kernel_rfl) (by decide) ?_ ?_ ?_; (focus simp only [go_sem]; done); (focus simp only [go_sem]; done)) | refine xE ?_ (by simp only [tailX, isStX, Bool.false_eq_true, if_false, if_true]; rfl) (by simp only [go_sem]; rfl) | refine regd (by kernel_rfl) ?_ | (refine And.intro ?_ ?_; focus omega))
     refine ⟨uniS l, by omega, by omega, by omega, ?_⟩
     repeat' (with_reducible first | refine nY ?_ | (refine mX ?_; try simp only [go_sem, take_mapS, drop_mapS, List.length_take, List.length_drop, List.length_append]) | refine kO ?_ (by decide) | (refine regx (by simp only [bodyX, isStX, Bool.false_eq_true, if_false, if_true]; rfl) (by kernel_rfl) (by kernel_rfl) (by decide) ?_ ?_ ?_; (focus simp only [go_sem]; done); (focus simp only [go_sem]; done)) | refine xE ?_ (by simp only [tailX, isStX, Bool.false_eq_true, if_false, if_true]; rfl) (by simp only [go_sem]; rfl) | refine regd (by kernel_rfl) ?_ | (refine And.intro ?_ ?_; focus omega))
     refine ⟨uniS l, by omega, by omega, by omega, ?_⟩
     repeat' (with_reducible first | refine nY ?_ | (refine mX ?_; try simp only [go_sem, take_mapS, drop_mapS, List.length_take, List.length_drop, List.length_append]) | refine kO ?_ (by decide) | (refine regx (by simp only [bodyX, isStX, Bool.false_eq_true, if_false, if_true]; rfl) (by kernel_rfl) (by kernel_rfl) (by decide) ?_ ?_ ?_; (focus simp only [go_sem]; done); (focus simp only [go_sem]; done)) | refine xE ?_ (by simp only [tailX, isStX, Bool.false_eq_true, if_false, if_true]; rfl) (by simp only [go_sem]; rfl) | refine regd (by kernel_rfl) ?_ | (refine And.intro ?_ ?_; focus omega))
     refine retK_sees (Sees.frz 0 rfl) ?_
     simp only [go_sem]
     exact retK_ret ⟨⟨_, rfl, by simp only [go_sem, hput, insAt, List.take_length, List.map_append, List.map_cons, List.append_assoc, List.cons_append, List.nil_append]⟩, trivial⟩
  ·have e : k = l.length := by omega
   have hfx : fstIx (geS s) l = k := by rw [hf, e, List.drop_length]; rfl
   have hput : putS l s = insAt k s l := by unfold putS; rw [hfx, e, List.drop_length]; simp
   have h1' : ((k : Int) < (l.length : Int)) = False := by simp [h1]
   repeat' (with_reducible first | refine nY ?_ | (refine mX ?_; try simp only [go_sem, h1, h1', decide_false, take_mapS, drop_mapS, List.length_take, List.length_drop, List.length_append]) | refine kO ?_ (by decide) | (refine regx (by simp only [bodyX, isStX, Bool.false_eq_true, if_false, if_true]; rfl) (by kernel_rfl) (by kernel_rfl) (by decide) ?_ ?_ ?_; (focus simp only [go_sem]; done); (focus simp only [go_sem]; done)) | refine xE ?_ (by simp only [tailX, isStX, Bool.false_eq_true, if_false, if_true]; rfl) (by simp only [go_sem]; rfl) | refine regd (by kernel_rfl) ?_ | (refine And.intro ?_ ?_; focus omega))
   refine ⟨uniS l, by omega, by omega, by omega, ?_⟩
   repeat' (with_reducible first | refine nY ?_ | (refine mX ?_; try simp only [go_sem, take_mapS, drop_mapS, List.length_take, List.length_drop, List.length_append]) | refine kO ?_ (by decide) | (refine regx (by simp only [bodyX, isStX, Bool.false_eq_true, if_false, if_true]; rfl) (by kernel_rfl) (by kernel_rfl) (by decide) ?_ ?_ ?_; (focus simp only [go_sem]; done); (focus simp only [go_sem]; done)) | refine xE ?_ (by simp only [tailX, isStX, Bool.false_eq_true, if_false, if_true]; rfl) (by simp only [go_sem]; rfl) | refine regd (by kernel_rfl) ?_ | (refine And.intro ?_ ?_; focus omega))
   refine ⟨uniS l, by omega, by omega, by omega, ?_⟩
   repeat' (with_reducible first | refine nY ?_ | (refine mX ?_; try simp only [go_sem, take_mapS, drop_mapS, List.length_take, List.length_drop, List.length_append]) | refine kO ?_ (by decide) | (refine regx (by simp only [bodyX, isStX, Bool.false_eq_true, if_false, if_true]; rfl) (by kernel_rfl) (by kernel_rfl) (by decide) ?_ ?_ ?_; (focus simp only [go_sem]; done); (focus simp only [go_sem]; done)) | refine xE ?_ (by simp only [tailX, isStX, Bool.false_eq_true, if_false, if_true]; rfl) (by simp only [go_sem]; rfl) | refine regd (by kernel_rfl) ?_ | (refine And.intro ?_ ?_; focus omega))
   refine retK_sees (Sees.frz 0 rfl) ?_
   simp only [go_sem]
   exact retK_ret ⟨⟨_, rfl, by simp only [go_sem, hput, insAt, List.take_length, List.map_append, List.map_cons, List.append_assoc, List.cons_append, List.nil_append]⟩, trivial⟩
def attrNs (l : List TAttr) : List ByteArray := l.map TAttr.fName
theorem specDirNames_ok (l : List TDir) (hl : l.length ≤ 4300000) : FnC Tryz.prog 112 [.o (.d (.sl (l.map encDir)))] (.o (.w 9 1 ((dirNs l).map encS))) := by
 refine ent Tryz.func112 rfl Tryz.call112 rfl (fun C => ?_); simp only [go_sem, st0, Tryz.ntmps112]
 repeat' (with_reducible first | refine nY ?_ | (refine mX ?_; try simp only [go_sem]) | refine kO ?_ (by decide) | (refine regx (by simp only [bodyX, isStX, Bool.false_eq_true, if_false, if_true]; rfl) (by kernel_rfl) (by kernel_rfl) (by decide) ?_ ?_ ?_; (focus simp only [go_sem]; done); (focus simp only [go_sem]; done)) | refine xE ?_ (by simp only [tailX, isStX, Bool.false_eq_true, if_false, if_true]; rfl) (by simp only [go_sem]; rfl) | refine regd (by kernel_rfl) ?_ | (refine And.intro ?_ ?_; focus omega))
 refine WP_lp (α := Nat) (fun k => [(3, .o (.s 0)), (4, oi k), (5, .o .u)]) (fun k => [(0, .row 9 1 ((dirNs (l.take k)).map encS) true)]) (fun k => k ≤ l.length) (fun k => l.length - k) 0 (fun _ => ?_) ?_ ?_ (fun k hk => ?_)
 ·simp only [go_sem]
 ·simp only [go_sem]; simp [dirNs]
 ·simp
 ·simp only [go_sem]
  repeat' (with_reducible first | refine nY ?_ | (refine mX ?_; try simp only [go_sem]) | refine kO ?_ (by decide) | (refine regx (by simp only [bodyX, isStX, Bool.false_eq_true, if_false, if_true]; rfl) (by kernel_rfl) (by kernel_rfl) (by decide) ?_ ?_ ?_; (focus simp only [go_sem]; done); (focus simp only [go_sem]; done)) | refine xE ?_ (by simp only [tailX, isStX, Bool.false_eq_true, if_false, if_true]; rfl) (by simp only [go_sem]; rfl) | refine regd (by kernel_rfl) ?_ | (refine And.intro ?_ ?_; focus omega))
  refine cnd rfl (fun h1 => ?_) (fun h1 => ?_)
  ·simp only [decide_eq_true_eq, Int.ofNat_lt] at h1
   have ht : dirNs (l.take (k + 1)) = dirNs (l.take k) ++ [l[k].fName] := by simp only [dirNs, List.take_succ_eq_append_getElem h1, List.map_append, List.map_cons, List.map_nil]
   have hlen : (dirNs (l.take k)).length = k := by rw [dirNs_len]; simp; omega
   repeat' (with_reducible first | refine nY ?_ | (refine mX ?_; try simp only [go_sem, h1, hlen]) | refine kO ?_ (by decide) | (refine regx (by simp only [bodyX, isStX, Bool.false_eq_true, if_false, if_true]; rfl) (by kernel_rfl) (by kernel_rfl) (by decide) ?_ ?_ ?_; (focus simp only [go_sem]; done); (focus simp only [go_sem]; done)) | refine xE ?_ (by simp only [tailX, isStX, Bool.false_eq_true, if_false, if_true]; rfl) (by simp only [go_sem]; rfl) | refine regd (by kernel_rfl) ?_ | (refine And.intro ?_ ?_; focus omega))
   refine L_next (k + 1) ?_ ?_ ?_
   ·simp only [go_sem, ht, List.map_append]; simp
   ·omega
   ·omega
  ·simp only [decide_eq_false_iff_not] at h1
   have e : k = l.length := by omega
   subst e
   repeat' (with_reducible first | refine nY ?_ | (refine mX ?_; try simp only [go_sem]) | refine kO ?_ (by decide) | (refine regx (by simp only [bodyX, isStX, Bool.false_eq_true, if_false, if_true]; rfl) (by kernel_rfl) (by kernel_rfl) (by decide) ?_ ?_ ?_; (focus simp only [go_sem]; done); (focus simp only [go_sem]; done)) | refine xE ?_ (by simp only [tailX, isStX, Bool.false_eq_true, if_false, if_true]; rfl) (by simp only [go_sem]; rfl) | refine regd (by kernel_rfl) ?_ | (refine And.intro ?_ ?_; focus omega))
   exact retK_ret ⟨⟨_, rfl, by simp only [go_sem, List.take_length]⟩, trivial⟩
def eqV (x v : TValue) : Bool := decide (x.fKind = v.fKind) && (decide (x.fInt = v.fInt) && decide (x.fStr = v.fStr))
def changed (a b : TFile) (n : ByteArray) : Bool := !(eqV (getAttr n a.fAttrs) (getAttr n b.fAttrs))
def chL (a b : TFile) (l : List ByteArray) : List ByteArray := l.filter (changed a b)
def chg (a b : TFile) : List ByteArray := chL a b (attrNs a.fAttrs ++ attrNs b.fAttrs)
end Go.Proofs.YtddimbdeggomaaaGreat
end
section
set_option maxRecDepth 100000
set_option maxHeartbeats 4000000
namespace Go.Proofs.YtddimbdeggomaaaGreat
open Go Go.Sx Go.RowKit Go.Proofs
@[go_sem] def encB (b : Bool) : List D := [bv b]
def isNot (n : TNode) : Bool := decide (n.fOp = 5)
def isTwo (n : TNode) : Bool := decide (n.fOp = 6) || decide (n.fOp = 7)
def negStep (q : List TNode) (i : Nat) (L : List Bool) : List Bool := match q[i]? with
 | none => L
 | some n => if n.fOp = 5 then L.set n.fLeft.toNat true else if isTwo n then (L.set n.fLeft.toNat (L.getD i false)).set n.fRight.toNat (L.getD i false) else L
def negJ (q : List TNode) : Nat → List Bool
 | 0 => List.replicate q.length false
 | j + 1 => negStep q (q.length - 1 - j) (negJ q j)
theorem negStep_len (q : List TNode) (i : Nat) (L : List Bool) : (negStep q i L).length = L.length := by
 unfold negStep
 split
 ·rfl
 ·split
  ·simp
  ·split <;> simp
theorem negJ_len (q : List TNode) (j : Nat) : (negJ q j).length = q.length := by
 induction j with
 | zero => simp [negJ]
 | succ j ih => simp only [negJ, negStep_len, ih]
def negs (q : List TNode) : List Bool := negJ q q.length
theorem negs_len (q : List TNode) : (negs q).length = q.length := negJ_len q q.length
theorem negJ_step (q : List TNode) (i : Nat) (h : i < q.length) : negJ q (q.length - i) = negStep q i (negJ q (q.length - (i + 1))) := by
 have e : q.length - i = (q.length - (i + 1)) + 1 := by omega
 have e2 : q.length - 1 - (q.length - (i + 1)) = i := by omega
 rw [e, negJ, e2]
def isDirOp (n : TNode) : Bool := inB n.fOp 8 9
def sel (q : List TNode) (b : Bool) (k : Nat) : List ByteArray := match q[k]?, (negs q)[k]? with
 | some n, some x => if isDirOp n && (x == b) then [n.fName] else []
 | _, _ => []
def depsK (q : List TNode) (b : Bool) (k : Nat) : List ByteArray := (List.range k).flatMap (sel q b)
def depsL (q : List TNode) (b : Bool) : List ByteArray := depsK q b q.length
theorem depsK_succ (q : List TNode) (b : Bool) (k : Nat) : depsK q b (k + 1) = depsK q b k ++ sel q b k := by
 simp [depsK, List.range_succ, List.flatMap_append]
theorem sel_len (q : List TNode) (b : Bool) (k : Nat) : (sel q b k).length ≤ 1 := by
 unfold sel
 split
 ·split <;> simp
 ·simp
theorem depsK_len (q : List TNode) (b : Bool) (k : Nat) : (depsK q b k).length ≤ k := by
 induction k with
 | zero => simp [depsK]
 | succ k ih => rw [depsK_succ, List.length_append]; have := sel_len q b k; omega
theorem getB (L : List Bool) (i : Nat) (h : i < L.length) : L.getD i false = L[i] := by simp [List.getD_eq_getElem?_getD, h]
theorem setBF (L : List Bool) (l : Nat) : (L.map encB).set l [D.v (Value.bool false)] = (L.set l false).map encB := by rw [List.map_set]; rfl
theorem setBT (L : List Bool) (l : Nat) : (L.map encB).set l [D.v (Value.bool true)] = (L.set l true).map encB := by rw [List.map_set]; rfl
theorem getSet {L : List Bool} {i : Nat} {b : Bool} (h : i < L.length) (hb : L[i] = b) (l : Nat) (h' : i < (L.set l b).length) : (L.set l b)[i] = b := by
 rw [List.getElem_set]; split
 ·rfl
 ·exact hb
theorem getSet2 {L : List Bool} {i : Nat} {b : Bool} (h : i < L.length) (hb : L[i] = b) (l r : Nat) (h' : i < ((L.set l b).set r b).length) : ((L.set l b).set r b)[i] = b := by
 rw [List.getElem_set]; split
 ·rfl
 ·exact getSet h hb l _
theorem negStep5 {q : List TNode} {i : Nat} (h : i < q.length) (L : List Bool) {l : Nat} (h5 : q[i].fOp = 5) (hl : q[i].fLeft = (l : Int)) : negStep q i L = L.set l true := by
 simp [negStep, List.getElem?_eq_getElem h, h5, hl]
theorem negStep67 {q : List TNode} {i : Nat} (h : i < q.length) (L : List Bool) (hi : i < L.length) {l m : Nat} (h5 : ¬ q[i].fOp = 5) (h67 : q[i].fOp = 6 ∨ q[i].fOp = 7) (hl : q[i].fLeft = (l : Int)) (hm : q[i].fRight = (m : Int)) : negStep q i L = (L.set l L[i]).set m L[i] := by
 have h2 : isTwo q[i] = true := by unfold isTwo; rcases h67 with h | h <;> simp [h]
 simp only [negStep, List.getElem?_eq_getElem h, h5, if_false, h2, if_true, hl, hm, Int.toNat_natCast, getB L i hi]
theorem negStepNo {q : List TNode} {i : Nat} (h : i < q.length) (L : List Bool) (h5 : ¬ q[i].fOp = 5) (h67 : ¬ (q[i].fOp = 6 ∨ q[i].fOp = 7)) : negStep q i L = L := by
 have h2 : isTwo q[i] = false := by
  unfold isTwo
  have h6 : ¬ q[i].fOp = 6 := fun h => h67 (.inl h)
  have h7 : ¬ q[i].fOp = 7 := fun h => h67 (.inr h)
  simp [h6, h7]
 simp only [negStep, List.getElem?_eq_getElem h, h5, if_false, h2, Bool.false_eq_true]
theorem implNeg_ok (q : List TNode) (hq : okQ q = true) (hw : wNodeS q ≤ 4300000) : FnC Tryz.prog 313 [.o (.d (.sl (q.map encNode)))] (.o (.w 4 1 ((negs q).map encB))) := by
 have hl9 := okQ_len hq
 refine ent Tryz.func313 rfl Tryz.call313 rfl (fun C => ?_); simp only [go_sem, st0, Tryz.ntmps313]
 have q0 := @hq; refine w1_1 (implIsValidQuery_ok q hw) ?_
 refine WP_lp (α := Nat) (fun m => [(4, oi ((m : Int) - 1))]) (fun m => [(0, .row 4 1 ((negJ q (q.length - m)).map encB) true)]) (fun m => m ≤ q.length) (fun m => m) q.length (fun _ => ?_) ?_ ?_ (fun m hm => ?_)
 ·simp only [go_sem]
 ·simp only [go_sem]; simp [negJ, encB]
 ·simp
 ·simp only [go_sem]
  refine w0_0 ?_
  refine cnd rfl (fun h => ?_) (fun h => ?_)
  ·simp only [decide_eq_true_eq] at h
   obtain ⟨i, rfl⟩ : ∃ i, m = i + 1 := ⟨m - 1, by omega⟩
   have hx : ((i + 1 : Nat) : Int) - 1 = (i : Int) := by omega
   have hi : i < q.length := by omega
   have hst := negJ_step q i hi
   have hLl := negJ_len q (q.length - (i + 1))
   generalize negJ q (q.length - (i + 1)) = L at *
   have hiL : i < L.length := by omega
   have hok := okQ_at hq (List.getElem?_eq_getElem hi)
   have hop := okNode_op hok
   by_cases h5 : q[i].fOp = 5
   ·obtain ⟨l, hl, hli⟩ := okNode_left hok (.inl h5)
    have hlL : l < L.length := by omega
    rw [negStep5 hi L h5 hl] at hst
    cases hb : L[i]
    all_goals
     have q0 := @hx; have q1 := @hi; have q2 := @hiL; have q3 := @hb; have q4 := @h5; have q5 := @hl; have q6 := @hlL; have q7 := @decide_true; have q8 := @decide_false; have q9 := @Int.toNat_natCast; refine w10_0 ?_
     refine L_next i ?_ ?_ ?_
     ·simp only [go_sem, hst]; simp [encB]
     ·omega
     ·omega
   by_cases h67 : q[i].fOp = 6 ∨ q[i].fOp = 7
   ·obtain ⟨l, hl, hli⟩ := okNode_left hok (.inr h67)
    obtain ⟨r, hr, hri⟩ := okNode_right hok h67
    have hlL : l < L.length := by omega
    have hrL : r < L.length := by omega
    rw [negStep67 hi L hiL h5 h67 hl hr] at hst
    by_cases h6 : q[i].fOp = 6
    ·cases hb : L[i]
     all_goals
      rw [hb] at hst
      have hrL1 : r < (L.set l false).length := by simpa using hrL
      have hrL2 : r < (L.set l true).length := by simpa using hrL
      repeat' (with_reducible first | refine nY ?_ | (refine mX ?_; try simp only [go_sem, hx, hi, hiL, hb, h5, h6, hl, hr, hlL, hrL, setBF, setBT, hrL1, hrL2, decide_true, decide_false, Int.toNat_natCast]) | refine kO ?_ (by decide) | (refine rS [15, 17] [] (by simp only [go_sem]; rfl) (by simp only [go_sem]; rfl) (by decide +kernel) ?_ ?_; (focus simp only [go_sem]; done)) | refine st_cons (aX ?_) (uX ?_) | refine st_nil (aX ?_) ?_ | (refine uA ?_; simp only [go_sem, hx, hi, hiL, hb, h5, h6, hl, hr, hlL, hrL, setBF, setBT, hrL1, hrL2, decide_true, decide_false, Int.toNat_natCast]; (repeat' first | omega | refine And.intro ?_ ?_); done) | refine regd (by kernel_rfl) ?_ | (refine And.intro ?_ ?_; focus omega))
      refine L_next i ?_ ?_ ?_
      ·simp only [go_sem, hst]; simp [encB]
      ·omega
      ·omega
    ·have h7 : q[i].fOp = 7 := by omega
     cases hb : L[i]
     all_goals
      rw [hb] at hst
      have hrL1 : r < (L.set l false).length := by simpa using hrL
      have hrL2 : r < (L.set l true).length := by simpa using hrL
      repeat' (with_reducible first | refine nY ?_ | (refine mX ?_; try simp only [go_sem, hx, hi, hiL, hb, h5, h6, h7, hl, hr, hlL, hrL, setBF, setBT, hrL1, hrL2, decide_true, decide_false, Int.toNat_natCast]) | refine kO ?_ (by decide) | (refine rS [15, 17] [] (by simp only [go_sem]; rfl) (by simp only [go_sem]; rfl) (by decide +kernel) ?_ ?_; (focus simp only [go_sem]; done)) | refine st_cons (aX ?_) (uX ?_) | refine st_nil (aX ?_) ?_ | (refine uA ?_; simp only [go_sem, hx, hi, hiL, hb, h5, h6, h7, hl, hr, hlL, hrL, setBF, setBT, hrL1, hrL2, decide_true, decide_false, Int.toNat_natCast]; (repeat' first | omega | refine And.intro ?_ ?_); done) | refine regd (by kernel_rfl) ?_ | (refine And.intro ?_ ?_; focus omega))
      refine L_next i ?_ ?_ ?_
      ·simp only [go_sem, hst]; simp [encB]
      ·omega
      ·omega
   ·have h6 : ¬ q[i].fOp = 6 := fun h => h67 (.inl h)
    have h7 : ¬ q[i].fOp = 7 := fun h => h67 (.inr h)
    rw [negStepNo hi L h5 h67] at hst
    cases hb : L[i]
    all_goals
     have q0 := @hx; have q1 := @hi; have q2 := @hiL; have q3 := @hb; have q4 := @h5; have q5 := @h6; have q6 := @h7; have q7 := @decide_true; have q8 := @decide_false; have q9 := @Int.toNat_natCast; refine w10_0 ?_
     refine L_next i ?_ ?_ ?_
     ·simp only [go_sem, hst]; simp [encB]
     ·omega
     ·omega
  ·simp only [decide_eq_false_iff_not] at h
   have e : m = 0 := by omega
   subst e
   refine w0_0 ?_
   exact retK_ret ⟨⟨_, rfl, by simp only [go_sem, negs, Nat.sub_zero]⟩, trivial⟩
theorem specNeg_ok (q : List TNode) (hq : okQ q = true) (hw : wNodeS q ≤ 4300000) : FnC Tryz.prog 312 [.o (.d (.sl (q.map encNode)))] (.o (.w 4 1 ((negs q).map encB))) := by
 have hl9 := okQ_len hq
 refine ent Tryz.func312 rfl Tryz.call312 rfl (fun C => ?_); simp only [go_sem, st0, Tryz.ntmps312]
 have q0 := @hq; refine w1_1 (specIsValidQuery_ok q hw) ?_
 refine WP_lp (α := Nat) (fun m => [(4, oi ((m : Int) - 1))]) (fun m => [(0, .row 4 1 ((negJ q (q.length - m)).map encB) true)]) (fun m => m ≤ q.length) (fun m => m) q.length (fun _ => ?_) ?_ ?_ (fun m hm => ?_)
 ·simp only [go_sem]
 ·simp only [go_sem]; simp [negJ, encB]
 ·simp
 ·simp only [go_sem]
  refine w0_0 ?_
  refine cnd rfl (fun h => ?_) (fun h => ?_)
  ·simp only [decide_eq_true_eq] at h
   obtain ⟨i, rfl⟩ : ∃ i, m = i + 1 := ⟨m - 1, by omega⟩
   have hx : ((i + 1 : Nat) : Int) - 1 = (i : Int) := by omega
   have hi : i < q.length := by omega
   have hst := negJ_step q i hi
   have hLl := negJ_len q (q.length - (i + 1))
   generalize negJ q (q.length - (i + 1)) = L at *
   have hiL : i < L.length := by omega
   have hok := okQ_at hq (List.getElem?_eq_getElem hi)
   have hop := okNode_op hok
   by_cases h5 : q[i].fOp = 5
   ·obtain ⟨l, hl, hli⟩ := okNode_left hok (.inl h5)
    have hlL : l < L.length := by omega
    rw [negStep5 hi L h5 hl] at hst
    cases hb : L[i]
    all_goals
     have q0 := @hx; have q1 := @hi; have q2 := @hiL; have q3 := @hb; have q4 := @h5; have q5 := @hl; have q6 := @hlL; have q7 := @decide_true; have q8 := @decide_false; have q9 := @Int.toNat_natCast; refine w10_0 ?_
     refine L_next i ?_ ?_ ?_
     ·simp only [go_sem, hst]; simp [encB]
     ·omega
     ·omega
   by_cases h67 : q[i].fOp = 6 ∨ q[i].fOp = 7
   ·obtain ⟨l, hl, hli⟩ := okNode_left hok (.inr h67)
    obtain ⟨r, hr, hri⟩ := okNode_right hok h67
    have hlL : l < L.length := by omega
    have hrL : r < L.length := by omega
    rw [negStep67 hi L hiL h5 h67 hl hr] at hst
    by_cases h6 : q[i].fOp = 6
    ·cases hb : L[i]
     all_goals
      rw [hb] at hst
      have hs1 := getSet hiL hb l
      have hs2 := getSet2 hiL hb l r
      have hrL1 : r < (L.set l false).length := by simpa using hrL
      have hrL2 : r < (L.set l true).length := by simpa using hrL
      repeat' (with_reducible first | refine nY ?_ | (refine mX ?_; try simp only [go_sem, hx, hi, hiL, hb, h5, h6, hl, hr, hlL, hrL, setBF, setBT, hrL1, hrL2, hs1, hs2, decide_true, decide_false, Int.toNat_natCast]) | refine kO ?_ (by decide) | (refine rS [8] [] (by simp only [go_sem]; rfl) (by simp only [go_sem]; rfl) (by decide +kernel) ?_ ?_; (focus simp only [go_sem]; done)) | refine st_cons (aX ?_) (uX ?_) | refine st_nil (aX ?_) ?_ | (refine uA ?_; simp only [go_sem, hx, hi, hiL, hb, h5, h6, hl, hr, hlL, hrL, setBF, setBT, hrL1, hrL2, hs1, hs2, decide_true, decide_false, Int.toNat_natCast]; (repeat' first | omega | refine And.intro ?_ ?_); done) | refine regd (by kernel_rfl) ?_ | (refine And.intro ?_ ?_; focus omega))
      refine L_next i ?_ ?_ ?_
      ·simp only [go_sem, hst]; simp [encB]
      ·omega
      ·omega
    ·have h7 : q[i].fOp = 7 := by omega
     cases hb : L[i]
     all_goals
      rw [hb] at hst
      have hs1 := getSet hiL hb l
      have hs2 := getSet2 hiL hb l r
      have hrL1 : r < (L.set l false).length := by simpa using hrL
      have hrL2 : r < (L.set l true).length := by simpa using hrL
      repeat' (with_reducible first | refine nY ?_ | (refine mX ?_; try simp only [go_sem, hx, hi, hiL, hb, h5, h6, h7, hl, hr, hlL, hrL, setBF, setBT, hrL1, hrL2, hs1, hs2, decide_true, decide_false, Int.toNat_natCast]) | refine kO ?_ (by decide) | (refine rS [8] [] (by simp only [go_sem]; rfl) (by simp only [go_sem]; rfl) (by decide +kernel) ?_ ?_; (focus simp only [go_sem]; done)) | refine st_cons (aX ?_) (uX ?_) | refine st_nil (aX ?_) ?_ | (refine uA ?_; simp only [go_sem, hx, hi, hiL, hb, h5, h6, h7, hl, hr, hlL, hrL, setBF, setBT, hrL1, hrL2, hs1, hs2, decide_true, decide_false, Int.toNat_natCast]; (repeat' first | omega | refine And.intro ?_ ?_); done) | refine regd (by kernel_rfl) ?_ | (refine And.intro ?_ ?_; focus omega))
      refine L_next i ?_ ?_ ?_
      ·simp only [go_sem, hst]; simp [encB]
      ·omega
      ·omega
   ·have h6 : ¬ q[i].fOp = 6 := fun h => h67 (.inl h)
    have h7 : ¬ q[i].fOp = 7 := fun h => h67 (.inr h)
    rw [negStepNo hi L h5 h67] at hst
    cases hb : L[i]
    all_goals
     have q0 := @hx; have q1 := @hi; have q2 := @hiL; have q3 := @hb; have q4 := @h5; have q5 := @h6; have q6 := @h7; have q7 := @decide_true; have q8 := @decide_false; have q9 := @Int.toNat_natCast; refine w10_0 ?_
     refine L_next i ?_ ?_ ?_
     ·simp only [go_sem, hst]; simp [encB]
     ·omega
     ·omega
  ·simp only [decide_eq_false_iff_not] at h
   have e : m = 0 := by omega
   subst e
   refine w0_0 ?_
   exact retK_ret ⟨⟨_, rfl, by simp only [go_sem, negs, Nat.sub_zero]⟩, trivial⟩
end Go.Proofs.YtddimbdeggomaaaGreat
end
section
set_option maxRecDepth 100000
set_option maxHeartbeats 4000000
namespace Go.Proofs.YtddimbdeggomaaaGreat
open Go Go.Sx Go.RowKit Go.Proofs
theorem sel_eq (q : List TNode) (b : Bool) (k : Nat) (h : k < q.length) (h2 : k < (negs q).length) : sel q b k = if isDirOp q[k] && ((negs q)[k] == b) then [q[k].fName] else [] := by
 unfold sel; rw [List.getElem?_eq_getElem h, List.getElem?_eq_getElem h2]
theorem dirOp_ok (n : TNode) : FnC Tryz.prog 304 [gNode n] (ob (isDirOp n)) := by
 refine ent Tryz.func304 rfl Tryz.call304 rfl (fun C => ?_); simp only [go_sem, st0, Tryz.ntmps304]
 by_cases c8 : n.fOp = 8
 ·have hd : isDirOp n = true := by simp [isDirOp, inB, c8]
  have q0 := @c8; have q1 := @decide_true; refine w2_0 ?_
  exact retK_ret ⟨⟨_, rfl, by simp only [go_sem, hd]⟩, trivial⟩
 by_cases c9 : n.fOp = 9
 ·have hd : isDirOp n = true := by simp [isDirOp, inB, c9]
  have q0 := @c8; have q1 := @c9; have q2 := @decide_true; have q3 := @decide_false; refine w4_0 ?_
  exact retK_ret ⟨⟨_, rfl, by simp only [go_sem, hd]⟩, trivial⟩
 ·have hd : isDirOp n = false := by
   rw [← Bool.not_eq_true]
   simp only [isDirOp, inB, Bool.and_eq_true, decide_eq_true_eq]; omega
  have q0 := @c8; have q1 := @c9; have q2 := @decide_true; have q3 := @decide_false; refine w4_0 ?_
  exact retK_ret ⟨⟨_, rfl, by simp only [go_sem, hd]⟩, trivial⟩
theorem implDeps_ok (q : List TNode) (b : Bool) (hq : okQ q = true) (hw : wNodeS q ≤ 4300000) : FnC Tryz.prog 290 [.o (.d (.sl (q.map encNode))), ob b] (.o (.w 9 1 ((onceS (depsL q b)).map encS))) := by
 have hl9 := okQ_len hq
 have hnl := negs_len q
 refine ent Tryz.func290 rfl Tryz.call290 rfl (fun C => ?_); simp only [go_sem, st0, Tryz.ntmps290]
 refine w0_1 (implNeg_ok q hq hw) ?_
 refine WP_lp (α := Nat) (fun k => [(5, .o (.s 0)), (8, .o .u), (12, oi k)]) (fun k => [(0, .row 9 1 ((depsK q b k).map encS) true)]) (fun k => k ≤ q.length) (fun k => q.length - k) 0 (fun _ => ?_) ?_ ?_ (fun k hk => ?_)
 ·simp only [go_sem]
 ·simp only [go_sem]; simp [depsK]
 ·simp
 ·simp only [go_sem]
  refine w0_0 ?_
  refine cnd rfl (fun h1 => ?_) (fun h1 => ?_)
  ·simp only [decide_eq_true_eq, Int.ofNat_lt] at h1
   have h2 : k < (negs q).length := h1
   have h1 : k < q.length := by omega
   have hdl := depsK_len q b k
   have hs := sel_eq q b k h1 h2
   have ht := depsK_succ q b k
   rw [hs] at ht
   have hl1 : (depsK q b k).length + 1 ≤ 140737488355328 := by omega
   have hl2 : ((depsK q b k).length + 1) * 16 ≤ 140737488355328 := by omega
   cases hd : isDirOp q[k]
   ·simp only [hd, Bool.false_and, Bool.false_eq_true, if_false, List.append_nil] at ht
    have q0 := @h1; have q1 := @h2; have q2 := @hd; refine w3_1 (dirOp_ok q[k]) ?_
    refine L_next (k + 1) ?_ ?_ ?_
    ·simp only [go_sem, ht]; simp
    ·omega
    ·omega
   ·cases hx : (negs q)[k] <;> cases b
    all_goals
     simp only [hd, hx, Bool.true_and, Bool.true_beq, Bool.false_beq, Bool.not_true, Bool.not_false, Bool.false_eq_true, if_false, if_true, List.append_nil] at ht
     have q0 := @h1; have q1 := @h2; have q2 := @hd; have q3 := @hx; have q4 := @Bool.true_beq; have q5 := @Bool.false_beq; refine w6_1 (dirOp_ok q[k]) ?_
     refine L_next (k + 1) ?_ ?_ ?_
     ·simp only [go_sem, ht, List.map_append]; simp
     ·omega
     ·omega
  ·simp only [decide_eq_false_iff_not] at h1
   have e : k = q.length := by omega
   subst e
   have hdl := depsK_len q b q.length
   refine w0_1 (sortedOnce_ok (depsK q b q.length) (by omega)) ?_
   exact retK_ret ⟨⟨_, rfl, by simp only [go_sem, depsL]⟩, trivial⟩
theorem specDeps_ok (q : List TNode) (b : Bool) (hq : okQ q = true) (hw : wNodeS q ≤ 4300000) : FnC Tryz.prog 286 [.o (.d (.sl (q.map encNode))), ob b] (.o (.w 9 1 ((putL (depsL q b)).map encS))) := by
 have hl9 := okQ_len hq
 have hnl := negs_len q
 refine ent Tryz.func286 rfl Tryz.call286 rfl (fun C => ?_); simp only [go_sem, st0, Tryz.ntmps286]
 refine w0_1 (specNeg_ok q hq hw) ?_
 refine WP_frzd 5 0 rfl rfl ?_
 simp only [go_sem]
 refine WP_lp (α := Nat) (fun k => [(5, .o (.d (.sl ((putL (depsK q b k)).map encS)))), (7, oi k), (8, .o .u)]) (fun _ => []) (fun k => k ≤ q.length) (fun k => q.length - k) 0 (fun _ => ?_) ?_ ?_ (fun k hk => ?_)
 ·simp only [go_sem]
 ·simp only [go_sem]; simp [depsK, putL]
 ·simp
 ·simp only [go_sem]
  have hdl := depsK_len q b k
  have hlen : (putL (depsK q b k)).length ≤ 4300000 := by have h1 := putL_len (depsK q b k); omega
  refine w0_0 ?_
  refine cnd rfl (fun h1 => ?_) (fun h1 => ?_)
  ·simp only [decide_eq_true_eq, Int.ofNat_lt] at h1
   have h2 : k < (negs q).length := h1
   have h1 : k < q.length := by omega
   have hs := sel_eq q b k h1 h2
   have ht := depsK_succ q b k
   rw [hs] at ht
   cases hd : isDirOp q[k]
   ·simp only [hd, Bool.false_and, Bool.false_eq_true, if_false, List.append_nil] at ht
    have q0 := @h1; have q1 := @h2; have q2 := @hd; refine w3_1 (show FnC Tryz.prog _ _ (ob (isDirOp q[k])) from l01In_ok q[k].fOp 8 9) ?_
    refine L_next (k + 1) ?_ ?_ ?_
    ·simp only [go_sem, ht]; simp
    ·omega
    ·omega
   ·cases hx : (negs q)[k] <;> cases b
    all_goals
     simp only [hd, hx, Bool.true_and, Bool.true_beq, Bool.false_beq, Bool.not_true, Bool.not_false, Bool.false_eq_true, if_false, if_true, List.append_nil] at ht
     have q0 := @h1; have q1 := @h2; have q2 := @hd; have q3 := @hx; have q4 := @Bool.true_beq; have q5 := @Bool.false_beq; refine w6_2 (show FnC Tryz.prog _ _ (ob (isDirOp q[k])) from l01In_ok q[k].fOp 8 9) (l04Put_ok (putL (depsK q _ k)) q[k].fName hlen) ?_
     refine L_next (k + 1) ?_ ?_ ?_
     ·simp only [go_sem, ht, putL_app]; simp
     ·omega
     ·omega
  ·simp only [decide_eq_false_iff_not] at h1
   have e : k = q.length := by omega
   subst e
   refine w0_0 ?_
   exact retK_ret ⟨⟨_, rfl, by simp only [go_sem, depsL]⟩, trivial⟩
theorem implPos_ok (q : List TNode) (hq : okQ q = true) (hw : wNodeS q ≤ 4300000) : FnC Tryz.prog 241 [.o (.d (.sl (q.map encNode)))] (.o (.w 9 1 ((onceS (depsL q false)).map encS))) := by
 refine ent Tryz.func241 rfl Tryz.call241 rfl (fun C => ?_); simp only [go_sem, st0, Tryz.ntmps241]
 refine w0_1 (implDeps_ok q false hq hw) ?_
 exact retK_ret ⟨⟨_, rfl, by simp only [go_sem]⟩, trivial⟩
theorem implNegD_ok (q : List TNode) (hq : okQ q = true) (hw : wNodeS q ≤ 4300000) : FnC Tryz.prog 242 [.o (.d (.sl (q.map encNode)))] (.o (.w 9 1 ((onceS (depsL q true)).map encS))) := by
 refine ent Tryz.func242 rfl Tryz.call242 rfl (fun C => ?_); simp only [go_sem, st0, Tryz.ntmps242]
 refine w0_1 (implDeps_ok q true hq hw) ?_
 exact retK_ret ⟨⟨_, rfl, by simp only [go_sem]⟩, trivial⟩
theorem specPos_ok (q : List TNode) (hq : okQ q = true) (hw : wNodeS q ≤ 4300000) : FnC Tryz.prog 234 [.o (.d (.sl (q.map encNode)))] (.o (.w 9 1 ((putL (depsL q false)).map encS))) := by
 refine ent Tryz.func234 rfl Tryz.call234 rfl (fun C => ?_); simp only [go_sem, st0, Tryz.ntmps234]
 refine w0_1 (specDeps_ok q false hq hw) ?_
 exact retK_ret ⟨⟨_, rfl, by simp only [go_sem]⟩, trivial⟩
theorem specNegD_ok (q : List TNode) (hq : okQ q = true) (hw : wNodeS q ≤ 4300000) : FnC Tryz.prog 236 [.o (.d (.sl (q.map encNode)))] (.o (.w 9 1 ((putL (depsL q true)).map encS))) := by
 refine ent Tryz.func236 rfl Tryz.call236 rfl (fun C => ?_); simp only [go_sem, st0, Tryz.ntmps236]
 refine w0_1 (specDeps_ok q true hq hw) ?_
 exact retK_ret ⟨⟨_, rfl, by simp only [go_sem]⟩, trivial⟩
end Go.Proofs.YtddimbdeggomaaaGreat
end
section
set_option maxRecDepth 100000
set_option maxHeartbeats 4000000
namespace Go.Proofs.YtddimbdeggomaaaGreat
def lv (L : List Nat) (i : Nat) : Nat := L.getD i 0
structure Clo (n : Nat) (E : Nat → Nat → Nat → Prop) (F : List Nat) : Prop where
 len : F.length = n
 le : ∀ i k w, E i k w → lv F k + w ≤ lv F i
structure Edges (n : Nat) (E : Nat → Nat → Nat → Prop) : Prop where
 ok : ∀ i k w, E i k w → i < n ∧ k < n ∧ w ≤ 1
structure Least (n : Nat) (E : Nat → Nat → Nat → Prop) (L : List Nat) : Prop where
 clo : Clo n E L
 le : ∀ F, Clo n E F → ∀ i, lv L i ≤ lv F i
theorem lv_ext {L M : List Nat} (h : L.length = M.length) (hi : ∀ i, lv L i = lv M i) : L = M := by
 apply List.ext_getElem h
 intro i h1 h2
 have := hi i
 simpa [lv, List.getD_eq_getElem?_getD, h1, h2] using this
theorem least_unique {n : Nat} {E : Nat → Nat → Nat → Prop} {L M : List Nat} (h : Least n E L) (k : Least n E M) : L = M :=
 lv_ext (by rw [h.clo.len, k.clo.len]) fun i => Nat.le_antisymm (h.le M k.clo i) (k.le L h.clo i)
open Classical in
noncomputable def levs (n : Nat) (E : Nat → Nat → Nat → Prop) : List Nat := if h : ∃ L, Least n E L then h.choose else []
theorem levs_eq {n : Nat} {E : Nat → Nat → Nat → Prop} {L : List Nat} (h : Least n E L) : levs n E = L := by
 have he : ∃ L, Least n E L := ⟨L, h⟩
 unfold levs
 rw [dif_pos he]
 exact least_unique he.choose_spec h
theorem levs_no {n : Nat} {E : Nat → Nat → Nat → Prop} (h : ¬ ∃ F, Clo n E F) : levs n E = [] := by
 unfold levs
 rw [dif_neg (fun ⟨L, hL⟩ => h ⟨L, hL.clo⟩)]
open Classical in
noncomputable def strat (n : Nat) (E : Nat → Nat → Nat → Prop) : Bool := if ∃ F, Clo n E F then true else false
theorem strat_yes {n : Nat} {E : Nat → Nat → Nat → Prop} {L : List Nat} (h : Clo n E L) : strat n E = true := by
 unfold strat; rw [if_pos ⟨L, h⟩]
theorem strat_no {n : Nat} {E : Nat → Nat → Nat → Prop} (h : ¬ ∃ F, Clo n E F) : strat n E = false := by
 unfold strat; rw [if_neg h]
theorem clo_small {n : Nat} {E : Nat → Nat → Nat → Prop} (hE : Edges n E) {F : List Nat} (h : Clo n E F) : ∃ G, Clo n E G ∧ ∀ i, i < n → lv G i < n := by
 let r (i : Nat) : Nat := ((List.range n).filter fun j => decide (lv F j < lv F i)).length
 have hr : ∀ i, i < n → lv ((List.range n).map r) i = r i := fun i hi => by simp [lv, List.getD_eq_getElem?_getD, hi]
 have sub : ∀ (p q : Nat → Bool) (l : List Nat), (∀ j, p j = true → q j = true) → (l.filter p).length ≤ (l.filter q).length := by
  intro p q l hpq
  induction l with
  | nil => simp
  | cons x l ih =>
   simp only [List.filter_cons]
   cases hp : p x
   ·cases hq : q x <;> simp <;> omega
   ·rw [hpq x hp]; simpa using ih
 have sub1 : ∀ (p q : Nat → Bool) (l : List Nat) (x : Nat), x ∈ l → (∀ j, p j = true → q j = true) → p x = false → q x = true → (l.filter p).length < (l.filter q).length := by
  intro p q l x hx hpq hp hq
  induction l with
  | nil => simp at hx
  | cons y l ih =>
   simp only [List.filter_cons]
   rcases List.mem_cons.1 hx with rfl | hx
   ·rw [hp, hq]
    have := sub p q l hpq
    simp
    omega
   ·have := ih hx
    cases hp' : p y
    ·cases hq' : q y <;> simp <;> omega
    ·rw [hpq y hp']; simpa using this
 refine ⟨(List.range n).map r, ⟨by simp, fun i k w he => ?_⟩, fun i hi => ?_⟩
 ·obtain ⟨hi, hk, hw⟩ := hE.ok i k w he
  rw [hr i hi, hr k hk]
  have hle := h.le i k w he
  rcases Nat.lt_or_ge w 1 with hw0 | hw1
  ·have hw' : w = 0 := by omega
   subst hw'
   exact sub _ _ _ fun j hj => by simp only [decide_eq_true_eq] at hj ⊢; omega
  ·have hw' : w = 1 := by omega
   subst hw'
   exact sub1 _ _ _ k (List.mem_range.2 hk) (fun j hj => by simp only [decide_eq_true_eq] at hj ⊢; omega) (by simp) (by simp only [decide_eq_true_eq]; omega)
 ·rw [hr i hi]
  have := sub1 (fun j => decide (lv F j < lv F i)) (fun _ => true) (List.range n) i (List.mem_range.2 hi) (fun _ _ => rfl) (by simp) rfl
  rw [List.filter_eq_self.2 (fun _ _ => rfl), List.length_range] at this
  exact this
theorem lv_set (L : List Nat) (i v j : Nat) (h : i < L.length) : lv (L.set i v) j = if j = i then v else lv L j := by
 unfold lv
 simp only [List.getD_eq_getElem?_getD, List.getElem?_set]
 by_cases e : i = j
 ·subst e; simp [h]
 ·rw [if_neg e, if_neg (fun e' => e e'.symm)]
def sumN : List Nat → Nat
 | [] => 0
 | x :: l => x + sumN l
theorem sumN_set (L : List Nat) (i v : Nat) (h : i < L.length) : sumN (L.set i v) + lv L i = sumN L + v := by
 induction L generalizing i with
 | nil => simp at h
 | cons x l ih =>
  cases i with
  | zero => simp [sumN, lv]; omega
  | succ i =>
   have := ih i (by simpa using h)
   simp only [List.set_cons_succ, sumN, lv, List.getD_cons_succ] at this ⊢
   omega
theorem sumN_le (L : List Nat) (c : Nat) (h : ∀ i, i < L.length → lv L i ≤ c) : sumN L ≤ L.length * c := by
 induction L with
 | nil => simp [sumN]
 | cons x l ih =>
  have h0 : x ≤ c := by simpa [lv] using h 0 (by simp)
  have h1 := ih fun i hi => by simpa [lv] using h (i + 1) (by simpa using hi)
  simp only [sumN, List.length_cons, Nat.succ_mul]
  omega
theorem lv_rep (n i : Nat) : lv (List.replicate n 0) i = 0 := by
 simp only [lv, List.getD_eq_getElem?_getD, List.getElem?_replicate]
 split <;> rfl
def up1 (i k w : Nat) (L : List Nat) : List Nat := if lv L k + w > lv L i then L.set i (lv L k + w) else L
theorem up1_len (i k w : Nat) (L : List Nat) : (up1 i k w L).length = L.length := by unfold up1; split <;> simp
theorem up1_grow (i k w : Nat) (L : List Nat) (h : i < L.length) : up1 i k w L = L ∨ sumN L < sumN (up1 i k w L) := by
 unfold up1
 split
 ·rename_i hc
  have := sumN_set L i (lv L k + w) h
  right; omega
 ·exact .inl rfl
theorem up1_same {i k w : Nat} {L : List Nat} (hl : i < L.length) (h : up1 i k w L = L) : lv L k + w ≤ lv L i := by
 apply Classical.byContradiction
 intro hn
 have hc : lv L k + w > lv L i := by omega
 unfold up1 at h
 rw [if_pos hc] at h
 have := lv_set L i (lv L k + w) i hl
 rw [h, if_pos rfl] at this
 omega
theorem up1_below {n : Nat} {E : Nat → Nat → Nat → Prop} {F : List Nat} (hF : Clo n E F) {i k w : Nat} (he : E i k w) {L : List Nat} (hl : i < L.length) (h : ∀ j, lv L j ≤ lv F j) : ∀ j, lv (up1 i k w L) j ≤ lv F j := by
 intro j
 unfold up1
 split
 ·rw [lv_set L i _ j hl]
  split
  ·rename_i e; subst e
   have := hF.le j k w he
   have := h k
   omega
  ·exact h j
 ·exact h j
theorem up1_bound {i k w : Nat} {L : List Nat} {B : Nat} (hl : i < L.length) (hw : w ≤ 1) (h : ∀ j, lv L j ≤ B) : ∀ j, lv (up1 i k w L) j ≤ B + 1 := by
 intro j
 unfold up1
 split
 ·rw [lv_set L i _ j hl]
  split
  ·have := h k; omega
  ·have := h j; omega
 ·have := h j; omega
def ups : List (Nat × Nat × Nat) → List Nat → List Nat
 | [], L => L
 | (i, k, w) :: l, L => ups l (up1 i k w L)
theorem ups_app (l m : List (Nat × Nat × Nat)) (L : List Nat) : ups (l ++ m) L = ups m (ups l L) := by
 induction l generalizing L with
 | nil => rfl
 | cons x l ih => obtain ⟨i, k, w⟩ := x; simp only [List.cons_append, ups, ih]
theorem ups_len (l : List (Nat × Nat × Nat)) (L : List Nat) : (ups l L).length = L.length := by
 induction l generalizing L with
 | nil => rfl
 | cons x l ih => obtain ⟨i, k, w⟩ := x; simp only [ups, ih, up1_len]
theorem ups_grow : ∀ (l : List (Nat × Nat × Nat)) (L : List Nat), (∀ x ∈ l, x.1 < L.length) → (ups l L = L ∧ ∀ x ∈ l, up1 x.1 x.2.1 x.2.2 L = L) ∨ sumN L < sumN (ups l L)
 | [], L, _ => .inl ⟨rfl, fun x h => by simp at h⟩
 | (i, k, w) :: l, L, h => by
  have hi := h (i, k, w) (by simp)
  have hl := ups_grow l (up1 i k w L) fun x hx => by rw [up1_len]; exact h x (by simp [hx])
  simp only [ups]
  rcases up1_grow i k w L hi with e | g
  ·rw [e] at hl ⊢
   rcases hl with ⟨h1, h2⟩ | h1
   ·refine .inl ⟨h1, fun x hx => ?_⟩
    rcases List.mem_cons.1 hx with rfl | hx
    ·exact e
    ·exact h2 x hx
   ·exact .inr h1
  ·rcases hl with ⟨h1, _⟩ | h1
   ·rw [h1]; exact .inr g
   ·exact .inr (by omega)
theorem ups_below {n : Nat} {E : Nat → Nat → Nat → Prop} {F : List Nat} (hE : Edges n E) (hF : Clo n E F) : ∀ (l : List (Nat × Nat × Nat)) (L : List Nat), L.length = n → (∀ x ∈ l, E x.1 x.2.1 x.2.2) → (∀ j, lv L j ≤ lv F j) → ∀ j, lv (ups l L) j ≤ lv F j
 | [], L, _, _, h => h
 | (i, k, w) :: l, L, hl, he, h => by
  have e := he (i, k, w) (by simp)
  exact ups_below hE hF l _ (by rw [up1_len]; exact hl) (fun x hx => he x (by simp [hx])) (up1_below hF e (by rw [hl]; exact (hE.ok _ _ _ e).1) h)
theorem ups_bound : ∀ (l : List (Nat × Nat × Nat)) (L : List Nat) (B : Nat), (∀ x ∈ l, x.1 < L.length ∧ x.2.2 ≤ 1) → (∀ j, lv L j ≤ B) → ∀ j, lv (ups l L) j ≤ B + l.length
 | [], L, B, _, h => h
 | (i, k, w) :: l, L, B, hx, h => by
  have e := hx (i, k, w) (by simp)
  have := ups_bound l (up1 i k w L) (B + 1) (fun x hx' => by rw [up1_len]; exact hx x (by simp [hx'])) (up1_bound e.1 e.2 h)
  intro j
  have := this j
  simp only [ups, List.length_cons]
  omega
def upsN (l : List (Nat × Nat × Nat)) : Nat → List Nat → List Nat
 | 0, L => L
 | r + 1, L => ups l (upsN l r L)
theorem upsN_len (l : List (Nat × Nat × Nat)) (r : Nat) (L : List Nat) : (upsN l r L).length = L.length := by
 induction r with
 | zero => rfl
 | succ r ih => simp only [upsN, ups_len, ih]
theorem upsN_bound (l : List (Nat × Nat × Nat)) (L : List Nat) (hx : ∀ x ∈ l, x.1 < L.length ∧ x.2.2 ≤ 1) (h : ∀ j, lv L j = 0) : ∀ r j, lv (upsN l r L) j ≤ r * l.length
 | 0, j => by simp [upsN, h j]
 | r + 1, j => by
  have := ups_bound l (upsN l r L) (r * l.length) (fun x hx' => by rw [upsN_len]; exact hx x hx') (upsN_bound l L hx h r) j
  simp only [upsN, Nat.succ_mul]
  omega
theorem upsN_ends {n : Nat} {E : Nat → Nat → Nat → Prop} (hE : Edges n E) (l : List (Nat × Nat × Nat)) (hl : ∀ x, x ∈ l ↔ E x.1 x.2.1 x.2.2) (R : Nat) (hR : n * n < R) :
    let L := upsN l R (List.replicate n 0)
    if ups l L = L then Least n E L else ¬ ∃ F, Clo n E F := by
 intro L
 have hlen : ∀ r, (upsN l r (List.replicate n 0)).length = n := fun r => by rw [upsN_len]; simp
 have hbel : ∀ F, Clo n E F → ∀ r j, lv (upsN l r (List.replicate n 0)) j ≤ lv F j := fun F hF r => by
  induction r with
  | zero => intro j; simp only [upsN, lv_rep]; omega
  | succ r ih => exact ups_below hE hF l _ (hlen r) (fun x hx => (hl x).1 hx) ih
 have hix : ∀ r, ∀ x ∈ l, x.1 < (upsN l r (List.replicate n 0)).length := fun r x hx => by rw [hlen]; exact (hE.ok _ _ _ ((hl x).1 hx)).1
 have hgrow : ∀ r, ups l (upsN l r (List.replicate n 0)) = upsN l r (List.replicate n 0) ∨ r ≤ sumN (upsN l r (List.replicate n 0)) := fun r => by
  induction r with
  | zero => exact .inr (by omega)
  | succ r ih =>
   rcases ih with e | h
   ·left; simp only [upsN]; rw [e, e]
   ·rcases ups_grow l _ (hix r) with ⟨e, _⟩ | g
    ·left; simp only [upsN]; rw [e, e]
    ·right; simp only [upsN]; omega
 by_cases hs : ups l L = L
 ·rw [if_pos hs]
  refine ⟨⟨hlen R, fun i k w he => ?_⟩, fun F hF => hbel F hF R⟩
  rcases ups_grow l L (hix R) with ⟨_, h⟩ | g
  ·exact up1_same (by rw [hlen]; exact (hE.ok _ _ _ he).1) (h (i, k, w) ((hl (i, k, w)).2 he))
  ·rw [hs] at g; omega
 ·rw [if_neg hs]
  rintro ⟨F, hF⟩
  obtain ⟨G, hG, hsm⟩ := clo_small hE hF
  rcases hgrow R with e | h
  ·exact hs e
  ·have h1 := sumN_le L n fun i hi => by
    have h2 := hbel G hG R i
    have h3 := hsm i (by rw [← hlen R]; exact hi)
    show lv (upsN l R (List.replicate n 0)) i ≤ n
    omega
   rw [hlen R] at h1
   show False
   have : sumN L = sumN (upsN l R (List.replicate n 0)) := rfl
   omega
end Go.Proofs.YtddimbdeggomaaaGreat
end
section
set_option maxRecDepth 100000
set_option maxHeartbeats 4000000
namespace Go.Proofs.YtddimbdeggomaaaGreat
def placeD (d : List TDir) (nm : ByteArray) : Int := idxP (fun x => decide (x.fName = nm)) d 0
theorem placeD_cases (d : List TDir) (nm : ByteArray) : placeD d nm = -1 ∨ ∃ k : Nat, placeD d nm = (k : Int) ∧ k < d.length := by
 unfold placeD
 rcases idxP_fst (fun x => decide (x.fName = nm)) d 0 with ⟨_, h, _⟩ | ⟨h, hl⟩
 ·exact .inl h
 ·exact .inr ⟨_, by rw [h]; simp, hl⟩
def edgesN (d : List TDir) (i w : Nat) (names : List ByteArray) : List (Nat × Nat × Nat) := names.flatMap fun nm => if 0 ≤ placeD d nm then [(i, (placeD d nm).toNat, w)] else []
theorem mem_edgesN (d : List TDir) (i w : Nat) (names : List ByteArray) (x : Nat × Nat × Nat) : x ∈ edgesN d i w names ↔ ∃ nm ∈ names, ∃ k : Nat, placeD d nm = (k : Int) ∧ x = (i, k, w) := by
 unfold edgesN
 simp only [List.mem_flatMap]
 constructor
 ·rintro ⟨nm, h1, h2⟩
  split at h2
  ·rename_i hp
   refine ⟨nm, h1, (placeD d nm).toNat, by omega, by simpa using h2⟩
  ·simp at h2
 ·rintro ⟨nm, h1, k, h2, rfl⟩
  refine ⟨nm, h1, ?_⟩
  rw [if_pos (by omega), h2]; simp
def edgesD (d : List TDir) (i : Nat) : List (Nat × Nat × Nat) := match d[i]? with
 | none => []
 | some x => edgesN d i 0 (putL (depsL x.fQuery false)) ++ edgesN d i 1 (putL (depsL x.fQuery true))
def edgesA (d : List TDir) : List (Nat × Nat × Nat) := (List.range d.length).flatMap (edgesD d)
def EE (d : List TDir) (i k w : Nat) : Prop := (i, k, w) ∈ edgesA d
theorem EE_iff (d : List TDir) (i k w : Nat) : EE d i k w ↔ ∃ x, d[i]? = some x ∧ ((w = 0 ∧ ∃ nm ∈ depsL x.fQuery false, placeD d nm = (k : Int)) ∨ (w = 1 ∧ ∃ nm ∈ depsL x.fQuery true, placeD d nm = (k : Int))) := by
 unfold EE edgesA
 simp only [List.mem_flatMap, List.mem_range]
 constructor
 ·rintro ⟨j, hj, h⟩
  unfold edgesD at h
  rw [List.getElem?_eq_getElem hj] at h
  simp only [List.mem_append, mem_edgesN, mem_putL] at h
  rcases h with ⟨nm, h1, k', h2, h3⟩ | ⟨nm, h1, k', h2, h3⟩
  ·cases h3; exact ⟨_, List.getElem?_eq_getElem hj, .inl ⟨rfl, nm, h1, h2⟩⟩
  ·cases h3; exact ⟨_, List.getElem?_eq_getElem hj, .inr ⟨rfl, nm, h1, h2⟩⟩
 ·rintro ⟨x, hx, h⟩
  refine ⟨i, (List.getElem?_eq_some_iff.1 hx).1, ?_⟩
  unfold edgesD
  rw [hx]
  simp only [List.mem_append, mem_edgesN, mem_putL]
  rcases h with ⟨rfl, nm, h1, h2⟩ | ⟨rfl, nm, h1, h2⟩
  ·exact .inl ⟨nm, h1, k, h2, rfl⟩
  ·exact .inr ⟨nm, h1, k, h2, rfl⟩
theorem EE_edges (d : List TDir) : Edges d.length (EE d) := ⟨fun i k w h => by
 obtain ⟨x, hx, h⟩ := (EE_iff d i k w).1 h
 refine ⟨(List.getElem?_eq_some_iff.1 hx).1, ?_, by rcases h with ⟨rfl, _⟩ | ⟨rfl, _⟩ <;> omega⟩
 obtain ⟨nm, hp⟩ : ∃ nm, placeD d nm = (k : Int) := by rcases h with ⟨_, nm, _, h⟩ | ⟨_, nm, _, h⟩ <;> exact ⟨nm, h⟩
 rcases placeD_cases d nm with h | ⟨k', h, hl⟩ <;> omega⟩
def abv (d : List TDir) (L : List Nat) (w : Nat) : List ByteArray → Nat → Nat
 | [], m => m
 | nm :: r, m => abv d L w r (if 0 ≤ placeD d nm then (if lv L (placeD d nm).toNat + w > m then lv L (placeD d nm).toNat + w else m) else m)
theorem abv_drop (d : List TDir) (L : List Nat) (w : Nat) (l : List ByteArray) (k m : Nat) (h : k < l.length) : abv d L w (l.drop k) m = abv d L w (l.drop (k + 1)) (if 0 ≤ placeD d l[k] then (if lv L (placeD d l[k]).toNat + w > m then lv L (placeD d l[k]).toNat + w else m) else m) := by
 rw [List.drop_eq_getElem_cons h, abv]
theorem abv_le (d : List TDir) (L : List Nat) (w c : Nat) : ∀ (l : List ByteArray) (m : Nat), abv d L w l m ≤ c ↔ m ≤ c ∧ ∀ nm ∈ l, ∀ k : Nat, placeD d nm = (k : Int) → lv L k + w ≤ c
 | [], m => by simp [abv]
 | nm :: r, m => by
  rw [abv, abv_le d L w c r]
  constructor
  ·rintro ⟨h1, h2⟩
   refine ⟨?_, fun n hn k hk => ?_⟩
   ·split at h1
    ·split at h1 <;> omega
    ·exact h1
   ·rcases List.mem_cons.1 hn with rfl | hn
    ·have e : (placeD d n).toNat = k := by omega
     rw [if_pos (by omega), e] at h1
     split at h1 <;> omega
    ·exact h2 n hn k hk
  ·rintro ⟨h1, h2⟩
   refine ⟨?_, fun n hn k hk => h2 n (List.mem_cons_of_mem _ hn) k hk⟩
   split
   ·rename_i hp
    have := h2 nm (by simp) (placeD d nm).toNat (by omega)
    split <;> omega
   ·exact h1
def leastOf (d : List TDir) (L : List Nat) (x : TDir) : Nat := if abv d L 1 (onceS (depsL x.fQuery true)) 0 > abv d L 0 (onceS (depsL x.fQuery false)) 0 then abv d L 1 (onceS (depsL x.fQuery true)) 0 else abv d L 0 (onceS (depsL x.fQuery false)) 0
theorem leastOf_le (d : List TDir) (L : List Nat) (i c : Nat) (h : i < d.length) : leastOf d L d[i] ≤ c ↔ ∀ k w, EE d i k w → lv L k + w ≤ c := by
 have h0 := abv_le d L 0 c (onceS (depsL d[i].fQuery false)) 0
 have h1 := abv_le d L 1 c (onceS (depsL d[i].fQuery true)) 0
 have hm : leastOf d L d[i] ≤ c ↔ abv d L 0 (onceS (depsL d[i].fQuery false)) 0 ≤ c ∧ abv d L 1 (onceS (depsL d[i].fQuery true)) 0 ≤ c := by
  unfold leastOf; split <;> omega
 rw [hm, h0, h1]
 constructor
 ·rintro ⟨⟨_, a⟩, ⟨_, b⟩⟩ k w he
  obtain ⟨x, hx, he⟩ := (EE_iff d i k w).1 he
  rw [List.getElem?_eq_getElem h] at hx
  cases hx
  rcases he with ⟨rfl, nm, q1, q2⟩ | ⟨rfl, nm, q1, q2⟩
  ·exact a nm ((mem_onceS _ _).2 q1) k q2
  ·exact b nm ((mem_onceS _ _).2 q1) k q2
 ·intro a
  exact ⟨⟨by omega, fun nm q k hk => a k 0 ((EE_iff d i k 0).2 ⟨d[i], List.getElem?_eq_getElem h, .inl ⟨rfl, nm, (mem_onceS _ _).1 q, hk⟩⟩)⟩,
   ⟨by omega, fun nm q k hk => a k 1 ((EE_iff d i k 1).2 ⟨d[i], List.getElem?_eq_getElem h, .inr ⟨rfl, nm, (mem_onceS _ _).1 q, hk⟩⟩)⟩⟩
structure Low (d : List TDir) (L : List Nat) : Prop where
 len : L.length = d.length
 clo : ∀ F, Clo d.length (EE d) F → ∀ j, lv L j ≤ lv F j
 small : ∀ j, lv L j ≤ d.length
theorem Low.start (d : List TDir) : Low d (List.replicate d.length 0) := ⟨by simp, fun F _ j => by rw [lv_rep]; omega, fun j => by rw [lv_rep]; omega⟩
theorem Low.least_le {d : List TDir} {L : List Nat} (h : Low d L) {i : Nat} (hi : i < d.length) {F : List Nat} (hF : Clo d.length (EE d) F) : leastOf d L d[i] ≤ lv F i :=
 (leastOf_le d L i _ hi).2 fun k w he => by
  have h1 := hF.le i k w he
  have h2 := h.clo F hF k
  omega
theorem Low.over {d : List TDir} {L : List Nat} (h : Low d L) {i : Nat} (hi : i < d.length) (ho : leastOf d L d[i] > d.length) : ¬ ∃ F, Clo d.length (EE d) F := by
 rintro ⟨F, hF⟩
 obtain ⟨G, hG, hs⟩ := clo_small (EE_edges d) hF
 have h1 := h.least_le hi hG
 have h2 := hs i hi
 omega
theorem Low.set {d : List TDir} {L : List Nat} (h : Low d L) {i : Nat} (hi : i < d.length) (ho : ¬ leastOf d L d[i] > d.length) : Low d (L.set i (leastOf d L d[i])) := by
 have hl : i < L.length := by rw [h.len]; exact hi
 refine ⟨by simp [h.len], fun F hF j => ?_, fun j => ?_⟩
 ·rw [lv_set L i _ j hl]
  split
  ·rename_i e; subst e; exact h.least_le hi hF
  ·exact h.clo F hF j
 ·rw [lv_set L i _ j hl]
  split
  ·omega
  ·exact h.small j
theorem Low.done {d : List TDir} {L : List Nat} (h : Low d L) (hc : ∀ i, (hi : i < d.length) → leastOf d L d[i] ≤ lv L i) : Least d.length (EE d) L :=
 ⟨⟨h.len, fun i k w he => (leastOf_le d L i _ ((EE_edges d).ok i k w he).1).1 (hc i _) k w he⟩, h.clo⟩
theorem Low.sum {d : List TDir} {L : List Nat} (h : Low d L) : sumN L ≤ d.length * d.length := by
 have := sumN_le L d.length fun i _ => h.small i
 rwa [h.len] at this
end Go.Proofs.YtddimbdeggomaaaGreat
end
