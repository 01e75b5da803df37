/- Joined texts. -/
import Derived.Test.YtddimbdeggomaaaGreatZ12
import Derived.Test.YtddimbdeggomaaaGreatZ07
import Derived.Test.YtddimbdeggomaaaGreatZ11
import Derived.Test.YtddimbdeggomaaaGreatZ08
import Derived.Test.YtddimbdeggomaaaGreatZ09
import Derived.Test.YtddimbdeggomaaaGreatZ04
set_option linter.all false
section
namespace Go.Proofs.YtddimbdeggomaaaGreat
open Go Go.Sx Go.RowKit Go.Proofs
def sortI (l : List Int) : List Int := l.mergeSort fun x y => decide (x ≤ y)
theorem compactUpTo_len {α : Type} [Inhabited α] [DecidableEq α] (d : Array α) : ∀ m, (Lib.compactUpTo d m).length ≤ m
 | 0 => by simp [Lib.compactUpTo]
 | m + 1 => by
  have := compactUpTo_len d m
  rw [Lib.compactUpTo_succ, List.length_append]
  split <;> simp <;> omega
def compI (l : List Int) : List Int := Lib.compact l
def bl (s : ByteArray) : List UInt8 := s.data.toList
def lb (l : List UInt8) : ByteArray := ⟨l.toArray⟩
theorem bl_lb (l : List UInt8) : bl (lb l) = l := rfl
theorem lb_bl (s : ByteArray) : lb (bl s) = s := by cases s; simp [lb, bl]
def sortB (l : List (List UInt8)) : List (List UInt8) := l.mergeSort fun x y => decide (x ≤ y)
def sortS (l : List ByteArray) : List ByteArray := (sortB (l.map bl)).map lb
def compS (l : List ByteArray) : List ByteArray := (Lib.compact (l.map bl)).map lb
theorem sortS_len (l : List ByteArray) : (sortS l).length = l.length := by simp [sortS, sortB, List.length_mergeSort]
theorem rows_bl (l : List ByteArray) : l.map encS = rowS Go.Proofs.encStr (l.map bl) := by
 simp only [rowS, List.map_map]
 refine List.map_congr_left fun s _ => ?_
 have h := lb_bl s
 simp only [lb] at h
 simp only [Function.comp, encS, Go.Proofs.encStr, h]
theorem rows_lb (l : List (List UInt8)) : (l.map lb).map encS = rowS Go.Proofs.encStr l := by
 rw [rows_bl, List.map_map]
 congr 1
 simp [Function.comp_def, bl_lb]
theorem encStr_scalar (x : List UInt8) : scalar (Go.Proofs.encStr x) = true := rfl
theorem sortStr_ok (l : List ByteArray) (hl : l.length ≤ 4611686018427387903) : FnI Tryz.prog 273 9 1 (l.map encS) [] true ((sortS l).map encS) := by
 refine ⟨Tryz.call273, fun V w y S vs hm hrow hnd hlt hargs => ?_⟩
 have hvs : vs = [] := by have := hargs.1; simpa using this
 subst hvs
 rw [sortS, rows_lb]
 rw [rows_bl] at hrow
 rcases scal_down (e := Go.Proofs.encStr) hrow with ⟨⟨ao, rfl⟩, hn, rfl⟩ | ⟨b, cap, c, rfl, h1, h2, h3, h4, h5, h6, rfl⟩
 ·refine (Any.slices_Sort_string_none Tryz.laysSortStr ao 0 w).mono ?_
  rintro e w' ⟨rfl, rfl⟩
  exact ⟨_, rfl, fun _ => rfl, ⟨⟨rfl, rfl, rfl, Nat.le_refl _, fun _ _ _ => rfl⟩, [], (by rw [hn] at hrow ⊢; simpa [sortB] using hrow), hnd, fun b hb => .inl hb, fun _ => rfl⟩⟩
 ·have hb : b < w.heap.size := (Array.getElem?_eq_some_iff.1 h3).1
  refine (Any.slices_Sort_string Tryz.laysSortStr b 0 cap (l.map bl) w h5 hb (by simp; omega)).mono ?_
  rintro e w' ⟨rfl, n, os, rfl⟩
  have hsl : (sortB (l.map bl)).length = (l.map bl).length := by simp [sortB, List.length_mergeSort]
  have hup := scal_up (e := Go.Proofs.encStr) (l := sortB (l.map bl)) (d := (sortB (l.map bl)).toArray) encStr_scalar h3 h4 h2 (by simp only [List.size_toArray, hsl]; exact h1) rfl (List.prefix_refl _) h6 (n := n) (os := os)
  rw [hsl] at hup
  exact ⟨_, rfl, fun _ => rfl, ⟨hup.2, [b], hup.1, hnd, fun b hb => .inl hb, fun _ => rfl⟩⟩
theorem compactStr_ok (l : List ByteArray) (hl : l.length ≤ 4611686018427387903) : FnI Tryz.prog 274 9 1 (l.map encS) [] false ((compS l).map encS) := by
 refine ⟨Tryz.call274, fun V w y S vs hm hrow hnd hlt hargs => ?_⟩
 have hvs : vs = [] := by have := hargs.1; simpa using this
 subst hvs
 rw [compS, rows_lb]
 rw [rows_bl] at hrow
 rcases scal_down (e := Go.Proofs.encStr) hrow with ⟨⟨ao, rfl⟩, hn, rfl⟩ | ⟨b, cap, c, rfl, h1, h2, h3, h4, h5, h6, rfl⟩
 ·refine (Any.slices_Compact_string_empty Tryz.laysCompactStr ao 0 w).mono ?_
  rintro e w' ⟨rfl, rfl⟩
  exact ⟨_, rfl, fun h => (by cases h), ⟨⟨rfl, rfl, rfl, Nat.le_refl _, fun _ _ _ => rfl⟩, [], (by rw [hn] at hrow ⊢; exact hrow), hnd, fun b hb => .inl hb, fun _ => rfl⟩⟩
 ·have hb : b < w.heap.size := (Array.getElem?_eq_some_iff.1 h3).1
  refine (Any.slices_Compact_string Tryz.laysCompactStr b 0 cap (l.map bl) w h5 (by simp; omega) h1).mono ?_
  rintro e w' ⟨rfl, n, rfl⟩
  have hle : (Lib.compact (l.map bl)).length ≤ (l.map bl).length := compactUpTo_len _ _
  have hup := scal_up (e := Go.Proofs.encStr) (l := Lib.compact (l.map bl)) (d := (Lib.compact (l.map bl) ++ List.replicate ((l.map bl).length - (Lib.compact (l.map bl)).length) []).toArray) (w' := Sort.putRow Go.Proofs.encStr (Sort.ahead w n) b 0 (Lib.compact (l.map bl) ++ List.replicate ((l.map bl).length - (Lib.compact (l.map bl)).length) []).toArray) encStr_scalar h3 h4 h2 (by simp only [List.size_toArray, List.length_append, List.length_replicate]; omega) (by rw [Sort.grow_empty]) (by simp) h6 (n := n) (os := #[])
  exact ⟨_, rfl, fun h => (by cases h), ⟨hup.2, [b], hup.1, hnd, fun b hb => .inl hb, fun _ => rfl⟩⟩
end Go.Proofs.YtddimbdeggomaaaGreat
end
section
set_option maxRecDepth 100000
set_option maxHeartbeats 4000000
namespace Go.Sx
theorem WP_frzd {P : Program} {C : Ctx} {F : Ex → St → Prop} {st : St} {code : Code} (i id : Nat) {ty sz : Nat} {rows : List (List D)} {lin : Bool} (hi : nth st.t i = .o (.s id)) (hb : nthH st.h id = .row ty sz rows lin) (h : WP P C code F ⟨setN st.t i (.o (.d (.sl rows))), setH st.h id (.frz rows lin)⟩) : WP P C code F st := by
 intro g V a w hr
 obtain ⟨g', V', h1, h2, h3, h4, h5⟩ := hr.hp.frz hr.mod hr.fr.size (nthH_some hb (by simp))
 have hr1 : Rel C g' V' ⟨st.t, setH st.h id (.frz rows lin)⟩ a w := ⟨hr.sl.mono h1 h2, by rw [setH_eq]; exact h4, h3, hr.fr, hr.vw.grow h2 h5⟩
 refine h g' V' a w ⟨⟨by rw [setN_eq]; simpa using hr1.sl.size, fun n s y e1 e2 => ?_, hr1.sl.defers⟩, hr1.hp, hr1.mod, hr1.fr, hr1.vw⟩
 rw [setN_eq, List.getElem?_set] at e1
 by_cases e : i = n
 ·subst e
  rw [if_pos rfl] at e1
  split at e1
  ·rename_i hlt
   cases e1
   have hs : st.t[i]? = some (.o (.s id)) := by
    rw [nth_eq, List.getD_eq_getElem?_getD, List.getElem?_eq_getElem hlt] at hi
    rw [List.getElem?_eq_getElem hlt]
    exact congrArg some hi
   obtain ⟨gh, hgh, hy, _⟩ := hr1.sl.slot i _ y hs e2
   have hf : (setH st.h id (.frz rows lin))[id]? = some (.frz rows lin) := by
    have := nthH_some hb (by simp)
    rw [setH_eq, List.getElem?_set]; simp [(List.getElem?_eq_some_iff.1 this).1]
   obtain ⟨_, S, q1, _⟩ := hr1.hp.hb id _ gh hf hgh
   exact ⟨S, by rw [hy]; exact q1⟩
  ·cases e1
 ·rw [if_neg e] at e1
  exact hr1.sl.slot n s y e1 e2
end Go.Sx
namespace Go.Proofs.YtddimbdeggomaaaGreat
open Go Go.Sx Go.RowKit Go.Proofs
theorem mem_compUp {α : Type} [Inhabited α] [DecidableEq α] (d : Array α) : ∀ (m i : Nat), i < m → d[i]! ∈ Lib.compactUpTo d m
 | 0, i, h => by omega
 | m + 1, i, h => by
  rw [Lib.compactUpTo_succ]
  by_cases hi : i < m
  ·exact List.mem_append_left _ (mem_compUp d m i hi)
  ·have e : i = m := by omega
   subst e
   cases hk : Lib.keeps d i with
   | true => exact List.mem_append_right _ (by simp)
   | false =>
    have h0 : 0 < i := by
     rcases Nat.eq_zero_or_pos i with h | h
     ·subst h; rw [Lib.keeps_lt_one d 0 (by omega)] at hk; cases hk
     ·exact h
    have he : d[i]! = d[i - 1]! := Classical.byContradiction fun hn => by rw [Lib.keeps_pos hn] at hk; cases hk
    rw [he]
    exact List.mem_append_left _ (mem_compUp d i (i - 1) (by omega))
theorem mem_comp {α : Type} [Inhabited α] [DecidableEq α] (zs : List α) (x : α) : x ∈ Lib.compact zs ↔ x ∈ zs := by
 refine ⟨fun h => ?_, fun h => ?_⟩
 ·unfold Lib.compact Lib.compactUpTo at h
  obtain ⟨i, hi, rfl⟩ := List.mem_map.1 h
  have hi' : i < zs.length := List.mem_range.1 (List.mem_filter.1 hi).1
  simp [getElem!_pos, hi']
 ·obtain ⟨i, hi, rfl⟩ := List.mem_iff_getElem.1 h
  have := mem_compUp zs.toArray zs.length i hi
  have e : zs.toArray[i]! = zs[i] := by simp [getElem!_pos, hi]
  rw [e] at this
  exact this
def onceS (l : List ByteArray) : List ByteArray := compS (sortS l)
theorem onceS_len (l : List ByteArray) : (onceS l).length ≤ l.length := by
 have := compactUpTo_len ((sortS l).map bl).toArray ((sortS l).map bl).length
 simp only [onceS, compS, Lib.compact, List.length_map, sortS_len] at this ⊢
 exact this
theorem hasS_mem (l : List ByteArray) (s : ByteArray) : hasS l s = true ↔ s ∈ l := by
 unfold hasS
 rw [List.any_eq_true]
 constructor
 ·rintro ⟨x, h1, h2⟩; rw [of_decide_eq_true h2] at h1; exact h1
 ·intro h; exact ⟨s, h, by simp⟩
theorem mem_onceS (l : List ByteArray) (s : ByteArray) : s ∈ onceS l ↔ s ∈ l := by
 have e : (sortS l).map bl = sortB (l.map bl) := by
  unfold sortS
  rw [List.map_map]
  have : (bl ∘ lb) = id := by funext x; exact bl_lb x
  rw [this, List.map_id]
 unfold onceS compS
 rw [e]
 constructor
 ·intro h
  obtain ⟨y, hy, rfl⟩ := List.mem_map.1 h
  rw [mem_comp, sortB, List.mem_mergeSort] at hy
  obtain ⟨z, hz, rfl⟩ := List.mem_map.1 hy
  rw [lb_bl]; exact hz
 ·intro h
  refine List.mem_map.2 ⟨bl s, ?_, lb_bl s⟩
  rw [mem_comp, sortB, List.mem_mergeSort]
  exact List.mem_map.2 ⟨s, h, rfl⟩
theorem sortedOnce_ok (l : List ByteArray) (hl : l.length ≤ 4300000) : FnC Tryz.prog 205 [.o (.d (.sl (l.map encS)))] (.o (.w 9 1 ((onceS l).map encS))) := by
 refine ent Tryz.func205 rfl Tryz.call205 rfl (fun C => ?_); simp only [go_sem, st0, Tryz.ntmps205]
 repeat' (with_reducible first | refine nY ?_ | (refine mX ?_; try simp only [go_sem]) | refine kO ?_ (by decide) | refine regd (by kernel_rfl) ?_ | (refine cC (cloneStr_ok l hl) ?_ ?_; focus simp only [go_sem, and_self]; done) | (refine cali (sortStr_ok l (by omega)) ?_ ?_ ?_ (uX ?_); (focus simp only [go_sem]; done); (focus simp only [go_sem]; done); (focus simp only [go_sem]; done)) | (refine calj (sortStr_ok l (by omega)) ?_ ?_ ?_ (uX ?_); (focus simp only [go_sem]; done); (focus simp only [go_sem]; done); (focus simp only [go_sem]; done)) | (refine cali (compactStr_ok (sortS l) (by rw [sortS_len]; omega)) ?_ ?_ ?_ (uX ?_); (focus simp only [go_sem]; done); (focus simp only [go_sem]; done); (focus simp only [go_sem]; done)) | (refine calj (compactStr_ok (sortS l) (by rw [sortS_len]; omega)) ?_ ?_ ?_ (uX ?_); (focus simp only [go_sem]; done); (focus simp only [go_sem]; done); (focus simp only [go_sem]; done)) | (refine And.intro ?_ ?_; focus omega))
 exact retK_ret ⟨⟨_, rfl, by simp only [go_sem, onceS]⟩, trivial⟩
def geS (s : ByteArray) (y : ByteArray) : Bool := !strLt y s
def putS (l : List ByteArray) (s : ByteArray) : List ByteArray := if (l.drop (fstIx (geS s) l)).head? = some s then l else insAt (fstIx (geS s) l) s l
def putL (l : List ByteArray) : List ByteArray := l.foldl putS []
theorem mem_putS (l : List ByteArray) (s x : ByteArray) : x ∈ putS l s ↔ x = s ∨ x ∈ l := by
 unfold putS
 split
 ·rename_i h
  have : s ∈ l.drop (fstIx (geS s) l) := by
   cases hd : l.drop (fstIx (geS s) l) with
   | nil => rw [hd] at h; cases h
   | cons y r => rw [hd] at h; simp at h; simp [h]
  have hs := List.mem_of_mem_drop this
  constructor
  ·exact .inr
  ·rintro (rfl | h) <;> first | exact hs | exact h
 ·unfold insAt
  conv => rhs; rw [← List.take_append_drop (fstIx (geS s) l) l]
  simp only [List.mem_append, List.mem_cons]
  constructor
  ·rintro (h | h | h) <;> first | exact .inr (.inl h) | exact .inl h | exact .inr (.inr h)
  ·rintro (h | h | h) <;> first | exact .inr (.inl h) | exact .inl h | exact .inr (.inr h)
theorem putS_len (l : List ByteArray) (s : ByteArray) : (putS l s).length ≤ l.length + 1 := by
 unfold putS
 split
 ·omega
 ·rw [insAt_len _ _ _ (fstIx_le _ l)]; omega
theorem putL_app (l : List ByteArray) (s : ByteArray) : putL (l ++ [s]) = putS (putL l) s := by simp [putL]
theorem mem_foldl (l : List ByteArray) : ∀ (a : List ByteArray) (x : ByteArray), x ∈ l.foldl putS a ↔ x ∈ a ∨ x ∈ l := by
 induction l with
 | nil => simp
 | cons y l ih =>
  intro a x
  rw [List.foldl_cons, ih, mem_putS]
  simp only [List.mem_cons]
  constructor
  ·rintro ((h | h) | h) <;> first | exact .inr (.inl h) | exact .inl h | exact .inr (.inr h)
  ·rintro (h | h | h) <;> first | exact .inl (.inr h) | exact .inl (.inl h) | exact .inr h
theorem mem_putL (l : List ByteArray) (x : ByteArray) : x ∈ putL l ↔ x ∈ l := by rw [putL, mem_foldl]; simp
theorem foldl_len (l : List ByteArray) : ∀ a : List ByteArray, (l.foldl putS a).length ≤ a.length + l.length := by
 induction l with
 | nil => simp
 | cons y l ih =>
  intro a
  have h1 := ih (putS a y)
  have h2 := putS_len a y
  simp only [List.foldl_cons, List.length_cons]; omega
theorem putL_len (l : List ByteArray) : (putL l).length ≤ l.length := by have := foldl_len l []; simpa [putL] using this
theorem fstIx_at' {α : Type} (p : α → Bool) (l : List α) (k : Nat) (h : k < l.length) (hk : fstIx p l = k + fstIx p (l.drop k)) : fstIx p l = if p l[k] then k else k + 1 + fstIx p (l.drop (k + 1)) := by
 rw [hk, fstIx_drop p l k h]
 split <;> omega
theorem take_mapS {α β : Type} (f : α → β) (l : List α) (n : Nat) : (l.map f).take n = (l.take n).map f := List.map_take.symm
theorem drop_mapS {α β : Type} (f : α → β) (l : List α) (n : Nat) : (l.map f).drop n = (l.drop n).map f := List.map_drop.symm
end Go.Proofs.YtddimbdeggomaaaGreat
end
section
set_option maxRecDepth 100000
set_option maxHeartbeats 4000000
namespace Go.Proofs.YtddimbdeggomaaaGreat
open Go Go.Sx Go.RowKit Go.Proofs
theorem uniS (l : List ByteArray) : ∀ r ∈ l.map encS, r.length = 1 := by intro r hr; obtain ⟨x, _, rfl⟩ := List.mem_map.1 hr; rfl
theorem l04Put_ok (l : List ByteArray) (s : ByteArray) (hl : l.length ≤ 4300000) : FnC Tryz.prog 195 [.o (.d (.sl (l.map encS))), os s] (.o (.d (.sl ((putS l s).map encS)))) := by
 have hle := fstIx_le (geS s) l
 refine ent Tryz.func195 rfl Tryz.call195 rfl (fun C => ?_); simp only [go_sem, st0, Tryz.ntmps195]
 repeat' (with_reducible first | refine nY ?_ | (refine mX ?_; try simp only [go_sem]) | refine kO ?_ (by decide) | (refine regx (by simp only [bodyX, isStX, Bool.false_eq_true, if_false, if_true]; rfl) (by kernel_rfl) (by kernel_rfl) (by decide) ?_ ?_ ?_; (focus simp only [go_sem]; done); (focus simp only [go_sem]; done)) | refine xE ?_ (by simp only [tailX, isStX, Bool.false_eq_true, if_false, if_true]; rfl) (by simp only [go_sem]; rfl) | refine regd (by kernel_rfl) ?_ | (refine And.intro ?_ ?_; focus omega))
 refine WP_lp (α := Nat) (fun k => [(5, oi k)]) (fun _ => []) (fun k => k ≤ l.length ∧ fstIx (geS s) l = k + fstIx (geS s) (l.drop k)) (fun k => l.length - k) 0 (fun _ => ?_) ?_ ?_ (fun k hk => ?_)
 ·simp only [go_sem]
 ·simp only [go_sem]; simp
 ·simp
 ·obtain ⟨hk, hf⟩ := hk
  simp only [go_sem]
  by_cases h1 : k < l.length
  ·have hfx := fstIx_at' (geS s) l k h1 hf
   have h1' : ((k : Int) < (l.length : Int)) = True := by simp [h1]
   repeat' (with_reducible first | refine nY ?_ | (refine mX ?_; try simp only [go_sem, h1, h1', decide_true]) | refine kO ?_ (by decide) | (refine regx (by simp only [bodyX, isStX, Bool.false_eq_true, if_false, if_true]; rfl) (by kernel_rfl) (by kernel_rfl) (by decide) ?_ ?_ ?_; (focus simp only [go_sem]; done); (focus simp only [go_sem]; done)) | refine xE ?_ (by simp only [tailX, isStX, Bool.false_eq_true, if_false, if_true]; rfl) (by simp only [go_sem]; rfl) | refine regd (by kernel_rfl) ?_ | (refine And.intro ?_ ?_; focus omega))
   refine cnd (b := strLt l[k] s) rfl (fun h2 => ?_) (fun h2 => ?_)
   ·rw [if_neg (by simp [geS, h2])] at hfx
    repeat' (with_reducible first | refine nY ?_ | (refine mX ?_; try simp only [go_sem]) | refine kO ?_ (by decide) | (refine regx (by simp only [bodyX, isStX, Bool.false_eq_true, if_false, if_true]; rfl) (by kernel_rfl) (by kernel_rfl) (by decide) ?_ ?_ ?_; (focus simp only [go_sem]; done); (focus simp only [go_sem]; done)) | refine xE ?_ (by simp only [tailX, isStX, Bool.false_eq_true, if_false, if_true]; rfl) (by simp only [go_sem]; rfl) | refine regd (by kernel_rfl) ?_ | (refine And.intro ?_ ?_; focus omega))
    refine L_next (k + 1) ?_ ?_ ?_
    ·simp only [go_sem]; simp
    ·exact ⟨by omega, hfx⟩
    ·omega
   ·rw [if_pos (by simp [geS, h2])] at hfx
    have hd := List.drop_eq_getElem_cons h1
    by_cases h3 : l[k] = s
    ·have hput : putS l s = l := by unfold putS; rw [hfx, hd]; simp [h3]
     repeat' (with_reducible first | refine nY ?_ | (refine mX ?_; try simp only [go_sem, h1, h1', h3, decide_true]) | refine kO ?_ (by decide) | (refine regx (by simp only [bodyX, isStX, Bool.false_eq_true, if_false, if_true]; rfl) (by kernel_rfl) (by kernel_rfl) (by decide) ?_ ?_ ?_; (focus simp only [go_sem]; done); (focus simp only [go_sem]; done)) | refine xE ?_ (by simp only [tailX, isStX, Bool.false_eq_true, if_false, if_true]; rfl) (by simp only [go_sem]; rfl) | refine regd (by kernel_rfl) ?_ | (refine And.intro ?_ ?_; focus omega))
     exact retK_ret ⟨⟨_, rfl, by simp only [go_sem, hput]⟩, trivial⟩
    ·have hput : putS l s = insAt k s l := by unfold putS; rw [hfx, hd]; exact if_neg (fun h => h3 (Option.some.inj h))
     have hn1 : ((0 : Int) ≤ (k : Int)) := by omega
     repeat' (with_reducible first | refine nY ?_ | (refine mX ?_; try simp only [go_sem, h1, h1', h3, hn1, decide_true, decide_false, take_mapS, drop_mapS, List.length_take, List.length_drop, List.length_append]) | refine kO ?_ (by decide) | (refine regx (by simp only [bodyX, isStX, Bool.false_eq_true, if_false, if_true]; rfl) (by kernel_rfl) (by kernel_rfl) (by decide) ?_ ?_ ?_; (focus simp only [go_sem]; done); (focus simp only [go_sem]; done)) | refine xE ?_ (by simp only [tailX, isStX, Bool.false_eq_true, if_false, if_true]; rfl) (by simp only [go_sem]; rfl) | refine regd (by kernel_rfl) ?_ | (refine And.intro ?_ ?_; focus omega))
     refine ⟨uniS l, by omega, by omega, by omega, ?_⟩
     repeat' (with_reducible first | refine nY ?_ | (refine mX ?_; try simp only [go_sem, take_mapS, drop_mapS, List.length_take, List.length_drop, List.length_append]) | refine kO ?_ (by decide) | (refine regx (by simp only [bodyX, isStX, Bool.false_eq_true, if_false, if_true]; rfl) (by kernel_rfl) (by kernel_rfl) (by decide) ?_ ?_ ?_; (focus simp only [go_sem]; done); (focus simp only [go_sem]; done)) | refine xE ?_ (by simp only [tailX, isStX, Bool.false_eq_true, if_false, if_true]; rfl) (by simp only [go_sem]; rfl) | refine regd (by kernel_rfl) ?_ | (refine And.intro ?_ ?_; focus omega))
     refine ⟨uniS l, by omega, by omega, by omega, ?_⟩
     repeat' (with_reducible first | refine nY ?_ | (refine mX ?_; try simp only [go_sem, take_mapS, drop_mapS, List.length_take, List.length_drop, List.length_append]) | refine kO ?_ (by decide) | (refine regx (by simp only [bodyX, isStX, Bool.false_eq_true, if_false, if_true]; rfl) (by kernel_rfl) (by kernel_rfl) (by decide) ?_ ?_ ?_; (focus simp only [go_sem]; done); (focus simp only [go_sem]; done)) | refine xE ?_ (by simp only [tailX, isStX, Bool.false_eq_true, if_false, if_true]; rfl) (by simp only [go_sem]; rfl) | refine regd (by kernel_rfl) ?_ | (refine And.intro ?_ ?_; focus omega))
     refine retK_sees (Sees.frz 0 rfl) ?_
     simp only [go_sem]
     exact retK_ret ⟨⟨_, rfl, by simp only [go_sem, hput, insAt, List.take_length, List.map_append, List.map_cons, List.append_assoc, List.cons_append, List.nil_append]⟩, trivial⟩
  ·have e : k = l.length := by omega
   have hfx : fstIx (geS s) l = k := by rw [hf, e, List.drop_length]; rfl
   have hput : putS l s = insAt k s l := by unfold putS; rw [hfx, e, List.drop_length]; simp
   have h1' : ((k : Int) < (l.length : Int)) = False := by simp [h1]
   repeat' (with_reducible first | refine nY ?_ | (refine mX ?_; try simp only [go_sem, h1, h1', decide_false, take_mapS, drop_mapS, List.length_take, List.length_drop, List.length_append]) | refine kO ?_ (by decide) | (refine regx (by simp only [bodyX, isStX, Bool.false_eq_true, if_false, if_true]; rfl) (by kernel_rfl) (by kernel_rfl) (by decide) ?_ ?_ ?_; (focus simp only [go_sem]; done); (focus simp only [go_sem]; done)) | refine xE ?_ (by simp only [tailX, isStX, Bool.false_eq_true, if_false, if_true]; rfl) (by simp only [go_sem]; rfl) | refine regd (by kernel_rfl) ?_ | (refine And.intro ?_ ?_; focus omega))
   refine ⟨uniS l, by omega, by omega, by omega, ?_⟩
   repeat' (with_reducible first | refine nY ?_ | (refine mX ?_; try simp only [go_sem, take_mapS, drop_mapS, List.length_take, List.length_drop, List.length_append]) | refine kO ?_ (by decide) | (refine regx (by simp only [bodyX, isStX, Bool.false_eq_true, if_false, if_true]; rfl) (by kernel_rfl) (by kernel_rfl) (by decide) ?_ ?_ ?_; (focus simp only [go_sem]; done); (focus simp only [go_sem]; done)) | refine xE ?_ (by simp only [tailX, isStX, Bool.false_eq_true, if_false, if_true]; rfl) (by simp only [go_sem]; rfl) | refine regd (by kernel_rfl) ?_ | (refine And.intro ?_ ?_; focus omega))
   refine ⟨uniS l, by omega, by omega, by omega, ?_⟩
   repeat' (with_reducible first | refine nY ?_ | (refine mX ?_; try simp only [go_sem, take_mapS, drop_mapS, List.length_take, List.length_drop, List.length_append]) | refine kO ?_ (by decide) | (refine regx (by simp only [bodyX, isStX, Bool.false_eq_true, if_false, if_true]; rfl) (by kernel_rfl) (by kernel_rfl) (by decide) ?_ ?_ ?_; (focus simp only [go_sem]; done); (focus simp only [go_sem]; done)) | refine xE ?_ (by simp only [tailX, isStX, Bool.false_eq_true, if_false, if_true]; rfl) (by simp only [go_sem]; rfl) | refine regd (by kernel_rfl) ?_ | (refine And.intro ?_ ?_; focus omega))
   refine retK_sees (Sees.frz 0 rfl) ?_
   simp only [go_sem]
   exact retK_ret ⟨⟨_, rfl, by simp only [go_sem, hput, insAt, List.take_length, List.map_append, List.map_cons, List.append_assoc, List.cons_append, List.nil_append]⟩, trivial⟩
def attrNs (l : List TAttr) : List ByteArray := l.map TAttr.fName
theorem attrNs_len (l : List TAttr) : (attrNs l).length = l.length := by simp [attrNs]
theorem implAttrNames_ok (x : TFile) (hl : x.fAttrs.length ≤ 4300000) : FnC Tryz.prog 297 [gFile x] (.o (.w 9 1 ((attrNs x.fAttrs).map encS))) := by
 refine ent Tryz.func297 rfl Tryz.call297 rfl (fun C => ?_); simp only [go_sem, st0, Tryz.ntmps297]
 repeat' (with_reducible first | refine nY ?_ | (refine mX ?_; try simp only [go_sem]) | refine kO ?_ (by decide) | (refine regx (by simp only [bodyX, isStX, Bool.false_eq_true, if_false, if_true]; rfl) (by kernel_rfl) (by kernel_rfl) (by decide) ?_ ?_ ?_; (focus simp only [go_sem]; done); (focus simp only [go_sem]; done)) | refine xE ?_ (by simp only [tailX, isStX, Bool.false_eq_true, if_false, if_true]; rfl) (by simp only [go_sem]; rfl) | refine regd (by kernel_rfl) ?_ | (refine And.intro ?_ ?_; focus omega))
 generalize x.fAttrs = l at *
 refine WP_lp (α := Nat) (fun k => [(3, .o (.s 1)), (6, .o .u), (10, oi k)]) (fun k => [(1, .row 9 1 ((attrNs (l.take k)).map encS) true)]) (fun k => k ≤ l.length) (fun k => l.length - k) 0 (fun _ => ?_) ?_ ?_ (fun k hk => ?_)
 ·simp only [go_sem]
 ·simp only [go_sem]; simp [attrNs]
 ·simp
 ·simp only [go_sem]
  repeat' (with_reducible first | refine nY ?_ | (refine mX ?_; try simp only [go_sem]) | refine kO ?_ (by decide) | (refine regx (by simp only [bodyX, isStX, Bool.false_eq_true, if_false, if_true]; rfl) (by kernel_rfl) (by kernel_rfl) (by decide) ?_ ?_ ?_; (focus simp only [go_sem]; done); (focus simp only [go_sem]; done)) | refine xE ?_ (by simp only [tailX, isStX, Bool.false_eq_true, if_false, if_true]; rfl) (by simp only [go_sem]; rfl) | refine regd (by kernel_rfl) ?_ | (refine And.intro ?_ ?_; focus omega))
  refine cnd rfl (fun h1 => ?_) (fun h1 => ?_)
  ·simp only [decide_eq_true_eq, Int.ofNat_lt] at h1
   have ht : attrNs (l.take (k + 1)) = attrNs (l.take k) ++ [l[k].fName] := by simp only [attrNs, List.take_succ_eq_append_getElem h1, List.map_append, List.map_cons, List.map_nil]
   have hlen : (attrNs (l.take k)).length = k := by rw [attrNs_len]; simp; omega
   repeat' (with_reducible first | refine nY ?_ | (refine mX ?_; try simp only [go_sem, h1, hlen]) | refine kO ?_ (by decide) | (refine regx (by simp only [bodyX, isStX, Bool.false_eq_true, if_false, if_true]; rfl) (by kernel_rfl) (by kernel_rfl) (by decide) ?_ ?_ ?_; (focus simp only [go_sem]; done); (focus simp only [go_sem]; done)) | refine xE ?_ (by simp only [tailX, isStX, Bool.false_eq_true, if_false, if_true]; rfl) (by simp only [go_sem]; rfl) | refine regd (by kernel_rfl) ?_ | (refine And.intro ?_ ?_; focus omega))
   refine L_next (k + 1) ?_ ?_ ?_
   ·simp only [go_sem, ht, List.map_append]; simp
   ·omega
   ·omega
  ·simp only [decide_eq_false_iff_not] at h1
   have e : k = l.length := by omega
   subst e
   repeat' (with_reducible first | refine nY ?_ | (refine mX ?_; try simp only [go_sem]) | refine kO ?_ (by decide) | (refine regx (by simp only [bodyX, isStX, Bool.false_eq_true, if_false, if_true]; rfl) (by kernel_rfl) (by kernel_rfl) (by decide) ?_ ?_ ?_; (focus simp only [go_sem]; done); (focus simp only [go_sem]; done)) | refine xE ?_ (by simp only [tailX, isStX, Bool.false_eq_true, if_false, if_true]; rfl) (by simp only [go_sem]; rfl) | refine regd (by kernel_rfl) ?_ | (refine And.intro ?_ ?_; focus omega))
   exact retK_ret ⟨⟨_, rfl, by simp only [go_sem, List.take_length]⟩, trivial⟩
theorem specAttrNames_ok (x : TFile) (hl : x.fAttrs.length ≤ 4300000) : FnC Tryz.prog 296 [gFile x] (.o (.w 9 1 ((attrNs x.fAttrs).map encS))) := by
 refine ent Tryz.func296 rfl Tryz.call296 rfl (fun C => ?_); simp only [go_sem, st0, Tryz.ntmps296]
 repeat' (with_reducible first | refine nY ?_ | (refine mX ?_; try simp only [go_sem]) | refine kO ?_ (by decide) | (refine regx (by simp only [bodyX, isStX, Bool.false_eq_true, if_false, if_true]; rfl) (by kernel_rfl) (by kernel_rfl) (by decide) ?_ ?_ ?_; (focus simp only [go_sem]; done); (focus simp only [go_sem]; done)) | refine xE ?_ (by simp only [tailX, isStX, Bool.false_eq_true, if_false, if_true]; rfl) (by simp only [go_sem]; rfl) | refine regd (by kernel_rfl) ?_ | (refine And.intro ?_ ?_; focus omega))
 generalize x.fAttrs = l at *
 refine WP_lp (α := Nat) (fun k => [(3, .o (.s 1)), (4, oi k), (5, .o .u)]) (fun k => [(1, .row 9 1 ((attrNs (l.take k)).map encS) true)]) (fun k => k ≤ l.length) (fun k => l.length - k) 0 (fun _ => ?_) ?_ ?_ (fun k hk => ?_)
 ·simp only [go_sem]
 ·simp only [go_sem]; simp [attrNs]
 ·simp
 ·simp only [go_sem]
  repeat' (with_reducible first | refine nY ?_ | (refine mX ?_; try simp only [go_sem]) | refine kO ?_ (by decide) | (refine regx (by simp only [bodyX, isStX, Bool.false_eq_true, if_false, if_true]; rfl) (by kernel_rfl) (by kernel_rfl) (by decide) ?_ ?_ ?_; (focus simp only [go_sem]; done); (focus simp only [go_sem]; done)) | refine xE ?_ (by simp only [tailX, isStX, Bool.false_eq_true, if_false, if_true]; rfl) (by simp only [go_sem]; rfl) | refine regd (by kernel_rfl) ?_ | (refine And.intro ?_ ?_; focus omega))
  refine cnd rfl (fun h1 => ?_) (fun h1 => ?_)
  ·simp only [decide_eq_true_eq, Int.ofNat_lt] at h1
   have ht : attrNs (l.take (k + 1)) = attrNs (l.take k) ++ [l[k].fName] := by simp only [attrNs, List.take_succ_eq_append_getElem h1, List.map_append, List.map_cons, List.map_nil]
   have hlen : (attrNs (l.take k)).length = k := by rw [attrNs_len]; simp; omega
   repeat' (with_reducible first | refine nY ?_ | (refine mX ?_; try simp only [go_sem, h1, hlen]) | refine kO ?_ (by decide) | (refine regx (by simp only [bodyX, isStX, Bool.false_eq_true, if_false, if_true]; rfl) (by kernel_rfl) (by kernel_rfl) (by decide) ?_ ?_ ?_; (focus simp only [go_sem]; done); (focus simp only [go_sem]; done)) | refine xE ?_ (by simp only [tailX, isStX, Bool.false_eq_true, if_false, if_true]; rfl) (by simp only [go_sem]; rfl) | refine regd (by kernel_rfl) ?_ | (refine And.intro ?_ ?_; focus omega))
   refine L_next (k + 1) ?_ ?_ ?_
   ·simp only [go_sem, ht, List.map_append]; simp
   ·omega
   ·omega
  ·simp only [decide_eq_false_iff_not] at h1
   have e : k = l.length := by omega
   subst e
   repeat' (with_reducible first | refine nY ?_ | (refine mX ?_; try simp only [go_sem]) | refine kO ?_ (by decide) | (refine regx (by simp only [bodyX, isStX, Bool.false_eq_true, if_false, if_true]; rfl) (by kernel_rfl) (by kernel_rfl) (by decide) ?_ ?_ ?_; (focus simp only [go_sem]; done); (focus simp only [go_sem]; done)) | refine xE ?_ (by simp only [tailX, isStX, Bool.false_eq_true, if_false, if_true]; rfl) (by simp only [go_sem]; rfl) | refine regd (by kernel_rfl) ?_ | (refine And.intro ?_ ?_; focus omega))
   exact retK_ret ⟨⟨_, rfl, by simp only [go_sem, List.take_length]⟩, trivial⟩
theorem specDirNames_ok (l : List TDir) (hl : l.length ≤ 4300000) : FnC Tryz.prog 112 [.o (.d (.sl (l.map encDir)))] (.o (.w 9 1 ((dirNs l).map encS))) := by
 refine ent Tryz.func112 rfl Tryz.call112 rfl (fun C => ?_); simp only [go_sem, st0, Tryz.ntmps112]
 repeat' (with_reducible first | refine nY ?_ | (refine mX ?_; try simp only [go_sem]) | refine kO ?_ (by decide) | (refine regx (by simp only [bodyX, isStX, Bool.false_eq_true, if_false, if_true]; rfl) (by kernel_rfl) (by kernel_rfl) (by decide) ?_ ?_ ?_; (focus simp only [go_sem]; done); (focus simp only [go_sem]; done)) | refine xE ?_ (by simp only [tailX, isStX, Bool.false_eq_true, if_false, if_true]; rfl) (by simp only [go_sem]; rfl) | refine regd (by kernel_rfl) ?_ | (refine And.intro ?_ ?_; focus omega))
 refine WP_lp (α := Nat) (fun k => [(3, .o (.s 0)), (4, oi k), (5, .o .u)]) (fun k => [(0, .row 9 1 ((dirNs (l.take k)).map encS) true)]) (fun k => k ≤ l.length) (fun k => l.length - k) 0 (fun _ => ?_) ?_ ?_ (fun k hk => ?_)
 ·simp only [go_sem]
 ·simp only [go_sem]; simp [dirNs]
 ·simp
 ·simp only [go_sem]
  repeat' (with_reducible first | refine nY ?_ | (refine mX ?_; try simp only [go_sem]) | refine kO ?_ (by decide) | (refine regx (by simp only [bodyX, isStX, Bool.false_eq_true, if_false, if_true]; rfl) (by kernel_rfl) (by kernel_rfl) (by decide) ?_ ?_ ?_; (focus simp only [go_sem]; done); (focus simp only [go_sem]; done)) | refine xE ?_ (by simp only [tailX, isStX, Bool.false_eq_true, if_false, if_true]; rfl) (by simp only [go_sem]; rfl) | refine regd (by kernel_rfl) ?_ | (refine And.intro ?_ ?_; focus omega))
  refine cnd rfl (fun h1 => ?_) (fun h1 => ?_)
  ·simp only [decide_eq_true_eq, Int.ofNat_lt] at h1
   have ht : dirNs (l.take (k + 1)) = dirNs (l.take k) ++ [l[k].fName] := by simp only [dirNs, List.take_succ_eq_append_getElem h1, List.map_append, List.map_cons, List.map_nil]
   have hlen : (dirNs (l.take k)).length = k := by rw [dirNs_len]; simp; omega
   repeat' (with_reducible first | refine nY ?_ | (refine mX ?_; try simp only [go_sem, h1, hlen]) | refine kO ?_ (by decide) | (refine regx (by simp only [bodyX, isStX, Bool.false_eq_true, if_false, if_true]; rfl) (by kernel_rfl) (by kernel_rfl) (by decide) ?_ ?_ ?_; (focus simp only [go_sem]; done); (focus simp only [go_sem]; done)) | refine xE ?_ (by simp only [tailX, isStX, Bool.false_eq_true, if_false, if_true]; rfl) (by simp only [go_sem]; rfl) | refine regd (by kernel_rfl) ?_ | (refine And.intro ?_ ?_; focus omega))
   refine L_next (k + 1) ?_ ?_ ?_
   ·simp only [go_sem, ht, List.map_append]; simp
   ·omega
   ·omega
  ·simp only [decide_eq_false_iff_not] at h1
   have e : k = l.length := by omega
   subst e
   repeat' (with_reducible first | refine nY ?_ | (refine mX ?_; try simp only [go_sem]) | refine kO ?_ (by decide) | (refine regx (by simp only [bodyX, isStX, Bool.false_eq_true, if_false, if_true]; rfl) (by kernel_rfl) (by kernel_rfl) (by decide) ?_ ?_ ?_; (focus simp only [go_sem]; done); (focus simp only [go_sem]; done)) | refine xE ?_ (by simp only [tailX, isStX, Bool.false_eq_true, if_false, if_true]; rfl) (by simp only [go_sem]; rfl) | refine regd (by kernel_rfl) ?_ | (refine And.intro ?_ ?_; focus omega))
   exact retK_ret ⟨⟨_, rfl, by simp only [go_sem, List.take_length]⟩, trivial⟩
def eqV (x v : TValue) : Bool := decide (x.fKind = v.fKind) && (decide (x.fInt = v.fInt) && decide (x.fStr = v.fStr))
def changed (a b : TFile) (n : ByteArray) : Bool := !(eqV (getAttr n a.fAttrs) (getAttr n b.fAttrs))
def chL (a b : TFile) (l : List ByteArray) : List ByteArray := l.filter (changed a b)
theorem chL_len (a b : TFile) (l : List ByteArray) : (chL a b l).length ≤ l.length := List.length_filter_le _ _
def chg (a b : TFile) : List ByteArray := chL a b (attrNs a.fAttrs ++ attrNs b.fAttrs)
theorem chL_take (a b : TFile) (l : List ByteArray) (k : Nat) (h : k < l.length) : chL a b (l.take (k + 1)) = chL a b (l.take k) ++ (if changed a b l[k] then [l[k]] else []) := by
 simp only [chL, List.take_succ_eq_append_getElem h, List.filter_append, List.filter_cons, List.filter_nil]
theorem implChanged_ok (a b : TFile) (h : wFile a + wFile b ≤ 4300000) : FnC Tryz.prog 261 [gFile a, gFile b] (.o (.w 9 1 ((onceS (chg a b)).map encS))) := by
 have ha : a.fAttrs.length + b.fAttrs.length ≤ 4300000 := by unfold wFile wAttrS at h; omega
 refine ent Tryz.func261 rfl Tryz.call261 rfl (fun C => ?_); simp only [go_sem, st0, Tryz.ntmps261]
 repeat' (with_reducible first | refine nY ?_ | (refine mX ?_; try simp only [go_sem, List.length_append, List.length_map, attrNs_len]) | refine kO ?_ (by decide) | (refine regx (by simp only [bodyX, isStX, Bool.false_eq_true, if_false, if_true]; rfl) (by kernel_rfl) (by kernel_rfl) (by decide) ?_ ?_ ?_; (focus simp only [go_sem]; done); (focus simp only [go_sem]; done)) | refine xE ?_ (by simp only [tailX, isStX, Bool.false_eq_true, if_false, if_true]; rfl) (by simp only [go_sem]; rfl) | refine regd (by kernel_rfl) ?_ | (refine cC (implAttrNames_ok a (by omega)) ?_ ?_; focus simp only [go_sem, and_self]; done) | (refine cC (implAttrNames_ok b (by omega)) ?_ ?_; focus simp only [go_sem, and_self]; done) | (refine And.intro ?_ ?_; focus omega))
 have hlenN : (attrNs a.fAttrs ++ attrNs b.fAttrs).length = a.fAttrs.length + b.fAttrs.length := by rw [List.length_append, attrNs_len, attrNs_len]
 rw [← hlenN]
 simp only [← List.map_append]
 unfold chg
 have hN : (attrNs a.fAttrs ++ attrNs b.fAttrs).length ≤ 4300000 := by omega
 generalize attrNs a.fAttrs ++ attrNs b.fAttrs = N at *
 refine WP_frzd 13 3 rfl rfl ?_
 simp only [go_sem]
 refine WP_lp (α := Nat) (fun k => [(5, .o (.s 2)), (8, .o .u), (15, oi k)]) (fun k => [(2, .row 9 1 ((chL a b (N.take k)).map encS) true)]) (fun k => k ≤ N.length) (fun k => N.length - k) 0 (fun _ => ?_) ?_ ?_ (fun k hk => ?_)
 ·simp only [go_sem]
 ·simp only [go_sem]; simp [chL]
 ·simp
 ·simp only [go_sem]
  repeat' (with_reducible first | refine nY ?_ | (refine mX ?_; try simp only [go_sem]) | refine kO ?_ (by decide) | (refine regx (by simp only [bodyX, isStX, Bool.false_eq_true, if_false, if_true]; rfl) (by kernel_rfl) (by kernel_rfl) (by decide) ?_ ?_ ?_; (focus simp only [go_sem]; done); (focus simp only [go_sem]; done)) | refine xE ?_ (by simp only [tailX, isStX, Bool.false_eq_true, if_false, if_true]; rfl) (by simp only [go_sem]; rfl) | refine regd (by kernel_rfl) ?_ | (refine And.intro ?_ ?_; focus omega))
  have hlen : (chL a b (N.take k)).length ≤ 4300000 := by have h2 := chL_len a b (N.take k); simp at h2; omega
  refine cnd rfl (fun h1 => ?_) (fun h1 => ?_)
  ·simp only [decide_eq_true_eq, Int.ofNat_lt] at h1
   have ht := chL_take a b N k h1
   have hl1 : (chL a b (N.take k)).length + 1 ≤ 140737488355328 := by omega
   have hl2 : ((chL a b (N.take k)).length + 1) * 16 ≤ 140737488355328 := by omega
   repeat' (with_reducible first | refine nY ?_ | (refine mX ?_; try simp only [go_sem, h1]) | refine kO ?_ (by decide) | (refine regx (by simp only [bodyX, isStX, Bool.false_eq_true, if_false, if_true]; rfl) (by kernel_rfl) (by kernel_rfl) (by decide) ?_ ?_ ?_; (focus simp only [go_sem]; done); (focus simp only [go_sem]; done)) | refine xE ?_ (by simp only [tailX, isStX, Bool.false_eq_true, if_false, if_true]; rfl) (by simp only [go_sem]; rfl) | refine regd (by kernel_rfl) ?_ | (refine cC (implGetAttr_ok a N[k] (by omega)) ?_ ?_; focus simp only [go_sem, and_self]; done) | (refine cC (implGetAttr_ok b N[k] (by omega)) ?_ ?_; focus simp only [go_sem, and_self]; done) | (refine And.intro ?_ ?_; focus omega))
   refine cnd (b := changed a b N[k]) rfl (fun hv => ?_) (fun hv => ?_)
   ·rw [if_pos hv] at ht
    repeat' (with_reducible first | refine nY ?_ | (refine mX ?_; try simp only [go_sem, h1]) | refine kO ?_ (by decide) | (refine regx (by simp only [bodyX, isStX, Bool.false_eq_true, if_false, if_true]; rfl) (by kernel_rfl) (by kernel_rfl) (by decide) ?_ ?_ ?_; (focus simp only [go_sem]; done); (focus simp only [go_sem]; done)) | refine xE ?_ (by simp only [tailX, isStX, Bool.false_eq_true, if_false, if_true]; rfl) (by simp only [go_sem]; rfl) | refine regd (by kernel_rfl) ?_ | (refine And.intro ?_ ?_; focus omega))
    refine L_next (k + 1) ?_ ?_ ?_
    ·simp only [go_sem, ht, List.map_append]; simp
    ·omega
    ·omega
   ·rw [if_neg (by simp [hv]), List.append_nil] at ht
    repeat' (with_reducible first | refine nY ?_ | (refine mX ?_; try simp only [go_sem, h1]) | refine kO ?_ (by decide) | (refine regx (by simp only [bodyX, isStX, Bool.false_eq_true, if_false, if_true]; rfl) (by kernel_rfl) (by kernel_rfl) (by decide) ?_ ?_ ?_; (focus simp only [go_sem]; done); (focus simp only [go_sem]; done)) | refine xE ?_ (by simp only [tailX, isStX, Bool.false_eq_true, if_false, if_true]; rfl) (by simp only [go_sem]; rfl) | refine regd (by kernel_rfl) ?_ | (refine And.intro ?_ ?_; focus omega))
    refine L_next (k + 1) ?_ ?_ ?_
    ·simp only [go_sem, ht]; simp
    ·omega
    ·omega
  ·simp only [decide_eq_false_iff_not] at h1
   have e : k = N.length := by omega
   subst e
   rw [List.take_length] at *
   repeat' (with_reducible first | refine nY ?_ | (refine mX ?_; try simp only [go_sem]) | refine kO ?_ (by decide) | (refine regx (by simp only [bodyX, isStX, Bool.false_eq_true, if_false, if_true]; rfl) (by kernel_rfl) (by kernel_rfl) (by decide) ?_ ?_ ?_; (focus simp only [go_sem]; done); (focus simp only [go_sem]; done)) | refine xE ?_ (by simp only [tailX, isStX, Bool.false_eq_true, if_false, if_true]; rfl) (by simp only [go_sem]; rfl) | refine regd (by kernel_rfl) ?_ | (refine cC (sortedOnce_ok (chL a b N) hlen) ?_ ?_; focus simp only [go_sem, and_self]; done) | (refine And.intro ?_ ?_; focus omega))
   exact retK_ret ⟨⟨_, rfl, by simp only [go_sem, List.take_length]⟩, trivial⟩
theorem specChanged_ok (a b : TFile) (h : wFile a + wFile b ≤ 4300000) : FnC Tryz.prog 258 [gFile a, gFile b] (.o (.w 9 1 ((putL (chg a b)).map encS))) := by
 have ha : a.fAttrs.length + b.fAttrs.length ≤ 4300000 := by unfold wFile wAttrS at h; omega
 refine ent Tryz.func258 rfl Tryz.call258 rfl (fun C => ?_); simp only [go_sem, st0, Tryz.ntmps258]
 repeat' (with_reducible first | refine nY ?_ | (refine mX ?_; try simp only [go_sem, List.length_append, List.length_map, attrNs_len]) | refine kO ?_ (by decide) | (refine regx (by simp only [bodyX, isStX, Bool.false_eq_true, if_false, if_true]; rfl) (by kernel_rfl) (by kernel_rfl) (by decide) ?_ ?_ ?_; (focus simp only [go_sem]; done); (focus simp only [go_sem]; done)) | refine xE ?_ (by simp only [tailX, isStX, Bool.false_eq_true, if_false, if_true]; rfl) (by simp only [go_sem]; rfl) | refine regd (by kernel_rfl) ?_ | (refine cC (specAttrNames_ok a (by omega)) ?_ ?_; focus simp only [go_sem, and_self]; done) | (refine cC (specAttrNames_ok b (by omega)) ?_ ?_; focus simp only [go_sem, and_self]; done) | (refine And.intro ?_ ?_; focus omega))
 simp only [← List.map_append]
 unfold chg
 have hN : (attrNs a.fAttrs ++ attrNs b.fAttrs).length ≤ 4300000 := by rw [List.length_append, attrNs_len, attrNs_len]; omega
 generalize attrNs a.fAttrs ++ attrNs b.fAttrs = N at *
 refine WP_frzd 6 3 rfl rfl ?_
 simp only [go_sem]
 refine WP_frzd 5 2 rfl rfl ?_
 simp only [go_sem]
 refine WP_lp (α := Nat) (fun k => [(5, .o (.d (.sl ((putL (chL a b (N.take k))).map encS)))), (7, oi k)]) (fun k => []) (fun k => k ≤ N.length) (fun k => N.length - k) 0 (fun _ => ?_) ?_ ?_ (fun k hk => ?_)
 ·simp only [go_sem]
 ·simp only [go_sem]; simp [chL, putL]
 ·simp
 ·simp only [go_sem]
  repeat' (with_reducible first | refine nY ?_ | (refine mX ?_; try simp only [go_sem]) | refine kO ?_ (by decide) | (refine regx (by simp only [bodyX, isStX, Bool.false_eq_true, if_false, if_true]; rfl) (by kernel_rfl) (by kernel_rfl) (by decide) ?_ ?_ ?_; (focus simp only [go_sem]; done); (focus simp only [go_sem]; done)) | refine xE ?_ (by simp only [tailX, isStX, Bool.false_eq_true, if_false, if_true]; rfl) (by simp only [go_sem]; rfl) | refine regd (by kernel_rfl) ?_ | (refine And.intro ?_ ?_; focus omega))
  have hlen : (putL (chL a b (N.take k))).length ≤ 4300000 := by have h1 := putL_len (chL a b (N.take k)); have h2 := chL_len a b (N.take k); simp at h2; omega
  refine cnd rfl (fun h1 => ?_) (fun h1 => ?_)
  ·simp only [decide_eq_true_eq, Int.ofNat_lt] at h1
   have ht := chL_take a b N k h1
   repeat' (with_reducible first | refine nY ?_ | (refine mX ?_; try simp only [go_sem, h1]) | refine kO ?_ (by decide) | (refine regx (by simp only [bodyX, isStX, Bool.false_eq_true, if_false, if_true]; rfl) (by kernel_rfl) (by kernel_rfl) (by decide) ?_ ?_ ?_; (focus simp only [go_sem]; done); (focus simp only [go_sem]; done)) | refine xE ?_ (by simp only [tailX, isStX, Bool.false_eq_true, if_false, if_true]; rfl) (by simp only [go_sem]; rfl) | refine regd (by kernel_rfl) ?_ | (refine cC (specGetAttr_ok a N[k] (by omega)) ?_ ?_; focus simp only [go_sem, and_self]; done) | (refine cC (specGetAttr_ok b N[k] (by omega)) ?_ ?_; focus simp only [go_sem, and_self]; done) | (refine And.intro ?_ ?_; focus omega))
   refine cnd (b := changed a b N[k]) rfl (fun hv => ?_) (fun hv => ?_)
   ·rw [if_pos hv] at ht
    repeat' (with_reducible first | refine nY ?_ | (refine mX ?_; try simp only [go_sem, h1]) | refine kO ?_ (by decide) | (refine regx (by simp only [bodyX, isStX, Bool.false_eq_true, if_false, if_true]; rfl) (by kernel_rfl) (by kernel_rfl) (by decide) ?_ ?_ ?_; (focus simp only [go_sem]; done); (focus simp only [go_sem]; done)) | refine xE ?_ (by simp only [tailX, isStX, Bool.false_eq_true, if_false, if_true]; rfl) (by simp only [go_sem]; rfl) | refine regd (by kernel_rfl) ?_ | (refine cC (l04Put_ok (putL (chL a b (N.take k))) N[k] hlen) ?_ ?_; focus simp only [go_sem, and_self]; done) | (refine And.intro ?_ ?_; focus omega))
    refine L_next (k + 1) ?_ ?_ ?_
    ·simp only [go_sem, ht, putL_app]; simp
    ·omega
    ·omega
   ·rw [if_neg (by simp [hv]), List.append_nil] at ht
    repeat' (with_reducible first | refine nY ?_ | (refine mX ?_; try simp only [go_sem, h1]) | refine kO ?_ (by decide) | (refine regx (by simp only [bodyX, isStX, Bool.false_eq_true, if_false, if_true]; rfl) (by kernel_rfl) (by kernel_rfl) (by decide) ?_ ?_ ?_; (focus simp only [go_sem]; done); (focus simp only [go_sem]; done)) | refine xE ?_ (by simp only [tailX, isStX, Bool.false_eq_true, if_false, if_true]; rfl) (by simp only [go_sem]; rfl) | refine regd (by kernel_rfl) ?_ | (refine And.intro ?_ ?_; focus omega))
    refine L_next (k + 1) ?_ ?_ ?_
    ·simp only [go_sem, ht]; simp
    ·omega
    ·omega
  ·simp only [decide_eq_false_iff_not] at h1
   have e : k = N.length := by omega
   subst e
   rw [List.take_length] at *
   repeat' (with_reducible first | refine nY ?_ | (refine mX ?_; try simp only [go_sem]) | refine kO ?_ (by decide) | (refine regx (by simp only [bodyX, isStX, Bool.false_eq_true, if_false, if_true]; rfl) (by kernel_rfl) (by kernel_rfl) (by decide) ?_ ?_ ?_; (focus simp only [go_sem]; done); (focus simp only [go_sem]; done)) | refine xE ?_ (by simp only [tailX, isStX, Bool.false_eq_true, if_false, if_true]; rfl) (by simp only [go_sem]; rfl) | refine regd (by kernel_rfl) ?_ | (refine And.intro ?_ ?_; focus omega))
   exact retK_ret ⟨⟨_, rfl, by simp only [go_sem, List.take_length]⟩, trivial⟩
end Go.Proofs.YtddimbdeggomaaaGreat
end
section
set_option maxRecDepth 100000
set_option maxHeartbeats 4000000
namespace Go.Proofs.YtddimbdeggomaaaGreat
open Go Go.Sx Go.RowKit Go.Proofs
@[go_sem] def encB (b : Bool) : List D := [bv b]
def isNot (n : TNode) : Bool := decide (n.fOp = 5)
def isTwo (n : TNode) : Bool := decide (n.fOp = 6) || decide (n.fOp = 7)
def negStep (q : List TNode) (i : Nat) (L : List Bool) : List Bool := match q[i]? with
 | none => L
 | some n => if n.fOp = 5 then L.set n.fLeft.toNat true else if isTwo n then (L.set n.fLeft.toNat (L.getD i false)).set n.fRight.toNat (L.getD i false) else L
def negJ (q : List TNode) : Nat → List Bool
 | 0 => List.replicate q.length false
 | j + 1 => negStep q (q.length - 1 - j) (negJ q j)
theorem negStep_len (q : List TNode) (i : Nat) (L : List Bool) : (negStep q i L).length = L.length := by
 unfold negStep
 split
 ·rfl
 ·split
  ·simp
  ·split <;> simp
theorem negJ_len (q : List TNode) (j : Nat) : (negJ q j).length = q.length := by
 induction j with
 | zero => simp [negJ]
 | succ j ih => simp only [negJ, negStep_len, ih]
def negs (q : List TNode) : List Bool := negJ q q.length
theorem negs_len (q : List TNode) : (negs q).length = q.length := negJ_len q q.length
theorem negJ_step (q : List TNode) (i : Nat) (h : i < q.length) : negJ q (q.length - i) = negStep q i (negJ q (q.length - (i + 1))) := by
 have e : q.length - i = (q.length - (i + 1)) + 1 := by omega
 have e2 : q.length - 1 - (q.length - (i + 1)) = i := by omega
 rw [e, negJ, e2]
def isDirOp (n : TNode) : Bool := inB n.fOp 8 9
def sel (q : List TNode) (b : Bool) (k : Nat) : List ByteArray := match q[k]?, (negs q)[k]? with
 | some n, some x => if isDirOp n && (x == b) then [n.fName] else []
 | _, _ => []
def depsK (q : List TNode) (b : Bool) (k : Nat) : List ByteArray := (List.range k).flatMap (sel q b)
def depsL (q : List TNode) (b : Bool) : List ByteArray := depsK q b q.length
theorem depsK_succ (q : List TNode) (b : Bool) (k : Nat) : depsK q b (k + 1) = depsK q b k ++ sel q b k := by
 simp [depsK, List.range_succ, List.flatMap_append]
theorem sel_len (q : List TNode) (b : Bool) (k : Nat) : (sel q b k).length ≤ 1 := by
 unfold sel
 split
 ·split <;> simp
 ·simp
theorem depsK_len (q : List TNode) (b : Bool) (k : Nat) : (depsK q b k).length ≤ k := by
 induction k with
 | zero => simp [depsK]
 | succ k ih => rw [depsK_succ, List.length_append]; have := sel_len q b k; omega
theorem getB (L : List Bool) (i : Nat) (h : i < L.length) : L.getD i false = L[i] := by simp [List.getD_eq_getElem?_getD, h]
theorem setBF (L : List Bool) (l : Nat) : (L.map encB).set l [D.v (Value.bool false)] = (L.set l false).map encB := by rw [List.map_set]; rfl
theorem setBT (L : List Bool) (l : Nat) : (L.map encB).set l [D.v (Value.bool true)] = (L.set l true).map encB := by rw [List.map_set]; rfl
theorem getSet {L : List Bool} {i : Nat} {b : Bool} (h : i < L.length) (hb : L[i] = b) (l : Nat) (h' : i < (L.set l b).length) : (L.set l b)[i] = b := by
 rw [List.getElem_set]; split
 ·rfl
 ·exact hb
theorem getSet2 {L : List Bool} {i : Nat} {b : Bool} (h : i < L.length) (hb : L[i] = b) (l r : Nat) (h' : i < ((L.set l b).set r b).length) : ((L.set l b).set r b)[i] = b := by
 rw [List.getElem_set]; split
 ·rfl
 ·exact getSet h hb l _
theorem negStep5 {q : List TNode} {i : Nat} (h : i < q.length) (L : List Bool) {l : Nat} (h5 : q[i].fOp = 5) (hl : q[i].fLeft = (l : Int)) : negStep q i L = L.set l true := by
 simp [negStep, List.getElem?_eq_getElem h, h5, hl]
theorem negStep67 {q : List TNode} {i : Nat} (h : i < q.length) (L : List Bool) (hi : i < L.length) {l m : Nat} (h5 : ¬ q[i].fOp = 5) (h67 : q[i].fOp = 6 ∨ q[i].fOp = 7) (hl : q[i].fLeft = (l : Int)) (hm : q[i].fRight = (m : Int)) : negStep q i L = (L.set l L[i]).set m L[i] := by
 have h2 : isTwo q[i] = true := by unfold isTwo; rcases h67 with h | h <;> simp [h]
 simp only [negStep, List.getElem?_eq_getElem h, h5, if_false, h2, if_true, hl, hm, Int.toNat_natCast, getB L i hi]
theorem negStepNo {q : List TNode} {i : Nat} (h : i < q.length) (L : List Bool) (h5 : ¬ q[i].fOp = 5) (h67 : ¬ (q[i].fOp = 6 ∨ q[i].fOp = 7)) : negStep q i L = L := by
 have h2 : isTwo q[i] = false := by
  unfold isTwo
  have h6 : ¬ q[i].fOp = 6 := fun h => h67 (.inl h)
  have h7 : ¬ q[i].fOp = 7 := fun h => h67 (.inr h)
  simp [h6, h7]
 simp only [negStep, List.getElem?_eq_getElem h, h5, if_false, h2, Bool.false_eq_true]
theorem implNeg_ok (q : List TNode) (hq : okQ q = true) (hw : wNodeS q ≤ 4300000) : FnC Tryz.prog 313 [.o (.d (.sl (q.map encNode)))] (.o (.w 4 1 ((negs q).map encB))) := by
 have hl9 := okQ_len hq
 refine ent Tryz.func313 rfl Tryz.call313 rfl (fun C => ?_); simp only [go_sem, st0, Tryz.ntmps313]
 have q0 := @hq; refine w1_1 (implIsValidQuery_ok q hw) ?_
 refine WP_lp (α := Nat) (fun m => [(4, oi ((m : Int) - 1))]) (fun m => [(0, .row 4 1 ((negJ q (q.length - m)).map encB) true)]) (fun m => m ≤ q.length) (fun m => m) q.length (fun _ => ?_) ?_ ?_ (fun m hm => ?_)
 ·simp only [go_sem]
 ·simp only [go_sem]; simp [negJ, encB]
 ·simp
 ·simp only [go_sem]
  refine w0_0 ?_
  refine cnd rfl (fun h => ?_) (fun h => ?_)
  ·simp only [decide_eq_true_eq] at h
   obtain ⟨i, rfl⟩ : ∃ i, m = i + 1 := ⟨m - 1, by omega⟩
   have hx : ((i + 1 : Nat) : Int) - 1 = (i : Int) := by omega
   have hi : i < q.length := by omega
   have hst := negJ_step q i hi
   have hLl := negJ_len q (q.length - (i + 1))
   generalize negJ q (q.length - (i + 1)) = L at *
   have hiL : i < L.length := by omega
   have hok := okQ_at hq (List.getElem?_eq_getElem hi)
   have hop := okNode_op hok
   by_cases h5 : q[i].fOp = 5
   ·obtain ⟨l, hl, hli⟩ := okNode_left hok (.inl h5)
    have hlL : l < L.length := by omega
    rw [negStep5 hi L h5 hl] at hst
    cases hb : L[i]
    all_goals
     have q0 := @hx; have q1 := @hi; have q2 := @hiL; have q3 := @hb; have q4 := @h5; have q5 := @hl; have q6 := @hlL; have q7 := @decide_true; have q8 := @decide_false; have q9 := @Int.toNat_natCast; refine w10_0 ?_
     refine L_next i ?_ ?_ ?_
     ·simp only [go_sem, hst]; simp [encB]
     ·omega
     ·omega
   by_cases h67 : q[i].fOp = 6 ∨ q[i].fOp = 7
   ·obtain ⟨l, hl, hli⟩ := okNode_left hok (.inr h67)
    obtain ⟨r, hr, hri⟩ := okNode_right hok h67
    have hlL : l < L.length := by omega
    have hrL : r < L.length := by omega
    rw [negStep67 hi L hiL h5 h67 hl hr] at hst
    by_cases h6 : q[i].fOp = 6
    ·cases hb : L[i]
     all_goals
      rw [hb] at hst
      have hrL1 : r < (L.set l false).length := by simpa using hrL
      have hrL2 : r < (L.set l true).length := by simpa using hrL
      repeat' (with_reducible first | refine nY ?_ | (refine mX ?_; try simp only [go_sem, hx, hi, hiL, hb, h5, h6, hl, hr, hlL, hrL, setBF, setBT, hrL1, hrL2, decide_true, decide_false, Int.toNat_natCast]) | refine kO ?_ (by decide) | (refine rS [15, 17] [] (by simp only [go_sem]; rfl) (by simp only [go_sem]; rfl) (by decide +kernel) ?_ ?_; (focus simp only [go_sem]; done)) | refine st_cons (aX ?_) (uX ?_) | refine st_nil (aX ?_) ?_ | (refine uA ?_; simp only [go_sem, hx, hi, hiL, hb, h5, h6, hl, hr, hlL, hrL, setBF, setBT, hrL1, hrL2, decide_true, decide_false, Int.toNat_natCast]; (repeat' first | omega | refine And.intro ?_ ?_); done) | refine regd (by kernel_rfl) ?_ | (refine And.intro ?_ ?_; focus omega))
      refine L_next i ?_ ?_ ?_
      ·simp only [go_sem, hst]; simp [encB]
      ·omega
      ·omega
    ·have h7 : q[i].fOp = 7 := by omega
     cases hb : L[i]
     all_goals
      rw [hb] at hst
      have hrL1 : r < (L.set l false).length := by simpa using hrL
      have hrL2 : r < (L.set l true).length := by simpa using hrL
      repeat' (with_reducible first | refine nY ?_ | (refine mX ?_; try simp only [go_sem, hx, hi, hiL, hb, h5, h6, h7, hl, hr, hlL, hrL, setBF, setBT, hrL1, hrL2, decide_true, decide_false, Int.toNat_natCast]) | refine kO ?_ (by decide) | (refine rS [15, 17] [] (by simp only [go_sem]; rfl) (by simp only [go_sem]; rfl) (by decide +kernel) ?_ ?_; (focus simp only [go_sem]; done)) | refine st_cons (aX ?_) (uX ?_) | refine st_nil (aX ?_) ?_ | (refine uA ?_; simp only [go_sem, hx, hi, hiL, hb, h5, h6, h7, hl, hr, hlL, hrL, setBF, setBT, hrL1, hrL2, decide_true, decide_false, Int.toNat_natCast]; (repeat' first | omega | refine And.intro ?_ ?_); done) | refine regd (by kernel_rfl) ?_ | (refine And.intro ?_ ?_; focus omega))
      refine L_next i ?_ ?_ ?_
      ·simp only [go_sem, hst]; simp [encB]
      ·omega
      ·omega
   ·have h6 : ¬ q[i].fOp = 6 := fun h => h67 (.inl h)
    have h7 : ¬ q[i].fOp = 7 := fun h => h67 (.inr h)
    rw [negStepNo hi L h5 h67] at hst
    cases hb : L[i]
    all_goals
     have q0 := @hx; have q1 := @hi; have q2 := @hiL; have q3 := @hb; have q4 := @h5; have q5 := @h6; have q6 := @h7; have q7 := @decide_true; have q8 := @decide_false; have q9 := @Int.toNat_natCast; refine w10_0 ?_
     refine L_next i ?_ ?_ ?_
     ·simp only [go_sem, hst]; simp [encB]
     ·omega
     ·omega
  ·simp only [decide_eq_false_iff_not] at h
   have e : m = 0 := by omega
   subst e
   refine w0_0 ?_
   exact retK_ret ⟨⟨_, rfl, by simp only [go_sem, negs, Nat.sub_zero]⟩, trivial⟩
theorem specNeg_ok (q : List TNode) (hq : okQ q = true) (hw : wNodeS q ≤ 4300000) : FnC Tryz.prog 312 [.o (.d (.sl (q.map encNode)))] (.o (.w 4 1 ((negs q).map encB))) := by
 have hl9 := okQ_len hq
 refine ent Tryz.func312 rfl Tryz.call312 rfl (fun C => ?_); simp only [go_sem, st0, Tryz.ntmps312]
 have q0 := @hq; refine w1_1 (specIsValidQuery_ok q hw) ?_
 refine WP_lp (α := Nat) (fun m => [(4, oi ((m : Int) - 1))]) (fun m => [(0, .row 4 1 ((negJ q (q.length - m)).map encB) true)]) (fun m => m ≤ q.length) (fun m => m) q.length (fun _ => ?_) ?_ ?_ (fun m hm => ?_)
 ·simp only [go_sem]
 ·simp only [go_sem]; simp [negJ, encB]
 ·simp
 ·simp only [go_sem]
  refine w0_0 ?_
  refine cnd rfl (fun h => ?_) (fun h => ?_)
  ·simp only [decide_eq_true_eq] at h
   obtain ⟨i, rfl⟩ : ∃ i, m = i + 1 := ⟨m - 1, by omega⟩
   have hx : ((i + 1 : Nat) : Int) - 1 = (i : Int) := by omega
   have hi : i < q.length := by omega
   have hst := negJ_step q i hi
   have hLl := negJ_len q (q.length - (i + 1))
   generalize negJ q (q.length - (i + 1)) = L at *
   have hiL : i < L.length := by omega
   have hok := okQ_at hq (List.getElem?_eq_getElem hi)
   have hop := okNode_op hok
   by_cases h5 : q[i].fOp = 5
   ·obtain ⟨l, hl, hli⟩ := okNode_left hok (.inl h5)
    have hlL : l < L.length := by omega
    rw [negStep5 hi L h5 hl] at hst
    cases hb : L[i]
    all_goals
     have q0 := @hx; have q1 := @hi; have q2 := @hiL; have q3 := @hb; have q4 := @h5; have q5 := @hl; have q6 := @hlL; have q7 := @decide_true; have q8 := @decide_false; have q9 := @Int.toNat_natCast; refine w10_0 ?_
     refine L_next i ?_ ?_ ?_
     ·simp only [go_sem, hst]; simp [encB]
     ·omega
     ·omega
   by_cases h67 : q[i].fOp = 6 ∨ q[i].fOp = 7
   ·obtain ⟨l, hl, hli⟩ := okNode_left hok (.inr h67)
    obtain ⟨r, hr, hri⟩ := okNode_right hok h67
    have hlL : l < L.length := by omega
    have hrL : r < L.length := by omega
    rw [negStep67 hi L hiL h5 h67 hl hr] at hst
    by_cases h6 : q[i].fOp = 6
    ·cases hb : L[i]
     all_goals
      rw [hb] at hst
      have hs1 := getSet hiL hb l
      have hs2 := getSet2 hiL hb l r
      have hrL1 : r < (L.set l false).length := by simpa using hrL
      have hrL2 : r < (L.set l true).length := by simpa using hrL
      repeat' (with_reducible first | refine nY ?_ | (refine mX ?_; try simp only [go_sem, hx, hi, hiL, hb, h5, h6, hl, hr, hlL, hrL, setBF, setBT, hrL1, hrL2, hs1, hs2, decide_true, decide_false, Int.toNat_natCast]) | refine kO ?_ (by decide) | (refine rS [8] [] (by simp only [go_sem]; rfl) (by simp only [go_sem]; rfl) (by decide +kernel) ?_ ?_; (focus simp only [go_sem]; done)) | refine st_cons (aX ?_) (uX ?_) | refine st_nil (aX ?_) ?_ | (refine uA ?_; simp only [go_sem, hx, hi, hiL, hb, h5, h6, hl, hr, hlL, hrL, setBF, setBT, hrL1, hrL2, hs1, hs2, decide_true, decide_false, Int.toNat_natCast]; (repeat' first | omega | refine And.intro ?_ ?_); done) | refine regd (by kernel_rfl) ?_ | (refine And.intro ?_ ?_; focus omega))
      refine L_next i ?_ ?_ ?_
      ·simp only [go_sem, hst]; simp [encB]
      ·omega
      ·omega
    ·have h7 : q[i].fOp = 7 := by omega
     cases hb : L[i]
     all_goals
      rw [hb] at hst
      have hs1 := getSet hiL hb l
      have hs2 := getSet2 hiL hb l r
      have hrL1 : r < (L.set l false).length := by simpa using hrL
      have hrL2 : r < (L.set l true).length := by simpa using hrL
      repeat' (with_reducible first | refine nY ?_ | (refine mX ?_; try simp only [go_sem, hx, hi, hiL, hb, h5, h6, h7, hl, hr, hlL, hrL, setBF, setBT, hrL1, hrL2, hs1, hs2, decide_true, decide_false, Int.toNat_natCast]) | refine kO ?_ (by decide) | (refine rS [8] [] (by simp only [go_sem]; rfl) (by simp only [go_sem]; rfl) (by decide +kernel) ?_ ?_; (focus simp only [go_sem]; done)) | refine st_cons (aX ?_) (uX ?_) | refine st_nil (aX ?_) ?_ | (refine uA ?_; simp only [go_sem, hx, hi, hiL, hb, h5, h6, h7, hl, hr, hlL, hrL, setBF, setBT, hrL1, hrL2, hs1, hs2, decide_true, decide_false, Int.toNat_natCast]; (repeat' first | omega | refine And.intro ?_ ?_); done) | refine regd (by kernel_rfl) ?_ | (refine And.intro ?_ ?_; focus omega))
      refine L_next i ?_ ?_ ?_
      ·simp only [go_sem, hst]; simp [encB]
      ·omega
      ·omega
   ·have h6 : ¬ q[i].fOp = 6 := fun h => h67 (.inl h)
    have h7 : ¬ q[i].fOp = 7 := fun h => h67 (.inr h)
    rw [negStepNo hi L h5 h67] at hst
    cases hb : L[i]
    all_goals
     have q0 := @hx; have q1 := @hi; have q2 := @hiL; have q3 := @hb; have q4 := @h5; have q5 := @h6; have q6 := @h7; have q7 := @decide_true; have q8 := @decide_false; have q9 := @Int.toNat_natCast; refine w10_0 ?_
     refine L_next i ?_ ?_ ?_
     ·simp only [go_sem, hst]; simp [encB]
     ·omega
     ·omega
  ·simp only [decide_eq_false_iff_not] at h
   have e : m = 0 := by omega
   subst e
   refine w0_0 ?_
   exact retK_ret ⟨⟨_, rfl, by simp only [go_sem, negs, Nat.sub_zero]⟩, trivial⟩
end Go.Proofs.YtddimbdeggomaaaGreat
end
section
set_option maxRecDepth 100000
set_option maxHeartbeats 4000000
namespace Go.Proofs.YtddimbdeggomaaaGreat
open Go Go.Sx Go.RowKit Go.Proofs
theorem sel_eq (q : List TNode) (b : Bool) (k : Nat) (h : k < q.length) (h2 : k < (negs q).length) : sel q b k = if isDirOp q[k] && ((negs q)[k] == b) then [q[k].fName] else [] := by
 unfold sel; rw [List.getElem?_eq_getElem h, List.getElem?_eq_getElem h2]
theorem dirOp_ok (n : TNode) : FnC Tryz.prog 304 [gNode n] (ob (isDirOp n)) := by
 refine ent Tryz.func304 rfl Tryz.call304 rfl (fun C => ?_); simp only [go_sem, st0, Tryz.ntmps304]
 by_cases c8 : n.fOp = 8
 ·have hd : isDirOp n = true := by simp [isDirOp, inB, c8]
  have q0 := @c8; have q1 := @decide_true; refine w2_0 ?_
  exact retK_ret ⟨⟨_, rfl, by simp only [go_sem, hd]⟩, trivial⟩
 by_cases c9 : n.fOp = 9
 ·have hd : isDirOp n = true := by simp [isDirOp, inB, c9]
  have q0 := @c8; have q1 := @c9; have q2 := @decide_true; have q3 := @decide_false; refine w4_0 ?_
  exact retK_ret ⟨⟨_, rfl, by simp only [go_sem, hd]⟩, trivial⟩
 ·have hd : isDirOp n = false := by
   rw [← Bool.not_eq_true]
   simp only [isDirOp, inB, Bool.and_eq_true, decide_eq_true_eq]; omega
  have q0 := @c8; have q1 := @c9; have q2 := @decide_true; have q3 := @decide_false; refine w4_0 ?_
  exact retK_ret ⟨⟨_, rfl, by simp only [go_sem, hd]⟩, trivial⟩
theorem implDeps_ok (q : List TNode) (b : Bool) (hq : okQ q = true) (hw : wNodeS q ≤ 4300000) : FnC Tryz.prog 290 [.o (.d (.sl (q.map encNode))), ob b] (.o (.w 9 1 ((onceS (depsL q b)).map encS))) := by
 have hl9 := okQ_len hq
 have hnl := negs_len q
 refine ent Tryz.func290 rfl Tryz.call290 rfl (fun C => ?_); simp only [go_sem, st0, Tryz.ntmps290]
 refine w0_1 (implNeg_ok q hq hw) ?_
 refine WP_lp (α := Nat) (fun k => [(5, .o (.s 0)), (8, .o .u), (12, oi k)]) (fun k => [(0, .row 9 1 ((depsK q b k).map encS) true)]) (fun k => k ≤ q.length) (fun k => q.length - k) 0 (fun _ => ?_) ?_ ?_ (fun k hk => ?_)
 ·simp only [go_sem]
 ·simp only [go_sem]; simp [depsK]
 ·simp
 ·simp only [go_sem]
  refine w0_0 ?_
  refine cnd rfl (fun h1 => ?_) (fun h1 => ?_)
  ·simp only [decide_eq_true_eq, Int.ofNat_lt] at h1
   have h2 : k < (negs q).length := h1
   have h1 : k < q.length := by omega
   have hdl := depsK_len q b k
   have hs := sel_eq q b k h1 h2
   have ht := depsK_succ q b k
   rw [hs] at ht
   have hl1 : (depsK q b k).length + 1 ≤ 140737488355328 := by omega
   have hl2 : ((depsK q b k).length + 1) * 16 ≤ 140737488355328 := by omega
   cases hd : isDirOp q[k]
   ·simp only [hd, Bool.false_and, Bool.false_eq_true, if_false, List.append_nil] at ht
    have q0 := @h1; have q1 := @h2; have q2 := @hd; refine w3_1 (dirOp_ok q[k]) ?_
    refine L_next (k + 1) ?_ ?_ ?_
    ·simp only [go_sem, ht]; simp
    ·omega
    ·omega
   ·cases hx : (negs q)[k] <;> cases b
    all_goals
     simp only [hd, hx, Bool.true_and, Bool.true_beq, Bool.false_beq, Bool.not_true, Bool.not_false, Bool.false_eq_true, if_false, if_true, List.append_nil] at ht
     have q0 := @h1; have q1 := @h2; have q2 := @hd; have q3 := @hx; have q4 := @Bool.true_beq; have q5 := @Bool.false_beq; refine w6_1 (dirOp_ok q[k]) ?_
     refine L_next (k + 1) ?_ ?_ ?_
     ·simp only [go_sem, ht, List.map_append]; simp
     ·omega
     ·omega
  ·simp only [decide_eq_false_iff_not] at h1
   have e : k = q.length := by omega
   subst e
   have hdl := depsK_len q b q.length
   refine w0_1 (sortedOnce_ok (depsK q b q.length) (by omega)) ?_
   exact retK_ret ⟨⟨_, rfl, by simp only [go_sem, depsL]⟩, trivial⟩
theorem specDeps_ok (q : List TNode) (b : Bool) (hq : okQ q = true) (hw : wNodeS q ≤ 4300000) : FnC Tryz.prog 286 [.o (.d (.sl (q.map encNode))), ob b] (.o (.w 9 1 ((putL (depsL q b)).map encS))) := by
 have hl9 := okQ_len hq
 have hnl := negs_len q
 refine ent Tryz.func286 rfl Tryz.call286 rfl (fun C => ?_); simp only [go_sem, st0, Tryz.ntmps286]
 refine w0_1 (specNeg_ok q hq hw) ?_
 refine WP_frzd 5 0 rfl rfl ?_
 simp only [go_sem]
 refine WP_lp (α := Nat) (fun k => [(5, .o (.d (.sl ((putL (depsK q b k)).map encS)))), (7, oi k), (8, .o .u)]) (fun _ => []) (fun k => k ≤ q.length) (fun k => q.length - k) 0 (fun _ => ?_) ?_ ?_ (fun k hk => ?_)
 ·simp only [go_sem]
 ·simp only [go_sem]; simp [depsK, putL]
 ·simp
 ·simp only [go_sem]
  have hdl := depsK_len q b k
  have hlen : (putL (depsK q b k)).length ≤ 4300000 := by have h1 := putL_len (depsK q b k); omega
  refine w0_0 ?_
  refine cnd rfl (fun h1 => ?_) (fun h1 => ?_)
  ·simp only [decide_eq_true_eq, Int.ofNat_lt] at h1
   have h2 : k < (negs q).length := h1
   have h1 : k < q.length := by omega
   have hs := sel_eq q b k h1 h2
   have ht := depsK_succ q b k
   rw [hs] at ht
   cases hd : isDirOp q[k]
   ·simp only [hd, Bool.false_and, Bool.false_eq_true, if_false, List.append_nil] at ht
    have q0 := @h1; have q1 := @h2; have q2 := @hd; refine w3_1 (show FnC Tryz.prog _ _ (ob (isDirOp q[k])) from l01In_ok q[k].fOp 8 9) ?_
    refine L_next (k + 1) ?_ ?_ ?_
    ·simp only [go_sem, ht]; simp
    ·omega
    ·omega
   ·cases hx : (negs q)[k] <;> cases b
    all_goals
     simp only [hd, hx, Bool.true_and, Bool.true_beq, Bool.false_beq, Bool.not_true, Bool.not_false, Bool.false_eq_true, if_false, if_true, List.append_nil] at ht
     have q0 := @h1; have q1 := @h2; have q2 := @hd; have q3 := @hx; have q4 := @Bool.true_beq; have q5 := @Bool.false_beq; refine w6_2 (show FnC Tryz.prog _ _ (ob (isDirOp q[k])) from l01In_ok q[k].fOp 8 9) (l04Put_ok (putL (depsK q _ k)) q[k].fName hlen) ?_
     refine L_next (k + 1) ?_ ?_ ?_
     ·simp only [go_sem, ht, putL_app]; simp
     ·omega
     ·omega
  ·simp only [decide_eq_false_iff_not] at h1
   have e : k = q.length := by omega
   subst e
   refine w0_0 ?_
   exact retK_ret ⟨⟨_, rfl, by simp only [go_sem, depsL]⟩, trivial⟩
theorem implPos_ok (q : List TNode) (hq : okQ q = true) (hw : wNodeS q ≤ 4300000) : FnC Tryz.prog 241 [.o (.d (.sl (q.map encNode)))] (.o (.w 9 1 ((onceS (depsL q false)).map encS))) := by
 refine ent Tryz.func241 rfl Tryz.call241 rfl (fun C => ?_); simp only [go_sem, st0, Tryz.ntmps241]
 refine w0_1 (implDeps_ok q false hq hw) ?_
 exact retK_ret ⟨⟨_, rfl, by simp only [go_sem]⟩, trivial⟩
theorem implNegD_ok (q : List TNode) (hq : okQ q = true) (hw : wNodeS q ≤ 4300000) : FnC Tryz.prog 242 [.o (.d (.sl (q.map encNode)))] (.o (.w 9 1 ((onceS (depsL q true)).map encS))) := by
 refine ent Tryz.func242 rfl Tryz.call242 rfl (fun C => ?_); simp only [go_sem, st0, Tryz.ntmps242]
 refine w0_1 (implDeps_ok q true hq hw) ?_
 exact retK_ret ⟨⟨_, rfl, by simp only [go_sem]⟩, trivial⟩
theorem specPos_ok (q : List TNode) (hq : okQ q = true) (hw : wNodeS q ≤ 4300000) : FnC Tryz.prog 234 [.o (.d (.sl (q.map encNode)))] (.o (.w 9 1 ((putL (depsL q false)).map encS))) := by
 refine ent Tryz.func234 rfl Tryz.call234 rfl (fun C => ?_); simp only [go_sem, st0, Tryz.ntmps234]
 refine w0_1 (specDeps_ok q false hq hw) ?_
 exact retK_ret ⟨⟨_, rfl, by simp only [go_sem]⟩, trivial⟩
theorem specNegD_ok (q : List TNode) (hq : okQ q = true) (hw : wNodeS q ≤ 4300000) : FnC Tryz.prog 236 [.o (.d (.sl (q.map encNode)))] (.o (.w 9 1 ((putL (depsL q true)).map encS))) := by
 refine ent Tryz.func236 rfl Tryz.call236 rfl (fun C => ?_); simp only [go_sem, st0, Tryz.ntmps236]
 refine w0_1 (specDeps_ok q true hq hw) ?_
 exact retK_ret ⟨⟨_, rfl, by simp only [go_sem]⟩, trivial⟩
end Go.Proofs.YtddimbdeggomaaaGreat
end
