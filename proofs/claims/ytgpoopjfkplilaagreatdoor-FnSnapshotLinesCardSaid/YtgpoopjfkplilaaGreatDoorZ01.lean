/- Joined texts. -/
import Derived.Lib.SplitLaws
import Derived.Lib.FieldsLaws
import Derived.Lib.Fields
import Derived.Lib.JoinLaws
import Derived.Lib.Join
import Derived.Ground.NamesProg
import Derived.Ground.Names2Prog
import Derived.Shelf.Sort.Plain
import Derived.Shelf.Slices.In.SortNone
import Derived.Shelf.Slices.CompactI
import Derived.Shelf.Slices.CompactS
import Derived.Test.YtgpoopjfkplilaaGreatDoorProg
import Derived.Shelf.Strconv.Itoa3
import Derived.Room.Shelf.Join48
import Derived.Shelf.Strings.Split
import Derived.Shelf.Strings.Fields
import Derived.Shelf.Strconv.Atoi
import Derived.Shelf.Strconv.AtoiErr
set_option linter.all false
section
namespace Go.Wd
open Go
def splitL (c : UInt8) : List UInt8 → List (List UInt8)
 | [] => [[]]
 | b :: l => if b = c then [] :: splitL c l else match splitL c l with
  | p :: ps => (b :: p) :: ps
  | [] => [[b]]
theorem a2X (c : UInt8) (l : List UInt8) : splitL c l ≠ [] := by
 cases l with
 | nil => simp [splitL]
 | cons b l =>
  unfold splitL
  split
  ·simp
  ·split <;> simp
theorem tH {c b : UInt8} (h : b ≠ c) (l : List UInt8) : ∃ p ps, splitL c l = p :: ps ∧ splitL c (b :: l) = (b :: p) :: ps := by
 cases hs : splitL c l with
 | nil => exact absurd hs (a2X c l)
 | cons p ps => exact ⟨p, ps, rfl, by rw [splitL, if_neg h, hs]⟩
theorem a1z {c : UInt8} : ∀ {w : List UInt8}, c ∉ w → ∀ l, splitL c (w ++ c :: l) = w :: splitL c l
 | [], _, l => by simp [splitL]
 | b :: w, h, l => by
  have hb : b ≠ c := fun e => h (by simp [e])
  obtain ⟨p, ps, e1, e2⟩ := tH hb (w ++ c :: l)
  rw [a1z (fun hm => h (by simp [hm]))] at e1
  cases e1
  exact e2
theorem a0x {c : UInt8} : ∀ {w : List UInt8}, c ∉ w → splitL c w = [w]
 | [], _ => rfl
 | b :: w, h => by
  have hb : b ≠ c := fun e => h (by simp [e])
  obtain ⟨p, ps, e1, e2⟩ := tH hb w
  rw [a0x (fun hm => h (by simp [hm]))] at e1
  cases e1
  exact e2
theorem a5v (x y : List UInt8) (r : List (List UInt8)) (sep : List UInt8) : Lib.join (x :: y :: r) sep = x ++ (sep ++ Lib.join (y :: r) sep) := by
 rw [Lib.join_cons, Lib.join_cons]
 simp [Lib.joinTail]
def szs (ws : List (List UInt8)) : Nat := (ws.map fun w => w.length + 1).sum
theorem xH (w : List UInt8) (ws : List (List UInt8)) : szs (w :: ws) = w.length + 1 + szs ws := by simp [szs]
theorem tJ (c : UInt8) : ∀ l, szs (splitL c l) = l.length + 1
 | [] => rfl
 | b :: l => by
  by_cases h : b = c
  ·rw [splitL, if_pos h, xH, tJ c l]; simp; omega
  ·obtain ⟨p, ps, e1, e2⟩ := tH h l
   have ih := tJ c l
   rw [e1, xH] at ih
   rw [e2, xH]
   simp; omega
theorem first_at (c : UInt8) : ∀ l : List UInt8, c ∉ l ∨ ∃ w r, l = w ++ c :: r ∧ c ∉ w
 | [] => .inl (by simp)
 | b :: l => by
  by_cases h : b = c
  ·exact .inr ⟨[], l, by rw [h]; rfl, by simp⟩
  ·rcases first_at c l with h1 | ⟨w, r, rfl, h1⟩
   ·exact .inl (by simp [h1, Ne.symm h])
   ·exact .inr ⟨b :: w, r, rfl, by simp [h1, Ne.symm h]⟩
theorem a4j (c : UInt8) (l : List UInt8) (i : Nat) : Lib.occAt l [c] i = (l[i]? == some c) := by
 unfold Lib.occAt
 cases h : l.drop i with
 | nil =>
  have : l[i]? = none := by rw [List.getElem?_eq_none]; simpa using h
  rw [this]; rfl
 | cons x t =>
  have : l[i]? = some x := by
   have := congrArg (·[0]?) h
   simpa using this
  rw [this]
  simp only [List.isPrefixOf, Bool.and_true]
  by_cases e : c = x
  ·subst e; simp
  ·have : (c == x) = false := by simpa using e
   rw [this]
   symm
   rw [beq_eq_false_iff_ne]
   intro h'
   cases h'
   exact e rfl
theorem a9N (c : UInt8) : ∀ (n : Nat) (l : List UInt8), l.length ≤ n → Lib.splitK [c] 0 (Lib.count l [c]) l = splitL c l := by
 intro n
 induction n with
 | zero =>
  intro l h
  have : l = [] := List.eq_nil_of_length_eq_zero (by omega)
  subst this
  rfl
 | succ n ih =>
  intro l h
  rcases first_at c l with h1 | ⟨w, r, rfl, h1⟩
  ·have e : Lib.index l [c] = -1 := Lib.index_none fun j _ => by
    rw [a4j, beq_eq_false_iff_ne]
    intro h'
    exact h1 (List.mem_of_getElem? h')
   rw [Lib.count_miss e, a0x h1]; rfl
  ·have e : Lib.index (w ++ c :: r) [c] = (w.length : Nat) := by
    refine Lib.index_first (by simp) ?_ fun j hj => ?_
    ·rw [a4j]; simp
    ·rw [a4j, beq_eq_false_iff_ne, List.getElem?_append_left hj]
     intro h'
     exact h1 (List.mem_of_getElem? h')
   have ed : (w ++ c :: r).drop (w.length + [c].length) = r := by simp
   rw [Lib.count_hit (by simp) e, ed, Nat.add_comm 1, a1z h1, Lib.splitK, e]
   have hm : ¬ ((w.length : Int) == -1) = true := fun h => by have := beq_iff_eq.1 h; omega
   rw [if_neg hm]
   simp only [Int.toNat_natCast, ed, Nat.add_zero, List.take_left']
   rw [ih r (by simp at h; omega)]
theorem b6q {a b : ByteArray} (h : a.data.toList = b.data.toList) : a = b := ByteArray.ext (Array.ext' h)
theorem b4w {l m : List ByteArray} (h : l.map (·.data.toList) = m.map (·.data.toList)) : l = m := by
 induction l generalizing m with
 | nil => cases m with
  | nil => rfl
  | cons => simp at h
 | cons x l ih => cases m with
  | nil => simp at h
  | cons y m =>
   simp only [List.map_cons, List.cons.injEq] at h
   rw [b6q h.1, ih h.2]
def ofL (l : List (List UInt8)) : List ByteArray := l.map fun w => ⟨w.toArray⟩
theorem a5w (l : List (List UInt8)) : (ofL l).map (·.data.toList) = l := by
 unfold ofL
 rw [List.map_map]
 conv => rhs; rw [← List.map_id l]
 apply List.map_congr_left
 intro w _
 simp
theorem b3f (l : List ByteArray) : ofL (l.map (·.data.toList)) = l := b4w (by rw [a5w])
def pieces (c : UInt8) (s : ByteArray) : List ByteArray := ofL (splitL c s.data.toList)
theorem xI (c : UInt8) (s : ByteArray) : Lib.splitB ⟨#[c]⟩ 0 (Lib.countB s ⟨#[c]⟩) s = pieces c s := by
 apply b4w
 rw [Lib.splitB_data, pieces, a5w]
 exact a9N c _ _ (Nat.le_refl _)
theorem a9O (c : UInt8) (s : ByteArray) : pieces c s ≠ [] := by
 unfold pieces ofL
 simp [a2X]
def zs (ws : List ByteArray) : Nat := (ws.map fun w => w.size + 1).sum
theorem jA (w : ByteArray) (ws : List ByteArray) : zs (w :: ws) = w.size + 1 + zs ws := by simp [zs]
theorem wL : zs [] = 0 := rfl
theorem zT (a b : List ByteArray) : zs (a ++ b) = zs a + zs b := by simp [zs]
theorem b1e (l : List (List UInt8)) : zs (ofL l) = szs l := by
 unfold zs szs ofL
 rw [List.map_map]
 rfl
theorem a1A (ws : List ByteArray) : ws.length ≤ zs ws := by
 induction ws with
 | nil => simp
 | cons w ws ih => rw [jA, List.length_cons]; omega
theorem a4k {ws : List ByteArray} {w : ByteArray} (h : w ∈ ws) : w.size + 1 ≤ zs ws := by
 induction ws with
 | nil => cases h
 | cons x ws ih =>
  rw [jA]
  rcases List.mem_cons.1 h with rfl | h
  ·omega
  ·have := ih h; omega
theorem tK (c : UInt8) (s : ByteArray) : zs (pieces c s) = s.size + 1 := by
 rw [pieces, b1e, tJ]; rfl
def cat (c : UInt8) (ws : List ByteArray) : ByteArray := ⟨(Lib.join (ws.map (·.data.toList)) [c]).toArray⟩
theorem a4l : ∀ (w cur l : List UInt8), (∀ b ∈ w, Lib.isSp b = false) → Lib.fieldsGo cur (w ++ l) = Lib.fieldsGo (cur ++ w) l
 | [], cur, l, _ => by simp
 | b :: w, cur, l, h => by
  rw [List.cons_append, Lib.fieldsGo_more _ _ _ (h b (by simp)), a4l w _ l (fun x hx => h x (by simp [hx]))]
  simp
theorem a0y : ∀ (ws : List (List UInt8)), (∀ w ∈ ws, w ≠ [] ∧ ∀ b ∈ w, Lib.isSp b = false) → Lib.fields (Lib.join ws [32]) = ws
 | [], _ => rfl
 | [w], h => by
  obtain ⟨h1, h2⟩ := h w (by simp)
  have := a4l w [] [] h2
  rw [Lib.join_one, Lib.fields]
  rw [List.append_nil] at this
  rw [this]
  simp [Lib.fieldsGo, h1]
 | w :: y :: r, h => by
  obtain ⟨h1, h2⟩ := h w (by simp)
  have ih := a0y (y :: r) (fun x hx => h x (by simp only [List.mem_cons] at hx ⊢; exact .inr hx))
  rw [a5v, Lib.fields, a4l w [] _ h2]
  show Lib.fieldsGo ([] ++ w) (32 :: Lib.join (y :: r) [32]) = _
  rw [Lib.fieldsGo_end _ _ _ rfl (by simpa using h1)]
  unfold Lib.fields at ih
  rw [ih]; rfl
theorem a1d : ∀ (l cur : List UInt8), szs (Lib.fieldsGo cur l) ≤ cur.length + l.length + 1
 | [], cur => by
  unfold Lib.fieldsGo
  split
  ·simp [szs]
  ·simp [szs]
 | b :: l, cur => by
  unfold Lib.fieldsGo
  split
  ·split
   ·have := a1d l []; simp at this ⊢; omega
   ·have := a1d l []; rw [xH]; simp at this ⊢; omega
  ·have := a1d l (cur ++ [b]); simp at this ⊢; omega
def flds (s : ByteArray) : List ByteArray := ofL (Lib.fields s.data.toList)
theorem zU (s : ByteArray) : zs (flds s) ≤ s.size + 1 := by
 rw [flds, b1e]
 have := a1d s.data.toList []
 have e : s.size = s.data.toList.length := rfl
 unfold Lib.fields
 simp at this ⊢; omega
theorem b1f (ws : List ByteArray) (h : ∀ w ∈ ws, w.data.toList ≠ [] ∧ ∀ b ∈ w.data.toList, Lib.isSp b = false) : flds (cat 32 ws) = ws := by
 unfold flds cat
 have : (⟨(Lib.join (ws.map (·.data.toList)) [32]).toArray⟩ : ByteArray).data.toList = Lib.join (ws.map (·.data.toList)) [32] := by simp
 rw [this, a0y _ (fun w hw => by obtain ⟨x, hx, rfl⟩ := List.mem_map.1 hw; exact h x hx), b3f]
end Go.Wd
end
section
namespace Go.Proofs
open Go.Shelf
def Tryz.laysSortStr_ren : Go.Shelf.Ren := ⟨fun | 190 => 264 | 125 => 271 | 258 => 270 | 128 => 281 | 129 => 252 | 302 => 272 | 303 => 273 | 304 => 274 | 305 => 275 | 306 => 276 | 307 => 277 | 308 => 278 | 309 => 279 | 310 => 280 | 333 => 282 | 329 => 283 | 330 => 284 | 334 => 285 | 335 => 286 | 336 => 287 | 344 => 288 | n => n, fun | 31 => 53 | 9 => 9 | 3 => 3 | 46 => 211 | 0 => 0 | 51 => 271 | 53 => 246 | 4 => 4 | 183 => 309 | 182 => 308 | 131 => 96 | 5 => 5 | 218 => 315 | 222 => 319 | 228 => 321 | 229 => 322 | n => n, fun | n => n⟩
theorem Tryz.laysSortStr : Go.Proofs.Lays.n190 Tryz.prog Tryz.laysSortStr_ren := {
 mixed := by kernel_rfl
 f125 := Tryz.func271.trans (congrArg some (by kernel_rfl))
 f128 := Tryz.func281.trans (congrArg some (by kernel_rfl))
 f129 := Tryz.func252.trans (congrArg some (by kernel_rfl))
 f190 := Tryz.func264.trans (congrArg some (by kernel_rfl))
 f258 := Tryz.func270.trans (congrArg some (by kernel_rfl))
 f302 := Tryz.func272.trans (congrArg some (by kernel_rfl))
 f303 := Tryz.func273.trans (congrArg some (by kernel_rfl))
 f304 := Tryz.func274.trans (congrArg some (by kernel_rfl))
 f305 := Tryz.func275.trans (congrArg some (by kernel_rfl))
 f306 := Tryz.func276.trans (congrArg some (by kernel_rfl))
 f307 := Tryz.func277.trans (congrArg some (by kernel_rfl))
 f308 := Tryz.func278.trans (congrArg some (by kernel_rfl))
 f309 := Tryz.func279.trans (congrArg some (by kernel_rfl))
 f310 := Tryz.func280.trans (congrArg some (by kernel_rfl))
 f329 := Tryz.func283.trans (congrArg some (by kernel_rfl))
 f330 := Tryz.func284.trans (congrArg some (by kernel_rfl))
 f333 := Tryz.func282.trans (congrArg some (by kernel_rfl))
 f334 := Tryz.func285.trans (congrArg some (by kernel_rfl))
 f335 := Tryz.func286.trans (congrArg some (by kernel_rfl))
 f336 := Tryz.func287.trans (congrArg some (by kernel_rfl))
 f344 := Tryz.func288.trans (congrArg some (by kernel_rfl))
 t0 := Tryz.underlying0
 a0 := Tryz.isAgg0
 z0 := Tryz.sizeOf0
 v0 := Tryz.zeroValue0
 t3 := Tryz.underlying3
 a3 := Tryz.isAgg3
 z3 := Tryz.sizeOf3
 v3 := Tryz.zeroValue3
 t4 := Tryz.underlying4
 a4 := Tryz.isAgg4
 z4 := Tryz.sizeOf4
 v4 := Tryz.zeroValue4
 t5 := Tryz.underlying5
 a5 := Tryz.isAgg5
 z5 := Tryz.sizeOf5
 v5 := Tryz.zeroValue5
 t9 := Tryz.underlying9
 a9 := Tryz.isAgg9
 z9 := Tryz.sizeOf9
 v9 := Tryz.zeroValue9
 t31 := Tryz.underlying53
 a31 := Tryz.isAgg53
 z31 := Tryz.sizeOf53
 v31 := Tryz.zeroValue53
 t46 := Tryz.underlying211
 a46 := Tryz.isAgg211
 z46 := Tryz.sizeOf211
 v46 := Tryz.zeroValue211
 t51 := Tryz.underlying271
 a51 := Tryz.isAgg271
 z51 := Tryz.sizeOf271
 v51 := Tryz.zeroValue271
 t53 := Tryz.underlying246
 a53 := Tryz.isAgg246
 z53 := Tryz.sizeOf246
 v53 := Tryz.zeroValue246
 t131 := Tryz.underlying96
 a131 := Tryz.isAgg96
 z131 := Tryz.sizeOf96
 v131 := Tryz.zeroValue96
 t182 := Tryz.underlying308
 a182 := Tryz.isAgg308
 z182 := Tryz.sizeOf308
 v182 := Tryz.zeroValue308
 t183 := Tryz.underlying309
 a183 := Tryz.isAgg309
 z183 := Tryz.sizeOf309
 v183 := Tryz.zeroValue309
 t218 := Tryz.underlying315
 a218 := Tryz.isAgg315
 z218 := Tryz.sizeOf315
 v218 := Tryz.zeroValue315
 t222 := Tryz.underlying319
 a222 := Tryz.isAgg319
 z222 := Tryz.sizeOf319
 v222 := Tryz.zeroValue319
 t228 := Tryz.underlying321
 a228 := Tryz.isAgg321
 z228 := Tryz.sizeOf321
 v228 := Tryz.zeroValue321
 t229 := Tryz.underlying322
 a229 := Tryz.isAgg322
 z229 := Tryz.sizeOf322
 v229 := Tryz.zeroValue322 }
def Tryz.laysCompactStr_ren : Go.Shelf.Ren := ⟨fun | 194 => 265 | n => n, fun | 31 => 53 | 9 => 9 | 3 => 3 | 4 => 4 | 0 => 0 | n => n, fun | n => n⟩
theorem Tryz.laysCompactStr : Go.Proofs.Lays.n194 Tryz.prog Tryz.laysCompactStr_ren := {
 mixed := by kernel_rfl
 f194 := Tryz.func265.trans (congrArg some (by kernel_rfl))
 t0 := Tryz.underlying0
 a0 := Tryz.isAgg0
 z0 := Tryz.sizeOf0
 v0 := Tryz.zeroValue0
 t3 := Tryz.underlying3
 a3 := Tryz.isAgg3
 z3 := Tryz.sizeOf3
 v3 := Tryz.zeroValue3
 t4 := Tryz.underlying4
 a4 := Tryz.isAgg4
 z4 := Tryz.sizeOf4
 v4 := Tryz.zeroValue4
 t9 := Tryz.underlying9
 a9 := Tryz.isAgg9
 z9 := Tryz.sizeOf9
 v9 := Tryz.zeroValue9
 t31 := Tryz.underlying53
 a31 := Tryz.isAgg53
 z31 := Tryz.sizeOf53
 v31 := Tryz.zeroValue53 }
def Tryz.laysItoa_ren : Go.Shelf.Ren := ⟨fun | 171 => 90 | 243 => 140 | 246 => 191 | 283 => 229 | 284 => 230 | 285 => 231 | 286 => 232 | 129 => 252 | 317 => 251 | 318 => 253 | 319 => 254 | 320 => 255 | 337 => 266 | 338 => 267 | n => n, fun | 3 => 3 | 9 => 9 | 2 => 2 | 4 => 4 | 171 => 245 | 0 => 0 | 53 => 246 | 37 => 50 | 5 => 5 | 173 => 249 | 212 => 270 | 51 => 271 | 20 => 20 | 213 => 272 | 46 => 211 | 232 => 303 | 233 => 304 | n => n, fun | 17 => 4 | 18 => 8 | 19 => 9 | n => n⟩
theorem Tryz.laysItoa : Go.Proofs.LaysM.n171 Tryz.prog Tryz.laysItoa_ren := {
 mixed := by kernel_rfl
 f129 := Tryz.func252.trans (congrArg some (by kernel_rfl))
 f171 := Tryz.func90.trans (congrArg some (by kernel_rfl))
 f243 := Tryz.func140.trans (congrArg some (by kernel_rfl))
 f246 := Tryz.func191.trans (congrArg some (by kernel_rfl))
 f283 := Tryz.func229.trans (congrArg some (by kernel_rfl))
 f284 := Tryz.func230.trans (congrArg some (by kernel_rfl))
 f285 := Tryz.func231.trans (congrArg some (by kernel_rfl))
 f286 := Tryz.func232.trans (congrArg some (by kernel_rfl))
 f317 := Tryz.func251.trans (congrArg some (by kernel_rfl))
 f318 := Tryz.func253.trans (congrArg some (by kernel_rfl))
 f319 := Tryz.func254.trans (congrArg some (by kernel_rfl))
 f320 := Tryz.func255.trans (congrArg some (by kernel_rfl))
 f337 := Tryz.func266.trans (congrArg some (by kernel_rfl))
 f338 := Tryz.func267.trans (congrArg some (by kernel_rfl))
 t0 := Tryz.underlying0
 a0 := Tryz.isAgg0
 z0 := Tryz.sizeOf0
 v0 := Tryz.zeroValue0
 t2 := Tryz.underlying2
 a2 := Tryz.isAgg2
 z2 := Tryz.sizeOf2
 v2 := Tryz.zeroValue2
 t3 := Tryz.underlying3
 a3 := Tryz.isAgg3
 z3 := Tryz.sizeOf3
 v3 := Tryz.zeroValue3
 t4 := Tryz.underlying4
 a4 := Tryz.isAgg4
 z4 := Tryz.sizeOf4
 v4 := Tryz.zeroValue4
 t5 := Tryz.underlying5
 a5 := Tryz.isAgg5
 z5 := Tryz.sizeOf5
 v5 := Tryz.zeroValue5
 t9 := Tryz.underlying9
 a9 := Tryz.isAgg9
 z9 := Tryz.sizeOf9
 v9 := Tryz.zeroValue9
 t20 := Tryz.underlying20
 a20 := Tryz.isAgg20
 z20 := Tryz.sizeOf20
 v20 := Tryz.zeroValue20
 t37 := Tryz.underlying50
 a37 := Tryz.isAgg50
 z37 := Tryz.sizeOf50
 v37 := Tryz.zeroValue50
 t46 := Tryz.underlying211
 a46 := Tryz.isAgg211
 z46 := Tryz.sizeOf211
 v46 := Tryz.zeroValue211
 t51 := Tryz.underlying271
 a51 := Tryz.isAgg271
 z51 := Tryz.sizeOf271
 v51 := Tryz.zeroValue271
 t53 := Tryz.underlying246
 a53 := Tryz.isAgg246
 z53 := Tryz.sizeOf246
 v53 := Tryz.zeroValue246
 t171 := Tryz.underlying245
 a171 := Tryz.isAgg245
 z171 := Tryz.sizeOf245
 v171 := Tryz.zeroValue245
 t173 := Tryz.underlying249
 a173 := Tryz.isAgg249
 z173 := Tryz.sizeOf249
 v173 := Tryz.zeroValue249
 t212 := Tryz.underlying270
 a212 := Tryz.isAgg270
 z212 := Tryz.sizeOf270
 v212 := Tryz.zeroValue270
 t213 := Tryz.underlying272
 a213 := Tryz.isAgg272
 z213 := Tryz.sizeOf272
 t232 := Tryz.underlying303
 a232 := Tryz.isAgg303
 z232 := Tryz.sizeOf303
 v232 := Tryz.zeroValue303
 t233 := Tryz.underlying304
 a233 := Tryz.isAgg304
 z233 := Tryz.sizeOf304
 v233 := Tryz.zeroValue304
 g17 := by kernel_rfl
 g18 := by kernel_rfl
 g19 := by kernel_rfl
 i0 := by kernel_rfl
 i2 := by kernel_rfl
 i3 := by kernel_rfl
 i4 := by kernel_rfl
 i5 := by kernel_rfl
 i9 := by kernel_rfl
 i20 := by kernel_rfl
 i37 := by kernel_rfl
 i46 := by kernel_rfl
 i51 := by kernel_rfl
 i53 := by kernel_rfl
 i171 := by kernel_rfl
 i173 := by kernel_rfl
 i212 := by kernel_rfl
 i232 := by kernel_rfl
 i233 := by kernel_rfl
 m17 := by kernel_rfl
 m18 := by kernel_rfl
 m19 := by kernel_rfl }
def Tryz.laysJoin_ren : Go.Shelf.Ren := ⟨fun | 156 => 92 | 165 => 142 | 166 => 143 | 169 => 144 | 240 => 193 | 241 => 194 | 276 => 233 | 277 => 234 | n => n, fun | 31 => 53 | 9 => 9 | 3 => 3 | 4 => 4 | 0 => 0 | 20 => 20 | 72 => 179 | 76 => 148 | 70 => 177 | 37 => 50 | 75 => 147 | 127 => 223 | 164 => 251 | 5 => 5 | 80 => 181 | n => n, fun | n => n⟩
theorem Tryz.laysJoin : Go.Proofs.Lays.n156 Tryz.prog Tryz.laysJoin_ren := {
 mixed := by kernel_rfl
 f156 := Tryz.func92.trans (congrArg some (by kernel_rfl))
 f165 := Tryz.func142.trans (congrArg some (by kernel_rfl))
 f166 := Tryz.func143.trans (congrArg some (by kernel_rfl))
 f169 := Tryz.func144.trans (congrArg some (by kernel_rfl))
 f240 := Tryz.func193.trans (congrArg some (by kernel_rfl))
 f241 := Tryz.func194.trans (congrArg some (by kernel_rfl))
 f276 := Tryz.func233.trans (congrArg some (by kernel_rfl))
 f277 := Tryz.func234.trans (congrArg some (by kernel_rfl))
 t0 := Tryz.underlying0
 a0 := Tryz.isAgg0
 z0 := Tryz.sizeOf0
 v0 := Tryz.zeroValue0
 t3 := Tryz.underlying3
 a3 := Tryz.isAgg3
 z3 := Tryz.sizeOf3
 v3 := Tryz.zeroValue3
 t4 := Tryz.underlying4
 a4 := Tryz.isAgg4
 z4 := Tryz.sizeOf4
 v4 := Tryz.zeroValue4
 t9 := Tryz.underlying9
 a9 := Tryz.isAgg9
 z9 := Tryz.sizeOf9
 v9 := Tryz.zeroValue9
 t20 := Tryz.underlying20
 a20 := Tryz.isAgg20
 z20 := Tryz.sizeOf20
 v20 := Tryz.zeroValue20
 t31 := Tryz.underlying53
 a31 := Tryz.isAgg53
 z31 := Tryz.sizeOf53
 v31 := Tryz.zeroValue53
 t37 := Tryz.underlying50
 a37 := Tryz.isAgg50
 z37 := Tryz.sizeOf50
 v37 := Tryz.zeroValue50
 t70 := Tryz.underlying177
 a70 := Tryz.isAgg177
 z70 := Tryz.sizeOf177
 v70 := Tryz.zeroValue177
 t72 := Tryz.underlying179
 a72 := Tryz.isAgg179
 z72 := Tryz.sizeOf179
 v72 := Tryz.zeroValue179
 t75 := Tryz.underlying147
 a75 := Tryz.isAgg147
 z75 := Tryz.sizeOf147
 v75 := Tryz.zeroValue147
 t76 := Tryz.underlying148
 a76 := Tryz.isAgg148
 z76 := Tryz.sizeOf148
 v76 := Tryz.zeroValue148
 t127 := Tryz.underlying223
 a127 := Tryz.isAgg223
 z127 := Tryz.sizeOf223
 v127 := Tryz.zeroValue223
 t164 := Tryz.underlying251
 a164 := Tryz.isAgg251
 z164 := Tryz.sizeOf251
 v164 := Tryz.zeroValue251 }
def Tryz.laysSplit_ren : Go.Shelf.Ren := ⟨fun | 146 => 62 | 221 => 109 | 268 => 163 | 138 => 164 | 143 => 165 | 195 => 208 | 197 => 209 | 218 => 210 | 219 => 211 | 260 => 238 | 217 => 239 | 225 => 240 | 224 => 241 | 267 => 242 | 266 => 259 | 314 => 260 | n => n, fun | 9 => 9 | 31 => 53 | 3 => 3 | 4 => 4 | 0 => 0 | 105 => 227 | 21 => 21 | 5 => 5 | 46 => 211 | 119 => 254 | 139 => 282 | 138 => 281 | 146 => 283 | 51 => 271 | n => n, fun | 1 => 1 | 3 => 6 | 4 => 7 | n => n⟩
theorem Tryz.laysSplit : Go.Proofs.Lays.n146 Tryz.prog Tryz.laysSplit_ren := {
 mixed := by kernel_rfl
 f138 := Tryz.func164.trans (congrArg some (by kernel_rfl))
 f143 := Tryz.func165.trans (congrArg some (by kernel_rfl))
 f146 := Tryz.func62.trans (congrArg some (by kernel_rfl))
 f195 := Tryz.func208.trans (congrArg some (by kernel_rfl))
 f197 := Tryz.func209.trans (congrArg some (by kernel_rfl))
 f217 := Tryz.func239.trans (congrArg some (by kernel_rfl))
 f218 := Tryz.func210.trans (congrArg some (by kernel_rfl))
 f219 := Tryz.func211.trans (congrArg some (by kernel_rfl))
 f221 := Tryz.func109.trans (congrArg some (by kernel_rfl))
 f224 := Tryz.func241.trans (congrArg some (by kernel_rfl))
 f225 := Tryz.func240.trans (congrArg some (by kernel_rfl))
 f260 := Tryz.func238.trans (congrArg some (by kernel_rfl))
 f266 := Tryz.func259.trans (congrArg some (by kernel_rfl))
 f267 := Tryz.func242.trans (congrArg some (by kernel_rfl))
 f268 := Tryz.func163.trans (congrArg some (by kernel_rfl))
 f314 := Tryz.func260.trans (congrArg some (by kernel_rfl))
 t0 := Tryz.underlying0
 a0 := Tryz.isAgg0
 z0 := Tryz.sizeOf0
 v0 := Tryz.zeroValue0
 t3 := Tryz.underlying3
 a3 := Tryz.isAgg3
 z3 := Tryz.sizeOf3
 v3 := Tryz.zeroValue3
 t4 := Tryz.underlying4
 a4 := Tryz.isAgg4
 z4 := Tryz.sizeOf4
 v4 := Tryz.zeroValue4
 t5 := Tryz.underlying5
 a5 := Tryz.isAgg5
 z5 := Tryz.sizeOf5
 v5 := Tryz.zeroValue5
 t9 := Tryz.underlying9
 a9 := Tryz.isAgg9
 z9 := Tryz.sizeOf9
 v9 := Tryz.zeroValue9
 t21 := Tryz.underlying21
 a21 := Tryz.isAgg21
 z21 := Tryz.sizeOf21
 v21 := Tryz.zeroValue21
 t31 := Tryz.underlying53
 a31 := Tryz.isAgg53
 z31 := Tryz.sizeOf53
 v31 := Tryz.zeroValue53
 t46 := Tryz.underlying211
 a46 := Tryz.isAgg211
 z46 := Tryz.sizeOf211
 v46 := Tryz.zeroValue211
 t51 := Tryz.underlying271
 a51 := Tryz.isAgg271
 z51 := Tryz.sizeOf271
 v51 := Tryz.zeroValue271
 t105 := Tryz.underlying227
 a105 := Tryz.isAgg227
 z105 := Tryz.sizeOf227
 v105 := Tryz.zeroValue227
 t119 := Tryz.underlying254
 a119 := Tryz.isAgg254
 z119 := Tryz.sizeOf254
 t138 := Tryz.underlying281
 a138 := Tryz.isAgg281
 z138 := Tryz.sizeOf281
 v138 := Tryz.zeroValue281
 t139 := Tryz.underlying282
 a139 := Tryz.isAgg282
 z139 := Tryz.sizeOf282
 v139 := Tryz.zeroValue282
 t146 := Tryz.underlying283
 a146 := Tryz.isAgg283
 z146 := Tryz.sizeOf283
 v146 := Tryz.zeroValue283
 g1 := by kernel_rfl
 g3 := by kernel_rfl
 g4 := by kernel_rfl }
def Tryz.laysFields_ren : Go.Shelf.Ren := ⟨fun | 157 => 197 | 229 => 235 | 199 => 236 | 261 => 256 | 311 => 268 | 312 => 269 | n => n, fun | 9 => 9 | 31 => 53 | 3 => 3 | 5 => 5 | 4 => 4 | 119 => 254 | 0 => 0 | 40 => 256 | 152 => 274 | 21 => 21 | 154 => 276 | 51 => 271 | 141 => 278 | 196 => 294 | 193 => 291 | 198 => 297 | 49 => 295 | 194 => 292 | 201 => 300 | 226 => 305 | 46 => 211 | 227 => 306 | n => n, fun | 0 => 0 | 6 => 5 | n => n⟩
theorem Tryz.laysFields : Go.Proofs.Lays.n157 Tryz.prog Tryz.laysFields_ren := {
 mixed := by kernel_rfl
 f157 := Tryz.func197.trans (congrArg some (by kernel_rfl))
 f199 := Tryz.func236.trans (congrArg some (by kernel_rfl))
 f229 := Tryz.func235.trans (congrArg some (by kernel_rfl))
 f261 := Tryz.func256.trans (congrArg some (by kernel_rfl))
 f311 := Tryz.func268.trans (congrArg some (by kernel_rfl))
 f312 := Tryz.func269.trans (congrArg some (by kernel_rfl))
 t0 := Tryz.underlying0
 a0 := Tryz.isAgg0
 z0 := Tryz.sizeOf0
 v0 := Tryz.zeroValue0
 t3 := Tryz.underlying3
 a3 := Tryz.isAgg3
 z3 := Tryz.sizeOf3
 v3 := Tryz.zeroValue3
 t4 := Tryz.underlying4
 a4 := Tryz.isAgg4
 z4 := Tryz.sizeOf4
 v4 := Tryz.zeroValue4
 t5 := Tryz.underlying5
 a5 := Tryz.isAgg5
 z5 := Tryz.sizeOf5
 v5 := Tryz.zeroValue5
 t9 := Tryz.underlying9
 a9 := Tryz.isAgg9
 z9 := Tryz.sizeOf9
 v9 := Tryz.zeroValue9
 t21 := Tryz.underlying21
 a21 := Tryz.isAgg21
 z21 := Tryz.sizeOf21
 v21 := Tryz.zeroValue21
 t31 := Tryz.underlying53
 a31 := Tryz.isAgg53
 z31 := Tryz.sizeOf53
 v31 := Tryz.zeroValue53
 t40 := Tryz.underlying256
 a40 := Tryz.isAgg256
 z40 := Tryz.sizeOf256
 v40 := Tryz.zeroValue256
 t46 := Tryz.underlying211
 a46 := Tryz.isAgg211
 z46 := Tryz.sizeOf211
 v46 := Tryz.zeroValue211
 t49 := Tryz.underlying295
 a49 := Tryz.isAgg295
 z49 := Tryz.sizeOf295
 v49 := Tryz.zeroValue295
 t51 := Tryz.underlying271
 a51 := Tryz.isAgg271
 z51 := Tryz.sizeOf271
 v51 := Tryz.zeroValue271
 t119 := Tryz.underlying254
 a119 := Tryz.isAgg254
 z119 := Tryz.sizeOf254
 t141 := Tryz.underlying278
 a141 := Tryz.isAgg278
 z141 := Tryz.sizeOf278
 v141 := Tryz.zeroValue278
 t152 := Tryz.underlying274
 a152 := Tryz.isAgg274
 z152 := Tryz.sizeOf274
 v152 := Tryz.zeroValue274
 t154 := Tryz.underlying276
 a154 := Tryz.isAgg276
 z154 := Tryz.sizeOf276
 v154 := Tryz.zeroValue276
 t193 := Tryz.underlying291
 a193 := Tryz.isAgg291
 z193 := Tryz.sizeOf291
 v193 := Tryz.zeroValue291
 t194 := Tryz.underlying292
 a194 := Tryz.isAgg292
 z194 := Tryz.sizeOf292
 v194 := Tryz.zeroValue292
 t196 := Tryz.underlying294
 a196 := Tryz.isAgg294
 z196 := Tryz.sizeOf294
 v196 := Tryz.zeroValue294
 t198 := Tryz.underlying297
 a198 := Tryz.isAgg297
 z198 := Tryz.sizeOf297
 v198 := Tryz.zeroValue297
 t201 := Tryz.underlying300
 a201 := Tryz.isAgg300
 z201 := Tryz.sizeOf300
 v201 := Tryz.zeroValue300
 t226 := Tryz.underlying305
 a226 := Tryz.isAgg305
 z226 := Tryz.sizeOf305
 v226 := Tryz.zeroValue305
 t227 := Tryz.underlying306
 a227 := Tryz.isAgg306
 z227 := Tryz.sizeOf306
 v227 := Tryz.zeroValue306
 g0 := by kernel_rfl
 g6 := by kernel_rfl }
def Tryz.laysAtoi_ren : Go.Shelf.Ren := ⟨fun | 172 => 110 | 244 => 166 | 245 => 167 | 247 => 212 | 279 => 213 | 280 => 214 | 281 => 215 | 282 => 216 | 287 => 243 | 316 => 244 | 171 => 90 | 205 => 245 | 321 => 261 | 322 => 262 | 243 => 140 | 246 => 191 | 283 => 229 | 284 => 230 | 285 => 231 | 286 => 232 | 129 => 252 | 317 => 251 | 318 => 253 | 319 => 254 | 320 => 255 | 337 => 266 | 338 => 267 | n => n, fun | 9 => 9 | 3 => 3 | 75 => 147 | 76 => 148 | 4 => 4 | 5 => 5 | 167 => 230 | 37 => 50 | 0 => 0 | 85 => 231 | 2 => 2 | 168 => 233 | 53 => 246 | 175 => 258 | 46 => 211 | 210 => 262 | 127 => 223 | 145 => 288 | 143 => 286 | 21 => 21 | 171 => 245 | 173 => 249 | 212 => 270 | 51 => 271 | 20 => 20 | 213 => 272 | 232 => 303 | 233 => 304 | 80 => 181 | n => n, fun | 15 => 2 | 16 => 3 | 17 => 4 | 18 => 8 | 19 => 9 | n => n⟩
theorem Tryz.laysAtoi : Go.Proofs.LaysC.n172 Tryz.prog Tryz.laysAtoi_ren := {
 mixed := by kernel_rfl
 f129 := Tryz.func252.trans (congrArg some (by kernel_rfl))
 f171 := Tryz.func90.trans (congrArg some (by kernel_rfl))
 f172 := Tryz.func110.trans (congrArg some (by kernel_rfl))
 f205 := Tryz.func245.trans (congrArg some (by kernel_rfl))
 f243 := Tryz.func140.trans (congrArg some (by kernel_rfl))
 f244 := Tryz.func166.trans (congrArg some (by kernel_rfl))
 f245 := Tryz.func167.trans (congrArg some (by kernel_rfl))
 f246 := Tryz.func191.trans (congrArg some (by kernel_rfl))
 f247 := Tryz.func212.trans (congrArg some (by kernel_rfl))
 f279 := Tryz.func213.trans (congrArg some (by kernel_rfl))
 f280 := Tryz.func214.trans (congrArg some (by kernel_rfl))
 f281 := Tryz.func215.trans (congrArg some (by kernel_rfl))
 f282 := Tryz.func216.trans (congrArg some (by kernel_rfl))
 f283 := Tryz.func229.trans (congrArg some (by kernel_rfl))
 f284 := Tryz.func230.trans (congrArg some (by kernel_rfl))
 f285 := Tryz.func231.trans (congrArg some (by kernel_rfl))
 f286 := Tryz.func232.trans (congrArg some (by kernel_rfl))
 f287 := Tryz.func243.trans (congrArg some (by kernel_rfl))
 f316 := Tryz.func244.trans (congrArg some (by kernel_rfl))
 f317 := Tryz.func251.trans (congrArg some (by kernel_rfl))
 f318 := Tryz.func253.trans (congrArg some (by kernel_rfl))
 f319 := Tryz.func254.trans (congrArg some (by kernel_rfl))
 f320 := Tryz.func255.trans (congrArg some (by kernel_rfl))
 f321 := Tryz.func261.trans (congrArg some (by kernel_rfl))
 f322 := Tryz.func262.trans (congrArg some (by kernel_rfl))
 f337 := Tryz.func266.trans (congrArg some (by kernel_rfl))
 f338 := Tryz.func267.trans (congrArg some (by kernel_rfl))
 t0 := Tryz.underlying0
 a0 := Tryz.isAgg0
 z0 := Tryz.sizeOf0
 v0 := Tryz.zeroValue0
 t2 := Tryz.underlying2
 a2 := Tryz.isAgg2
 z2 := Tryz.sizeOf2
 v2 := Tryz.zeroValue2
 t3 := Tryz.underlying3
 a3 := Tryz.isAgg3
 z3 := Tryz.sizeOf3
 v3 := Tryz.zeroValue3
 t4 := Tryz.underlying4
 a4 := Tryz.isAgg4
 z4 := Tryz.sizeOf4
 v4 := Tryz.zeroValue4
 t5 := Tryz.underlying5
 a5 := Tryz.isAgg5
 z5 := Tryz.sizeOf5
 v5 := Tryz.zeroValue5
 t9 := Tryz.underlying9
 a9 := Tryz.isAgg9
 z9 := Tryz.sizeOf9
 v9 := Tryz.zeroValue9
 t20 := Tryz.underlying20
 a20 := Tryz.isAgg20
 z20 := Tryz.sizeOf20
 v20 := Tryz.zeroValue20
 t21 := Tryz.underlying21
 a21 := Tryz.isAgg21
 z21 := Tryz.sizeOf21
 v21 := Tryz.zeroValue21
 t37 := Tryz.underlying50
 a37 := Tryz.isAgg50
 z37 := Tryz.sizeOf50
 v37 := Tryz.zeroValue50
 t46 := Tryz.underlying211
 a46 := Tryz.isAgg211
 z46 := Tryz.sizeOf211
 v46 := Tryz.zeroValue211
 t51 := Tryz.underlying271
 a51 := Tryz.isAgg271
 z51 := Tryz.sizeOf271
 v51 := Tryz.zeroValue271
 t53 := Tryz.underlying246
 a53 := Tryz.isAgg246
 z53 := Tryz.sizeOf246
 v53 := Tryz.zeroValue246
 t75 := Tryz.underlying147
 a75 := Tryz.isAgg147
 z75 := Tryz.sizeOf147
 v75 := Tryz.zeroValue147
 t76 := Tryz.underlying148
 a76 := Tryz.isAgg148
 z76 := Tryz.sizeOf148
 v76 := Tryz.zeroValue148
 t85 := Tryz.underlying231
 a85 := Tryz.isAgg231
 z85 := Tryz.sizeOf231
 v85 := Tryz.zeroValue231
 t127 := Tryz.underlying223
 a127 := Tryz.isAgg223
 z127 := Tryz.sizeOf223
 v127 := Tryz.zeroValue223
 t143 := Tryz.underlying286
 a143 := Tryz.isAgg286
 z143 := Tryz.sizeOf286
 v143 := Tryz.zeroValue286
 t145 := Tryz.underlying288
 a145 := Tryz.isAgg288
 z145 := Tryz.sizeOf288
 v145 := Tryz.zeroValue288
 t167 := Tryz.underlying230
 a167 := Tryz.isAgg230
 z167 := Tryz.sizeOf230
 v167 := Tryz.zeroValue230
 t168 := Tryz.underlying233
 a168 := Tryz.isAgg233
 z168 := Tryz.sizeOf233
 v168 := Tryz.zeroValue233
 t171 := Tryz.underlying245
 a171 := Tryz.isAgg245
 z171 := Tryz.sizeOf245
 v171 := Tryz.zeroValue245
 t173 := Tryz.underlying249
 a173 := Tryz.isAgg249
 z173 := Tryz.sizeOf249
 v173 := Tryz.zeroValue249
 t175 := Tryz.underlying258
 a175 := Tryz.isAgg258
 z175 := Tryz.sizeOf258
 v175 := Tryz.zeroValue258
 t210 := Tryz.underlying262
 a210 := Tryz.isAgg262
 z210 := Tryz.sizeOf262
 v210 := Tryz.zeroValue262
 t212 := Tryz.underlying270
 a212 := Tryz.isAgg270
 z212 := Tryz.sizeOf270
 v212 := Tryz.zeroValue270
 t213 := Tryz.underlying272
 a213 := Tryz.isAgg272
 z213 := Tryz.sizeOf272
 t232 := Tryz.underlying303
 a232 := Tryz.isAgg303
 z232 := Tryz.sizeOf303
 v232 := Tryz.zeroValue303
 t233 := Tryz.underlying304
 a233 := Tryz.isAgg304
 z233 := Tryz.sizeOf304
 v233 := Tryz.zeroValue304
 g15 := by kernel_rfl
 g16 := by kernel_rfl
 g17 := by kernel_rfl
 g18 := by kernel_rfl
 g19 := by kernel_rfl
 t80 := Tryz.underlying181
 a80 := Tryz.isAgg181
 z80 := Tryz.sizeOf181
 v80 := Tryz.zeroValue181
 i0 := by kernel_rfl
 i2 := by kernel_rfl
 i3 := by kernel_rfl
 i4 := by kernel_rfl
 i5 := by kernel_rfl
 i9 := by kernel_rfl
 i20 := by kernel_rfl
 i21 := by kernel_rfl
 i37 := by kernel_rfl
 i46 := by kernel_rfl
 i51 := by kernel_rfl
 i53 := by kernel_rfl
 i75 := by kernel_rfl
 i76 := by kernel_rfl
 i80 := by kernel_rfl
 i85 := by kernel_rfl
 i127 := by kernel_rfl
 i143 := by kernel_rfl
 i145 := by kernel_rfl
 i167 := by kernel_rfl
 i168 := by kernel_rfl
 i171 := by kernel_rfl
 i173 := by kernel_rfl
 i175 := by kernel_rfl
 i210 := by kernel_rfl
 i212 := by kernel_rfl
 i232 := by kernel_rfl
 i233 := by kernel_rfl
 m15 := by kernel_rfl
 m16 := by kernel_rfl
 m17 := by kernel_rfl
 m18 := by kernel_rfl
 m19 := by kernel_rfl
 c0 := by kernel_rfl
 c2 := by kernel_rfl
 c3 := by kernel_rfl
 c4 := by kernel_rfl
 c5 := by kernel_rfl
 c9 := by kernel_rfl
 c20 := by kernel_rfl
 c21 := by kernel_rfl
 c37 := by kernel_rfl
 c46 := by kernel_rfl
 c51 := by kernel_rfl
 c53 := by kernel_rfl
 c75 := by kernel_rfl
 c76 := by kernel_rfl
 c80 := by kernel_rfl
 c85 := by kernel_rfl
 c127 := by kernel_rfl
 c143 := by kernel_rfl
 c145 := by kernel_rfl
 c167 := by kernel_rfl
 c168 := by kernel_rfl
 c171 := by kernel_rfl
 c173 := by kernel_rfl
 c175 := by kernel_rfl
 c210 := by kernel_rfl
 c212 := by kernel_rfl
 c213 := by kernel_rfl
 c232 := by kernel_rfl
 c233 := by kernel_rfl }
end Go.Proofs
end
