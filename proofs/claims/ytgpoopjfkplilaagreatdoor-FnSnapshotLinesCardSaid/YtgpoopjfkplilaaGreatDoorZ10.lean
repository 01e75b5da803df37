/- Joined texts. -/
import Derived.Test.YtgpoopjfkplilaaGreatDoorZ08
import Derived.Test.YtgpoopjfkplilaaGreatDoorZ09
set_option linter.all false
section
set_option maxRecDepth 100000
set_option maxHeartbeats 4000000
namespace Go.Proofs.YtgpoopjfkplilaaGreatDoor
open Go Go.Sx Go.RowKit Go.Proofs
def kw (op : Int) : ByteArray := if op = 1 then ⟨#[97, 108, 108]⟩ else if op = 2 then ⟨#[104, 97, 115]⟩ else if op = 3 then ⟨#[101, 113]⟩ else if op = 4 then ⟨#[108, 116]⟩ else if op = 5 then ⟨#[110, 111, 116]⟩ else if op = 6 then ⟨#[97, 110, 100]⟩ else if op = 7 then ⟨#[111, 114]⟩ else if op = 8 then ⟨#[105, 110]⟩ else if op = 9 then ⟨#[108, 105, 110, 107, 101, 100]⟩ else ⟨#[63]⟩
theorem fV (op : Int) : (kw op).size ≤ 6 := by
 unfold kw
 repeat' split
 all_goals decide
theorem a2G (r : List D) (rs : List (List D)) : eO (r :: rs) 0 = r := rfl
theorem a4n (r : List D) (rs : List (List D)) (n : Nat) : eO (r :: rs) (n + 1) = eO rs n := rfl
theorem iN (op : Int) (h : 1 ≤ op ∧ op ≤ 9) : FnC Tryz.prog 147 [oi op] (os (kw op)) := by
 rcases (by omega : op = 1 ∨ op = 2 ∨ op = 3 ∨ op = 4 ∨ op = 5 ∨ op = 6 ∨ op = 7 ∨ op = 8 ∨ op = 9) with rfl | rfl | rfl | rfl | rfl | rfl | rfl | rfl | rfl
 ·refine ent Tryz.func147 rfl Tryz.call147 rfl (fun C => ?_); simp only [go_sem, st0, Tryz.ntmps147]
  have g : inB 1 1 9 = true := by decide
  have q0 := @g; have q1 := @a2G; have q2 := @a4n; refine pX (aG 1 1 9) ?_
  exact aA ⟨⟨_, rfl, by simp only [go_sem, kw]⟩, trivial⟩
 ·refine ent Tryz.func147 rfl Tryz.call147 rfl (fun C => ?_); simp only [go_sem, st0, Tryz.ntmps147]
  have g : inB 2 1 9 = true := by decide
  have q0 := @g; have q1 := @a2G; have q2 := @a4n; refine pX (aG 2 1 9) ?_
  exact aA ⟨⟨_, rfl, by simp only [go_sem, kw]⟩, trivial⟩
 ·refine ent Tryz.func147 rfl Tryz.call147 rfl (fun C => ?_); simp only [go_sem, st0, Tryz.ntmps147]
  have g : inB 3 1 9 = true := by decide
  have q0 := @g; have q1 := @a2G; have q2 := @a4n; refine pX (aG 3 1 9) ?_
  exact aA ⟨⟨_, rfl, by simp only [go_sem, kw]⟩, trivial⟩
 ·refine ent Tryz.func147 rfl Tryz.call147 rfl (fun C => ?_); simp only [go_sem, st0, Tryz.ntmps147]
  have g : inB 4 1 9 = true := by decide
  have q0 := @g; have q1 := @a2G; have q2 := @a4n; refine pX (aG 4 1 9) ?_
  exact aA ⟨⟨_, rfl, by simp only [go_sem, kw]⟩, trivial⟩
 ·refine ent Tryz.func147 rfl Tryz.call147 rfl (fun C => ?_); simp only [go_sem, st0, Tryz.ntmps147]
  have g : inB 5 1 9 = true := by decide
  have q0 := @g; have q1 := @a2G; have q2 := @a4n; refine pX (aG 5 1 9) ?_
  exact aA ⟨⟨_, rfl, by simp only [go_sem, kw]⟩, trivial⟩
 ·refine ent Tryz.func147 rfl Tryz.call147 rfl (fun C => ?_); simp only [go_sem, st0, Tryz.ntmps147]
  have g : inB 6 1 9 = true := by decide
  have q0 := @g; have q1 := @a2G; have q2 := @a4n; refine pX (aG 6 1 9) ?_
  exact aA ⟨⟨_, rfl, by simp only [go_sem, kw]⟩, trivial⟩
 ·refine ent Tryz.func147 rfl Tryz.call147 rfl (fun C => ?_); simp only [go_sem, st0, Tryz.ntmps147]
  have g : inB 7 1 9 = true := by decide
  have q0 := @g; have q1 := @a2G; have q2 := @a4n; refine pX (aG 7 1 9) ?_
  exact aA ⟨⟨_, rfl, by simp only [go_sem, kw]⟩, trivial⟩
 ·refine ent Tryz.func147 rfl Tryz.call147 rfl (fun C => ?_); simp only [go_sem, st0, Tryz.ntmps147]
  have g : inB 8 1 9 = true := by decide
  have q0 := @g; have q1 := @a2G; have q2 := @a4n; refine pX (aG 8 1 9) ?_
  exact aA ⟨⟨_, rfl, by simp only [go_sem, kw]⟩, trivial⟩
 ·refine ent Tryz.func147 rfl Tryz.call147 rfl (fun C => ?_); simp only [go_sem, st0, Tryz.ntmps147]
  have g : inB 9 1 9 = true := by decide
  have q0 := @g; have q1 := @a2G; have q2 := @a4n; refine pX (aG 9 1 9) ?_
  exact aA ⟨⟨_, rfl, by simp only [go_sem, kw]⟩, trivial⟩
def qt (q : List TNode) : Nat → Nat → ByteArray
 | 0, _ => ⟨#[]⟩
 | k + 1, i => match q[i]? with
  | none => ⟨#[]⟩
  | some n =>
   if n.fOp = 1 then kw 1
   else if n.fOp = 2 then kw 2 ++ ⟨#[32]⟩ ++ n.fName
   else if n.fOp = 3 then kw 3 ++ ⟨#[32]⟩ ++ n.fName ++ ⟨#[32]⟩ ++ jL n.fValue
   else if n.fOp = 4 then kw 4 ++ ⟨#[32]⟩ ++ n.fName ++ ⟨#[32]⟩ ++ jL n.fValue
   else if n.fOp = 5 then kw 5 ++ ⟨#[32]⟩ ++ qt q k n.fLeft.toNat
   else if n.fOp = 6 then kw 6 ++ ⟨#[32]⟩ ++ qt q k n.fLeft.toNat ++ ⟨#[32]⟩ ++ qt q k n.fRight.toNat
   else if n.fOp = 7 then kw 7 ++ ⟨#[32]⟩ ++ qt q k n.fLeft.toNat ++ ⟨#[32]⟩ ++ qt q k n.fRight.toNat
   else if n.fOp = 8 then kw 8 ++ ⟨#[32]⟩ ++ n.fName
   else kw 9 ++ ⟨#[32]⟩ ++ n.fName
theorem a2Y {n : TNode} {i : Nat} (h : bF n i = true) : (n.fOp = 2 ∨ n.fOp = 3 ∨ n.fOp = 4 ∨ n.fOp = 8 ∨ n.fOp = 9 → n.fName.size ≤ 6) ∧ (n.fOp = 3 ∨ n.fOp = 4 → n.fValue.fStr.size ≤ 6) := by
 unfold bF at h
 constructor
 ·intro ho
  rcases ho with ho | ho | ho | ho | ho
  all_goals
   simp [ho] at h
   have := jD h.1
   omega
 ·intro ho
  rcases ho with ho | ho
  all_goals
   simp [ho] at h
   exact a6k h.2.1
theorem a4o {q : List TNode} (h : okQ q = true) (hi : ∀ n ∈ q, inR .i64 n.fValue.fInt) : ∀ k i, (qt q k i).size ≤ 64 * 2 ^ k - 16
 | 0, i => by simp only [qt]; decide
 | k + 1, i => by
  have ih := a4o h hi k
  have hp : 1 ≤ 2 ^ k := Nat.one_le_two_pow
  have hs : 2 ^ (k + 1) = 2 * 2 ^ k := by rw [Nat.pow_succ]; omega
  have e1 : (⟨#[32]⟩ : ByteArray).size = 1 := rfl
  rw [hs]
  unfold qt
  split
  ·have : (⟨#[]⟩ : ByteArray).size = 0 := rfl
   omega
  rename_i n hn
  have hok := a2Y (uH h hn)
  have hv := zV n.fValue (hi n (List.mem_of_getElem? hn))
  have hl := ih n.fLeft.toNat
  have hr := ih n.fRight.toNat
  have w1 := fV 1; have w2 := fV 2; have w3 := fV 3; have w4 := fV 4; have w5 := fV 5; have w6 := fV 6; have w7 := fV 7; have w8 := fV 8; have w9 := fV 9
  have hop := qB (uH h hn)
  repeat' split
  all_goals
   first
   | (have a1 := hok.1 (by omega); have a2 := hok.2 (by omega); simp only [ByteArray.size_append]; omega)
   | (have a1 := hok.1 (by omega); simp only [ByteArray.size_append]; omega)
   | (simp only [ByteArray.size_append]; omega)
   | omega
theorem b1g (a : ByteArray) (h : a.size ≤ 100000) : FnC Tryz.prog 92 [.o (.d (.sl [[sv a]])), os ⟨#[32]⟩] (os a) := by
 have e : iT [a] ⟨#[32]⟩ = a := by
  apply lV; unfold iT; rw [List.map_cons, List.map_nil, Lib.join_one]
 have c := xN [a] ⟨#[32]⟩ (by simp) (by simp) (by rw [e]; omega)
 rw [e] at c
 exact c
theorem xJ (a b : ByteArray) (h : a.size + b.size ≤ 100000) : FnC Tryz.prog 92 [.o (.d (.sl [[sv a], [sv b]])), os ⟨#[32]⟩] (os (a ++ ⟨#[32]⟩ ++ b)) := by
 have e1 : (⟨#[32]⟩ : ByteArray).size = 1 := rfl
 have e0 : iT [a] ⟨#[32]⟩ = a := by
  apply lV; unfold iT; rw [List.map_cons, List.map_nil, Lib.join_one]
 have e : iT ([a] ++ [b]) ⟨#[32]⟩ = a ++ ⟨#[32]⟩ ++ b := by rw [jT (by simp), e0]
 have c := xN ([a] ++ [b]) ⟨#[32]⟩ (by simp) (by simp) (by rw [e]; simp only [ByteArray.size_append]; omega)
 rw [e] at c
 exact c
theorem xK (a b d : ByteArray) (h : a.size + b.size + d.size ≤ 100000) : FnC Tryz.prog 92 [.o (.d (.sl [[sv a], [sv b], [sv d]])), os ⟨#[32]⟩] (os (a ++ ⟨#[32]⟩ ++ b ++ ⟨#[32]⟩ ++ d)) := by
 have e1 : (⟨#[32]⟩ : ByteArray).size = 1 := rfl
 have e0 : iT [a] ⟨#[32]⟩ = a := by
  apply lV; unfold iT; rw [List.map_cons, List.map_nil, Lib.join_one]
 have e : iT ([a] ++ [b, d]) ⟨#[32]⟩ = a ++ ⟨#[32]⟩ ++ b ++ ⟨#[32]⟩ ++ d := by rw [a2Z (by simp), e0]
 have c := xN ([a] ++ [b, d]) ⟨#[32]⟩ (by simp) (by simp) (by rw [e]; simp only [ByteArray.size_append]; omega)
 rw [e] at c
 exact c
theorem a5y (q : List TNode) (hv : okQ q = true) (hw : ∀ n ∈ q, inR .i64 n.fValue.fInt) : ∀ k i, i < k → k ≤ q.length → FnC Tryz.prog 94 [.o (.d (.sl (q.map bH))), oi (i : Nat)] (os (qt q k i)) := by
 intro k
 induction k with
 | zero => intro i hi _; omega
 | succ k ih => ?_
 intro i hi hk
 have hlt : i < q.length := by omega
 have hn := List.getElem?_eq_getElem hlt
 have hok := uH hv hn
 have hop := qB hok
 have hsz := a2Y hok
 have hlen := iI hv
 have hp : 2 ^ k ≤ 2 ^ 9 := Nat.pow_le_pow_right (by omega) (by omega)
 have hp' : (2 : Nat) ^ 9 = 512 := rfl
 have hqs := a4o hv hw k
 have hfi := hw q[i] (List.getElem_mem hlt)
 have hfv := zV q[i].fValue hfi
 have e1 : (⟨#[32]⟩ : ByteArray).size = 1 := rfl
 refine ent Tryz.func94 rfl Tryz.call94 rfl (fun C => ?_); simp only [go_sem, st0, Tryz.ntmps94]
 rcases hop with h | h | h | h | h | h | h | h | h
 ·have wz := fV 1
  have hm : qt q (k + 1) i = kw 1 := by simp [qt, hn, h]
  have cj := b1g (kw 1) (by omega)
  have q0 := @hlt; have q1 := @h; have q2 := @decide_true; have q3 := @decide_false; refine a1W (iN 1 (by omega)) cj ?_
  exact aA ⟨⟨_, rfl, by simp only [go_sem, hm]⟩, trivial⟩
 ·have wz := fV 2
  have nz := hsz.1 (by omega)
  have hm : qt q (k + 1) i = kw 2 ++ ⟨#[32]⟩ ++ q[i].fName := by simp [qt, hn, h]
  have cj := xJ (kw 2) q[i].fName (by omega)
  have q0 := @hlt; have q1 := @h; have q2 := @decide_true; have q3 := @decide_false; refine a1W (iN 2 (by omega)) cj ?_
  exact aA ⟨⟨_, rfl, by simp only [go_sem, hm]⟩, trivial⟩
 ·have wz := fV 3
  have nz := hsz.1 (by omega)
  have vz := hsz.2 (by omega)
  have hm : qt q (k + 1) i = kw 3 ++ ⟨#[32]⟩ ++ q[i].fName ++ ⟨#[32]⟩ ++ jL q[i].fValue := by simp [qt, hn, h]
  have cv := jU q[i].fValue (by omega) hfi
  have cj := xK (kw 3) q[i].fName (jL q[i].fValue) (by omega)
  have qH := aI @hlt (aI @h (aI @decide_true @decide_false)); repeat' (with_reducible first | refine nY ?_ | (refine mX ?_; try simp only [go_sem, qH]) | refine kD ?_ | (apply rE [5,6,7,8] [8] [0,1,2,3,4] [0,1,2,3,4] ((.c 5 [] [0,1,2] (.c 6 [] [0] (.c 7 [] [] (.c 8 [] [] .n .n) .n) .n) .n)) (by simp only [go_sem]; rfl) (by simp only [go_sem]; rfl) (by simp only [go_sem]; rfl) (by decide +kernel); (focus simp only [go_sem]; done)) | exact bA | refine aM (uX ?_) ?_ | refine aN (aX ?_) ?_ | refine aP (aX ?_) ?_ | exact bD | exact oH | exact uB | refine rD ?_ | refine cP (iN 3 (by omega)) ?_ | refine cP cv ?_ | refine cP cj ?_ | refine aO ?_ | fail)
  exact aA ⟨⟨_, rfl, by simp only [go_sem, hm]⟩, trivial⟩
 ·have wz := fV 4
  have nz := hsz.1 (by omega)
  have vz := hsz.2 (by omega)
  have hm : qt q (k + 1) i = kw 4 ++ ⟨#[32]⟩ ++ q[i].fName ++ ⟨#[32]⟩ ++ jL q[i].fValue := by simp [qt, hn, h]
  have cv := jU q[i].fValue (by omega) hfi
  have cj := xK (kw 4) q[i].fName (jL q[i].fValue) (by omega)
  have qH := aI @hlt (aI @h (aI @decide_true @decide_false)); repeat' (with_reducible first | refine nY ?_ | (refine mX ?_; try simp only [go_sem, qH]) | refine kD ?_ | (apply rE [5,6,7,8] [8] [0,1,2,3,4] [0,1,2,3,4] ((.c 5 [] [0,1,2] (.c 6 [] [0] (.c 7 [] [] (.c 8 [] [] .n .n) .n) .n) .n)) (by simp only [go_sem]; rfl) (by simp only [go_sem]; rfl) (by simp only [go_sem]; rfl) (by decide +kernel); (focus simp only [go_sem]; done)) | exact bA | refine aM (uX ?_) ?_ | refine aN (aX ?_) ?_ | refine aP (aX ?_) ?_ | exact bD | exact oH | exact uB | refine rD ?_ | refine cP (iN 4 (by omega)) ?_ | refine cP cv ?_ | refine cP cj ?_ | refine aO ?_ | fail)
  exact aA ⟨⟨_, rfl, by simp only [go_sem, hm]⟩, trivial⟩
 ·have wz := fV 5
  obtain ⟨l, hl, hli⟩ := fM hok (.inl h)
  have hm : qt q (k + 1) i = kw 5 ++ ⟨#[32]⟩ ++ qt q k l := by simp [qt, hn, h, hl]
  have cl := ih l (by omega) (by omega)
  have zl := hqs l
  generalize qt q k l = tl at *
  have cj := xJ (kw 5) tl (by omega)
  have q0 := @hlt; have q1 := @h; have q2 := @hl; have q3 := @decide_true; have q4 := @decide_false; refine b8m (iN 5 (by omega)) cl cj ?_
  exact aA ⟨⟨_, rfl, by simp only [go_sem, hm]⟩, trivial⟩
 ·have wz := fV 6
  obtain ⟨l, hl, hli⟩ := fM hok (.inr (.inl h))
  obtain ⟨m, hr2, hmi⟩ := jE hok (.inl h)
  have hm : qt q (k + 1) i = kw 6 ++ ⟨#[32]⟩ ++ qt q k l ++ ⟨#[32]⟩ ++ qt q k m := by simp [qt, hn, h, hl, hr2]
  have cl := ih l (by omega) (by omega)
  have cm := ih m (by omega) (by omega)
  have zl := hqs l
  have zm := hqs m
  have cj := xK (kw 6) (qt q k l) (qt q k m) (by omega)
  have qH := aI @hlt (aI @h (aI @hl (aI @hr2 (aI @decide_true @decide_false)))); repeat' (with_reducible first | refine nY ?_ | (refine mX ?_; try simp only [go_sem, qH]) | refine kD ?_ | (apply rE [4,8,9,10,11] [11] [0,1,2,3,5,6,7] [0,1,2,3,5,6,7] ((.c 4 [] [0,5,6,7] (.c 8 [] [0] (.c 9 [] [0] (.c 10 [] [] (.c 11 [] [] .n .n) .n) .n) .n) .n)) (by simp only [go_sem]; rfl) (by simp only [go_sem]; rfl) (by simp only [go_sem]; rfl) (by decide +kernel); (focus simp only [go_sem]; done)) | exact bA | refine aM (uX ?_) ?_ | refine aN (aX ?_) ?_ | refine aP (aX ?_) ?_ | exact bD | exact oH | exact uB | refine rD ?_ | refine cP (iN 6 (by omega)) ?_ | refine cP cl ?_ | refine cP cm ?_ | refine cP cj ?_ | refine aO ?_ | fail)
  exact aA ⟨⟨_, rfl, by simp only [go_sem, hm]⟩, trivial⟩
 ·have wz := fV 7
  obtain ⟨l, hl, hli⟩ := fM hok (.inr (.inr h))
  obtain ⟨m, hr2, hmi⟩ := jE hok (.inr h)
  have hm : qt q (k + 1) i = kw 7 ++ ⟨#[32]⟩ ++ qt q k l ++ ⟨#[32]⟩ ++ qt q k m := by simp [qt, hn, h, hl, hr2]
  have cl := ih l (by omega) (by omega)
  have cm := ih m (by omega) (by omega)
  have zl := hqs l
  have zm := hqs m
  have cj := xK (kw 7) (qt q k l) (qt q k m) (by omega)
  have qH := aI @hlt (aI @h (aI @hl (aI @hr2 (aI @decide_true @decide_false)))); repeat' (with_reducible first | refine nY ?_ | (refine mX ?_; try simp only [go_sem, qH]) | refine kD ?_ | (apply rE [4,8,9,10,11] [11] [0,1,2,3,5,6,7] [0,1,2,3,5,6,7] ((.c 4 [] [0,5,6,7] (.c 8 [] [0] (.c 9 [] [0] (.c 10 [] [] (.c 11 [] [] .n .n) .n) .n) .n) .n)) (by simp only [go_sem]; rfl) (by simp only [go_sem]; rfl) (by simp only [go_sem]; rfl) (by decide +kernel); (focus simp only [go_sem]; done)) | exact bA | refine aM (uX ?_) ?_ | refine aN (aX ?_) ?_ | refine aP (aX ?_) ?_ | exact bD | exact oH | exact uB | refine rD ?_ | refine cP (iN 7 (by omega)) ?_ | refine cP cl ?_ | refine cP cm ?_ | refine cP cj ?_ | refine aO ?_ | fail)
  exact aA ⟨⟨_, rfl, by simp only [go_sem, hm]⟩, trivial⟩
 ·have wz := fV 8
  have nz := hsz.1 (by omega)
  have hm : qt q (k + 1) i = kw 8 ++ ⟨#[32]⟩ ++ q[i].fName := by simp [qt, hn, h]
  have cj := xJ (kw 8) q[i].fName (by omega)
  have q0 := @hlt; have q1 := @h; have q2 := @decide_true; have q3 := @decide_false; refine a1W (iN 8 (by omega)) cj ?_
  exact aA ⟨⟨_, rfl, by simp only [go_sem, hm]⟩, trivial⟩
 ·have wz := fV 9
  have nz := hsz.1 (by omega)
  have hm : qt q (k + 1) i = kw 9 ++ ⟨#[32]⟩ ++ q[i].fName := by simp [qt, hn, h]
  have cj := xJ (kw 9) q[i].fName (by omega)
  have q0 := @hlt; have q1 := @h; have q2 := @decide_true; have q3 := @decide_false; refine a1W (iN 9 (by omega)) cj ?_
  exact aA ⟨⟨_, rfl, by simp only [go_sem, hm]⟩, trivial⟩
def qtx (q : List TNode) : ByteArray := if okQ q then qt q q.length (q.length - 1) else ⟨#[]⟩
theorem b1h (q : List TNode) (hw : ∀ n ∈ q, inR .i64 n.fValue.fInt) : (qtx q).size ≤ 32768 := by
 unfold qtx
 split
 ·rename_i h
  have h2 := a4o h hw q.length (q.length - 1)
  have h3 : 2 ^ q.length ≤ 2 ^ 9 := Nat.pow_le_pow_right (by omega) (iI h).2
  have h4 : (2 : Nat) ^ 9 = 512 := rfl
  omega
 ·decide
theorem wM (q : List TNode) (hq : wNodeS q ≤ 1048576) (hw : ∀ n ∈ q, inR .i64 n.fValue.fInt) : FnC Tryz.prog 51 [.o (.d (.sl (q.map bH)))] (os (qtx q)) := by
 refine ent Tryz.func51 rfl Tryz.call51 rfl (fun C => ?_); simp only [go_sem, st0, Tryz.ntmps51]
 cases hv : okQ q
 ·have q0 := @hv; refine qY (bJ q (by omega)) ?_
  exact aA ⟨⟨_, rfl, by simp only [go_sem, qtx, hv, if_false, Bool.false_eq_true]⟩, trivial⟩
 ·have hl := iI hv
  have hx : (q.length : Int) - 1 = ((q.length - 1 : Nat) : Int) := by omega
  have q0 := @hv; have q1 := @hx; refine b0s (bJ q (by omega)) (a5y q hv hw q.length (q.length - 1) (by omega) (by omega)) ?_
  exact aA ⟨⟨_, rfl, by simp only [go_sem, qtx, hv, if_true]⟩, trivial⟩
end Go.Proofs.YtgpoopjfkplilaaGreatDoor
end
