/- Joined texts. -/
import Derived.Test.YtgpoopjfkplilaaGreatDoorZ09
import Derived.Test.YtgpoopjfkplilaaGreatDoorZ10
set_option linter.all false
section
set_option maxRecDepth 100000
set_option maxHeartbeats 4000000
namespace Go.Proofs.YtgpoopjfkplilaaGreatDoor
open Go Go.Sx Go.RowKit Go.Proofs
def kw (op : Int) : ByteArray := if op = 1 then ⟨#[97, 108, 108]⟩ else if op = 2 then ⟨#[104, 97, 115]⟩ else if op = 3 then ⟨#[101, 113]⟩ else if op = 4 then ⟨#[108, 116]⟩ else if op = 5 then ⟨#[110, 111, 116]⟩ else if op = 6 then ⟨#[97, 110, 100]⟩ else if op = 7 then ⟨#[111, 114]⟩ else if op = 8 then ⟨#[105, 110]⟩ else if op = 9 then ⟨#[108, 105, 110, 107, 101, 100]⟩ else ⟨#[63]⟩
theorem dQ (op : Int) : (kw op).size ≤ 6 := by
 unfold kw
 repeat' split
 all_goals decide
theorem rG (r : List D) (rs : List (List D)) : fV (r :: rs) 0 = r := rfl
theorem tN (r : List D) (rs : List (List D)) (n : Nat) : fV (r :: rs) (n + 1) = fV rs n := rfl
theorem iR (op : Int) (h : 1 ≤ op ∧ op ≤ 9) : FnC Tryz.prog 147 [oi op] (os (kw op)) := by
 rcases (by omega : op = 1 ∨ op = 2 ∨ op = 3 ∨ op = 4 ∨ op = 5 ∨ op = 6 ∨ op = 7 ∨ op = 8 ∨ op = 9) with rfl | rfl | rfl | rfl | rfl | rfl | rfl | rfl | rfl
 ·refine ent Tryz.func147 rfl Tryz.call147 rfl (fun C => ?_); simp only [go_sem, st0, Tryz.ntmps147]
  have g : inB 1 1 9 = true := by decide
  have q0 := @g; have q1 := @rG; have q2 := @tN; refine gX (aF 1 1 9) ?_
  exact aA ⟨⟨_, rfl, by simp only [go_sem, kw]⟩, trivial⟩
 ·refine ent Tryz.func147 rfl Tryz.call147 rfl (fun C => ?_); simp only [go_sem, st0, Tryz.ntmps147]
  have g : inB 2 1 9 = true := by decide
  have q0 := @g; have q1 := @rG; have q2 := @tN; refine gX (aF 2 1 9) ?_
  exact aA ⟨⟨_, rfl, by simp only [go_sem, kw]⟩, trivial⟩
 ·refine ent Tryz.func147 rfl Tryz.call147 rfl (fun C => ?_); simp only [go_sem, st0, Tryz.ntmps147]
  have g : inB 3 1 9 = true := by decide
  have q0 := @g; have q1 := @rG; have q2 := @tN; refine gX (aF 3 1 9) ?_
  exact aA ⟨⟨_, rfl, by simp only [go_sem, kw]⟩, trivial⟩
 ·refine ent Tryz.func147 rfl Tryz.call147 rfl (fun C => ?_); simp only [go_sem, st0, Tryz.ntmps147]
  have g : inB 4 1 9 = true := by decide
  have q0 := @g; have q1 := @rG; have q2 := @tN; refine gX (aF 4 1 9) ?_
  exact aA ⟨⟨_, rfl, by simp only [go_sem, kw]⟩, trivial⟩
 ·refine ent Tryz.func147 rfl Tryz.call147 rfl (fun C => ?_); simp only [go_sem, st0, Tryz.ntmps147]
  have g : inB 5 1 9 = true := by decide
  have q0 := @g; have q1 := @rG; have q2 := @tN; refine gX (aF 5 1 9) ?_
  exact aA ⟨⟨_, rfl, by simp only [go_sem, kw]⟩, trivial⟩
 ·refine ent Tryz.func147 rfl Tryz.call147 rfl (fun C => ?_); simp only [go_sem, st0, Tryz.ntmps147]
  have g : inB 6 1 9 = true := by decide
  have q0 := @g; have q1 := @rG; have q2 := @tN; refine gX (aF 6 1 9) ?_
  exact aA ⟨⟨_, rfl, by simp only [go_sem, kw]⟩, trivial⟩
 ·refine ent Tryz.func147 rfl Tryz.call147 rfl (fun C => ?_); simp only [go_sem, st0, Tryz.ntmps147]
  have g : inB 7 1 9 = true := by decide
  have q0 := @g; have q1 := @rG; have q2 := @tN; refine gX (aF 7 1 9) ?_
  exact aA ⟨⟨_, rfl, by simp only [go_sem, kw]⟩, trivial⟩
 ·refine ent Tryz.func147 rfl Tryz.call147 rfl (fun C => ?_); simp only [go_sem, st0, Tryz.ntmps147]
  have g : inB 8 1 9 = true := by decide
  have q0 := @g; have q1 := @rG; have q2 := @tN; refine gX (aF 8 1 9) ?_
  exact aA ⟨⟨_, rfl, by simp only [go_sem, kw]⟩, trivial⟩
 ·refine ent Tryz.func147 rfl Tryz.call147 rfl (fun C => ?_); simp only [go_sem, st0, Tryz.ntmps147]
  have g : inB 9 1 9 = true := by decide
  have q0 := @g; have q1 := @rG; have q2 := @tN; refine gX (aF 9 1 9) ?_
  exact aA ⟨⟨_, rfl, by simp only [go_sem, kw]⟩, trivial⟩
theorem iT (op : Int) (h : 1 ≤ op ∧ op ≤ 9) : FnC Tryz.prog 205 [oi op] (os (kw op)) := by
 rcases (by omega : op = 1 ∨ op = 2 ∨ op = 3 ∨ op = 4 ∨ op = 5 ∨ op = 6 ∨ op = 7 ∨ op = 8 ∨ op = 9) with rfl | rfl | rfl | rfl | rfl | rfl | rfl | rfl | rfl
 ·refine ent Tryz.func205 rfl Tryz.call205 rfl (fun C => ?_); simp only [go_sem, st0, Tryz.ntmps205]
  have g : inB 1 1 9 = true := by decide
  have q0 := @g; have q1 := @rG; have q2 := @tN; refine gX (bA 1 1 9) ?_
  exact aA ⟨⟨_, rfl, by simp only [go_sem, kw]⟩, trivial⟩
 ·refine ent Tryz.func205 rfl Tryz.call205 rfl (fun C => ?_); simp only [go_sem, st0, Tryz.ntmps205]
  have g : inB 2 1 9 = true := by decide
  have q0 := @g; have q1 := @rG; have q2 := @tN; refine gX (bA 2 1 9) ?_
  exact aA ⟨⟨_, rfl, by simp only [go_sem, kw]⟩, trivial⟩
 ·refine ent Tryz.func205 rfl Tryz.call205 rfl (fun C => ?_); simp only [go_sem, st0, Tryz.ntmps205]
  have g : inB 3 1 9 = true := by decide
  have q0 := @g; have q1 := @rG; have q2 := @tN; refine gX (bA 3 1 9) ?_
  exact aA ⟨⟨_, rfl, by simp only [go_sem, kw]⟩, trivial⟩
 ·refine ent Tryz.func205 rfl Tryz.call205 rfl (fun C => ?_); simp only [go_sem, st0, Tryz.ntmps205]
  have g : inB 4 1 9 = true := by decide
  have q0 := @g; have q1 := @rG; have q2 := @tN; refine gX (bA 4 1 9) ?_
  exact aA ⟨⟨_, rfl, by simp only [go_sem, kw]⟩, trivial⟩
 ·refine ent Tryz.func205 rfl Tryz.call205 rfl (fun C => ?_); simp only [go_sem, st0, Tryz.ntmps205]
  have g : inB 5 1 9 = true := by decide
  have q0 := @g; have q1 := @rG; have q2 := @tN; refine gX (bA 5 1 9) ?_
  exact aA ⟨⟨_, rfl, by simp only [go_sem, kw]⟩, trivial⟩
 ·refine ent Tryz.func205 rfl Tryz.call205 rfl (fun C => ?_); simp only [go_sem, st0, Tryz.ntmps205]
  have g : inB 6 1 9 = true := by decide
  have q0 := @g; have q1 := @rG; have q2 := @tN; refine gX (bA 6 1 9) ?_
  exact aA ⟨⟨_, rfl, by simp only [go_sem, kw]⟩, trivial⟩
 ·refine ent Tryz.func205 rfl Tryz.call205 rfl (fun C => ?_); simp only [go_sem, st0, Tryz.ntmps205]
  have g : inB 7 1 9 = true := by decide
  have q0 := @g; have q1 := @rG; have q2 := @tN; refine gX (bA 7 1 9) ?_
  exact aA ⟨⟨_, rfl, by simp only [go_sem, kw]⟩, trivial⟩
 ·refine ent Tryz.func205 rfl Tryz.call205 rfl (fun C => ?_); simp only [go_sem, st0, Tryz.ntmps205]
  have g : inB 8 1 9 = true := by decide
  have q0 := @g; have q1 := @rG; have q2 := @tN; refine gX (bA 8 1 9) ?_
  exact aA ⟨⟨_, rfl, by simp only [go_sem, kw]⟩, trivial⟩
 ·refine ent Tryz.func205 rfl Tryz.call205 rfl (fun C => ?_); simp only [go_sem, st0, Tryz.ntmps205]
  have g : inB 9 1 9 = true := by decide
  have q0 := @g; have q1 := @rG; have q2 := @tN; refine gX (bA 9 1 9) ?_
  exact aA ⟨⟨_, rfl, by simp only [go_sem, kw]⟩, trivial⟩
def qt (q : List TNode) : Nat → Nat → ByteArray
 | 0, _ => ⟨#[]⟩
 | k + 1, i => match q[i]? with
  | none => ⟨#[]⟩
  | some n =>
   if n.fOp = 1 then kw 1
   else if n.fOp = 2 then kw 2 ++ ⟨#[32]⟩ ++ n.fName
   else if n.fOp = 3 then kw 3 ++ ⟨#[32]⟩ ++ n.fName ++ ⟨#[32]⟩ ++ fH n.fValue
   else if n.fOp = 4 then kw 4 ++ ⟨#[32]⟩ ++ n.fName ++ ⟨#[32]⟩ ++ fH n.fValue
   else if n.fOp = 5 then kw 5 ++ ⟨#[32]⟩ ++ qt q k n.fLeft.toNat
   else if n.fOp = 6 then kw 6 ++ ⟨#[32]⟩ ++ qt q k n.fLeft.toNat ++ ⟨#[32]⟩ ++ qt q k n.fRight.toNat
   else if n.fOp = 7 then kw 7 ++ ⟨#[32]⟩ ++ qt q k n.fLeft.toNat ++ ⟨#[32]⟩ ++ qt q k n.fRight.toNat
   else if n.fOp = 8 then kw 8 ++ ⟨#[32]⟩ ++ n.fName
   else kw 9 ++ ⟨#[32]⟩ ++ n.fName
theorem a0s {n : TNode} {i : Nat} (h : bF n i = true) : (n.fOp = 2 ∨ n.fOp = 3 ∨ n.fOp = 4 ∨ n.fOp = 8 ∨ n.fOp = 9 → n.fName.size ≤ 6) ∧ (n.fOp = 3 ∨ n.fOp = 4 → n.fValue.fStr.size ≤ 6) := by
 unfold bF at h
 constructor
 ·intro ho
  rcases ho with ho | ho | ho | ho | ho
  all_goals
   simp [ho] at h
   have := jL h.1
   omega
 ·intro ho
  rcases ho with ho | ho
  all_goals
   simp [ho] at h
   exact a7C h.2.1
theorem a1z {q : List TNode} (h : okQ q = true) (hi : ∀ n ∈ q, inR .i64 n.fValue.fInt) : ∀ k i, (qt q k i).size ≤ 64 * 2 ^ k - 16
 | 0, i => by simp only [qt]; decide
 | k + 1, i => by
  have ih := a1z h hi k
  have hp : 1 ≤ 2 ^ k := Nat.one_le_two_pow
  have hs : 2 ^ (k + 1) = 2 * 2 ^ k := by rw [Nat.pow_succ]; omega
  have e1 : (⟨#[32]⟩ : ByteArray).size = 1 := rfl
  rw [hs]
  unfold qt
  split
  ·have : (⟨#[]⟩ : ByteArray).size = 0 := rfl
   omega
  rename_i n hn
  have hok := a0s (oK h hn)
  have hv := nG n.fValue (hi n (List.mem_of_getElem? hn))
  have hl := ih n.fLeft.toNat
  have hr := ih n.fRight.toNat
  have w1 := dQ 1; have w2 := dQ 2; have w3 := dQ 3; have w4 := dQ 4; have w5 := dQ 5; have w6 := dQ 6; have w7 := dQ 7; have w8 := dQ 8; have w9 := dQ 9
  have hop := nL (oK h hn)
  repeat' split
  all_goals
   first
   | (have a1 := hok.1 (by omega); have a2 := hok.2 (by omega); simp only [ByteArray.size_append]; omega)
   | (have a1 := hok.1 (by omega); simp only [ByteArray.size_append]; omega)
   | (simp only [ByteArray.size_append]; omega)
   | omega
theorem b2w (a : ByteArray) (h : a.size ≤ 100000) : FnC Tryz.prog 92 [.o (.d (.sl [[sv a]])), os ⟨#[32]⟩] (os a) := by
 have e : gY [a] ⟨#[32]⟩ = a := by
  apply mM; unfold gY; rw [List.map_cons, List.map_nil, Lib.join_one]
 have c := yK [a] ⟨#[32]⟩ (by simp) (by simp) (by rw [e]; omega)
 rw [e] at c
 exact c
theorem yE (a b : ByteArray) (h : a.size + b.size ≤ 100000) : FnC Tryz.prog 92 [.o (.d (.sl [[sv a], [sv b]])), os ⟨#[32]⟩] (os (a ++ ⟨#[32]⟩ ++ b)) := by
 have e1 : (⟨#[32]⟩ : ByteArray).size = 1 := rfl
 have e0 : gY [a] ⟨#[32]⟩ = a := by
  apply mM; unfold gY; rw [List.map_cons, List.map_nil, Lib.join_one]
 have e : gY ([a] ++ [b]) ⟨#[32]⟩ = a ++ ⟨#[32]⟩ ++ b := by rw [iZ (by simp), e0]
 have c := yK ([a] ++ [b]) ⟨#[32]⟩ (by simp) (by simp) (by rw [e]; simp only [ByteArray.size_append]; omega)
 rw [e] at c
 exact c
theorem yF (a b d : ByteArray) (h : a.size + b.size + d.size ≤ 100000) : FnC Tryz.prog 92 [.o (.d (.sl [[sv a], [sv b], [sv d]])), os ⟨#[32]⟩] (os (a ++ ⟨#[32]⟩ ++ b ++ ⟨#[32]⟩ ++ d)) := by
 have e1 : (⟨#[32]⟩ : ByteArray).size = 1 := rfl
 have e0 : gY [a] ⟨#[32]⟩ = a := by
  apply mM; unfold gY; rw [List.map_cons, List.map_nil, Lib.join_one]
 have e : gY ([a] ++ [b, d]) ⟨#[32]⟩ = a ++ ⟨#[32]⟩ ++ b ++ ⟨#[32]⟩ ++ d := by rw [vG (by simp), e0]
 have c := yK ([a] ++ [b, d]) ⟨#[32]⟩ (by simp) (by simp) (by rw [e]; simp only [ByteArray.size_append]; omega)
 rw [e] at c
 exact c
theorem a6K (q : List TNode) (hv : okQ q = true) (hw : ∀ n ∈ q, inR .i64 n.fValue.fInt) : ∀ k i, i < k → k ≤ q.length → FnC Tryz.prog 94 [.o (.d (.sl (q.map bE))), oi (i : Nat)] (os (qt q k i)) := by
 intro k
 induction k with
 | zero => intro i hi _; omega
 | succ k ih => ?_
 intro i hi hk
 have hlt : i < q.length := by omega
 have hn := List.getElem?_eq_getElem hlt
 have hok := oK hv hn
 have hop := nL hok
 have hsz := a0s hok
 have hlen := gD hv
 have hp : 2 ^ k ≤ 2 ^ 9 := Nat.pow_le_pow_right (by omega) (by omega)
 have hp' : (2 : Nat) ^ 9 = 512 := rfl
 have hqs := a1z hv hw k
 have hfi := hw q[i] (List.getElem_mem hlt)
 have hfv := nG q[i].fValue hfi
 have e1 : (⟨#[32]⟩ : ByteArray).size = 1 := rfl
 refine ent Tryz.func94 rfl Tryz.call94 rfl (fun C => ?_); simp only [go_sem, st0, Tryz.ntmps94]
 rcases hop with h | h | h | h | h | h | h | h | h
 ·have wz := dQ 1
  have hm : qt q (k + 1) i = kw 1 := by simp [qt, hn, h]
  have cj := b2w (kw 1) (by omega)
  have q0 := @hlt; have q1 := @h; have q2 := @decide_true; have q3 := @decide_false; refine xM (iR 1 (by omega)) cj ?_
  exact aA ⟨⟨_, rfl, by simp only [go_sem, hm]⟩, trivial⟩
 ·have wz := dQ 2
  have nz := hsz.1 (by omega)
  have hm : qt q (k + 1) i = kw 2 ++ ⟨#[32]⟩ ++ q[i].fName := by simp [qt, hn, h]
  have cj := yE (kw 2) q[i].fName (by omega)
  have q0 := @hlt; have q1 := @h; have q2 := @decide_true; have q3 := @decide_false; refine xM (iR 2 (by omega)) cj ?_
  exact aA ⟨⟨_, rfl, by simp only [go_sem, hm]⟩, trivial⟩
 ·have wz := dQ 3
  have nz := hsz.1 (by omega)
  have vz := hsz.2 (by omega)
  have hm : qt q (k + 1) i = kw 3 ++ ⟨#[32]⟩ ++ q[i].fName ++ ⟨#[32]⟩ ++ fH q[i].fValue := by simp [qt, hn, h]
  have cv := kF q[i].fValue (by omega) hfi
  have cj := yF (kw 3) q[i].fName (fH q[i].fValue) (by omega)
  have qH := aI @hlt (aI @h (aI @decide_true @decide_false)); repeat' (with_reducible first | refine nY ?_ | (refine mX ?_; try simp only [go_sem, qH]) | refine kD ?_ | (apply rE [5,6,7,8] [8] [0,1,2,3,4] [0,1,2,3,4] ((.c 5 [] [0,1,2] (.c 6 [] [0] (.c 7 [] [] (.c 8 [] [] .n .n) .n) .n) .n)) (by simp only [go_sem]; rfl) (by simp only [go_sem]; rfl) (by simp only [go_sem]; rfl) (by decide +kernel); (focus simp only [go_sem]; done)) | exact bY | refine bJ (uX ?_) ?_ | refine bK (aX ?_) ?_ | refine bL (aX ?_) ?_ | exact bI | exact oH | exact uB | refine rD ?_ | refine cP (iR 3 (by omega)) ?_ | refine cP cv ?_ | refine cP cj ?_ | refine aO ?_ | fail)
  exact aA ⟨⟨_, rfl, by simp only [go_sem, hm]⟩, trivial⟩
 ·have wz := dQ 4
  have nz := hsz.1 (by omega)
  have vz := hsz.2 (by omega)
  have hm : qt q (k + 1) i = kw 4 ++ ⟨#[32]⟩ ++ q[i].fName ++ ⟨#[32]⟩ ++ fH q[i].fValue := by simp [qt, hn, h]
  have cv := kF q[i].fValue (by omega) hfi
  have cj := yF (kw 4) q[i].fName (fH q[i].fValue) (by omega)
  have qH := aI @hlt (aI @h (aI @decide_true @decide_false)); repeat' (with_reducible first | refine nY ?_ | (refine mX ?_; try simp only [go_sem, qH]) | refine kD ?_ | (apply rE [5,6,7,8] [8] [0,1,2,3,4] [0,1,2,3,4] ((.c 5 [] [0,1,2] (.c 6 [] [0] (.c 7 [] [] (.c 8 [] [] .n .n) .n) .n) .n)) (by simp only [go_sem]; rfl) (by simp only [go_sem]; rfl) (by simp only [go_sem]; rfl) (by decide +kernel); (focus simp only [go_sem]; done)) | exact bY | refine bJ (uX ?_) ?_ | refine bK (aX ?_) ?_ | refine bL (aX ?_) ?_ | exact bI | exact oH | exact uB | refine rD ?_ | refine cP (iR 4 (by omega)) ?_ | refine cP cv ?_ | refine cP cj ?_ | refine aO ?_ | fail)
  exact aA ⟨⟨_, rfl, by simp only [go_sem, hm]⟩, trivial⟩
 ·have wz := dQ 5
  obtain ⟨l, hl, hli⟩ := eT hok (.inl h)
  have hm : qt q (k + 1) i = kw 5 ++ ⟨#[32]⟩ ++ qt q k l := by simp [qt, hn, h, hl]
  have cl := ih l (by omega) (by omega)
  have zl := hqs l
  generalize qt q k l = tl at *
  have cj := yE (kw 5) tl (by omega)
  have q0 := @hlt; have q1 := @h; have q2 := @hl; have q3 := @decide_true; have q4 := @decide_false; refine b6u (iR 5 (by omega)) cl cj ?_
  exact aA ⟨⟨_, rfl, by simp only [go_sem, hm]⟩, trivial⟩
 ·have wz := dQ 6
  obtain ⟨l, hl, hli⟩ := eT hok (.inr (.inl h))
  obtain ⟨m, hr2, hmi⟩ := gP hok (.inl h)
  have hm : qt q (k + 1) i = kw 6 ++ ⟨#[32]⟩ ++ qt q k l ++ ⟨#[32]⟩ ++ qt q k m := by simp [qt, hn, h, hl, hr2]
  have cl := ih l (by omega) (by omega)
  have cm := ih m (by omega) (by omega)
  have zl := hqs l
  have zm := hqs m
  have cj := yF (kw 6) (qt q k l) (qt q k m) (by omega)
  have qH := aI @hlt (aI @h (aI @hl (aI @hr2 (aI @decide_true @decide_false)))); repeat' (with_reducible first | refine nY ?_ | (refine mX ?_; try simp only [go_sem, qH]) | refine kD ?_ | (apply rE [4,8,9,10,11] [11] [0,1,2,3,5,6,7] [0,1,2,3,5,6,7] ((.c 4 [] [0,5,6,7] (.c 8 [] [0] (.c 9 [] [0] (.c 10 [] [] (.c 11 [] [] .n .n) .n) .n) .n) .n)) (by simp only [go_sem]; rfl) (by simp only [go_sem]; rfl) (by simp only [go_sem]; rfl) (by decide +kernel); (focus simp only [go_sem]; done)) | exact bY | refine bJ (uX ?_) ?_ | refine bK (aX ?_) ?_ | refine bL (aX ?_) ?_ | exact bI | exact oH | exact uB | refine rD ?_ | refine cP (iR 6 (by omega)) ?_ | refine cP cl ?_ | refine cP cm ?_ | refine cP cj ?_ | refine aO ?_ | fail)
  exact aA ⟨⟨_, rfl, by simp only [go_sem, hm]⟩, trivial⟩
 ·have wz := dQ 7
  obtain ⟨l, hl, hli⟩ := eT hok (.inr (.inr h))
  obtain ⟨m, hr2, hmi⟩ := gP hok (.inr h)
  have hm : qt q (k + 1) i = kw 7 ++ ⟨#[32]⟩ ++ qt q k l ++ ⟨#[32]⟩ ++ qt q k m := by simp [qt, hn, h, hl, hr2]
  have cl := ih l (by omega) (by omega)
  have cm := ih m (by omega) (by omega)
  have zl := hqs l
  have zm := hqs m
  have cj := yF (kw 7) (qt q k l) (qt q k m) (by omega)
  have qH := aI @hlt (aI @h (aI @hl (aI @hr2 (aI @decide_true @decide_false)))); repeat' (with_reducible first | refine nY ?_ | (refine mX ?_; try simp only [go_sem, qH]) | refine kD ?_ | (apply rE [4,8,9,10,11] [11] [0,1,2,3,5,6,7] [0,1,2,3,5,6,7] ((.c 4 [] [0,5,6,7] (.c 8 [] [0] (.c 9 [] [0] (.c 10 [] [] (.c 11 [] [] .n .n) .n) .n) .n) .n)) (by simp only [go_sem]; rfl) (by simp only [go_sem]; rfl) (by simp only [go_sem]; rfl) (by decide +kernel); (focus simp only [go_sem]; done)) | exact bY | refine bJ (uX ?_) ?_ | refine bK (aX ?_) ?_ | refine bL (aX ?_) ?_ | exact bI | exact oH | exact uB | refine rD ?_ | refine cP (iR 7 (by omega)) ?_ | refine cP cl ?_ | refine cP cm ?_ | refine cP cj ?_ | refine aO ?_ | fail)
  exact aA ⟨⟨_, rfl, by simp only [go_sem, hm]⟩, trivial⟩
 ·have wz := dQ 8
  have nz := hsz.1 (by omega)
  have hm : qt q (k + 1) i = kw 8 ++ ⟨#[32]⟩ ++ q[i].fName := by simp [qt, hn, h]
  have cj := yE (kw 8) q[i].fName (by omega)
  have q0 := @hlt; have q1 := @h; have q2 := @decide_true; have q3 := @decide_false; refine xM (iR 8 (by omega)) cj ?_
  exact aA ⟨⟨_, rfl, by simp only [go_sem, hm]⟩, trivial⟩
 ·have wz := dQ 9
  have nz := hsz.1 (by omega)
  have hm : qt q (k + 1) i = kw 9 ++ ⟨#[32]⟩ ++ q[i].fName := by simp [qt, hn, h]
  have cj := yE (kw 9) q[i].fName (by omega)
  have q0 := @hlt; have q1 := @h; have q2 := @decide_true; have q3 := @decide_false; refine xM (iR 9 (by omega)) cj ?_
  exact aA ⟨⟨_, rfl, by simp only [go_sem, hm]⟩, trivial⟩
theorem a6L (q : List TNode) (hv : okQ q = true) (hw : ∀ n ∈ q, inR .i64 n.fValue.fInt) : ∀ k i, i < k → k ≤ q.length → FnC Tryz.prog 162 [.o (.d (.sl (q.map bE))), oi (i : Nat)] (os (qt q k i)) := by
 intro k
 induction k with
 | zero => intro i hi _; omega
 | succ k ih => ?_
 intro i hi hk
 have hlt : i < q.length := by omega
 have hn := List.getElem?_eq_getElem hlt
 have hok := oK hv hn
 have hop := nL hok
 have hsz := a0s hok
 have hlen := gD hv
 have hp : 2 ^ k ≤ 2 ^ 9 := Nat.pow_le_pow_right (by omega) (by omega)
 have hp' : (2 : Nat) ^ 9 = 512 := rfl
 have hqs := a1z hv hw k
 have hfi := hw q[i] (List.getElem_mem hlt)
 have hfv := nG q[i].fValue hfi
 have e1 : (⟨#[32]⟩ : ByteArray).size = 1 := rfl
 refine ent Tryz.func162 rfl Tryz.call162 rfl (fun C => ?_); simp only [go_sem, st0, Tryz.ntmps162]
 rcases hop with h | h | h | h | h | h | h | h | h
 ·have wz := dQ 1
  have hm : qt q (k + 1) i = kw 1 := by simp [qt, hn, h]
  have q0 := @hlt; have q1 := @h; have q2 := @decide_true; have q3 := @decide_false; refine tQ (iT 1 (by omega)) ?_
  exact aA ⟨⟨_, rfl, by simp only [go_sem, hm]⟩, trivial⟩
 ·have wz := dQ 2
  have nz := hsz.1 (by omega)
  have hm : qt q (k + 1) i = kw 2 ++ ⟨#[32]⟩ ++ q[i].fName := by simp [qt, hn, h]
  have m1 : (kw 2).size + (⟨#[32]⟩ : ByteArray).size ≤ maxLen := by unfold maxLen; (try simp only [ByteArray.size_append]); omega
  have m2 : (kw 2 ++ ⟨#[32]⟩).size + q[i].fName.size ≤ maxLen := by unfold maxLen; (try simp only [ByteArray.size_append]); omega
  have q0 := @hlt; have q1 := @h; have q2 := @decide_true; have q3 := @decide_false; have q4 := @m1; have q5 := @m2; refine tV (iT 2 (by omega)) ?_
  exact aA ⟨⟨_, rfl, by simp only [go_sem, hm]⟩, trivial⟩
 ·have wz := dQ 3
  have nz := hsz.1 (by omega)
  have vz := hsz.2 (by omega)
  have hm : qt q (k + 1) i = kw 3 ++ ⟨#[32]⟩ ++ q[i].fName ++ ⟨#[32]⟩ ++ fH q[i].fValue := by simp [qt, hn, h]
  have cv := gH q[i].fValue (by omega) hfi
  have m1 : (kw 3).size + (⟨#[32]⟩ : ByteArray).size ≤ maxLen := by unfold maxLen; (try simp only [ByteArray.size_append]); omega
  have m2 : (kw 3 ++ ⟨#[32]⟩).size + q[i].fName.size ≤ maxLen := by unfold maxLen; (try simp only [ByteArray.size_append]); omega
  have m3 : (kw 3 ++ ⟨#[32]⟩ ++ q[i].fName).size + (⟨#[32]⟩ : ByteArray).size ≤ maxLen := by unfold maxLen; (try simp only [ByteArray.size_append]); omega
  have m4 : (kw 3 ++ ⟨#[32]⟩ ++ q[i].fName ++ ⟨#[32]⟩).size + (fH q[i].fValue).size ≤ maxLen := by unfold maxLen; (try simp only [ByteArray.size_append]); omega
  have qH := aI @hlt (aI @h (aI @decide_true (aI @decide_false (aI @m1 (aI @m2 (aI @m3 @m4)))))); repeat' (with_reducible first | refine nY ?_ | (refine mX ?_; try simp only [go_sem, qH]) | refine kD ?_ | (apply rE [8] [] [0,1,2,3,4,5,6,7] [0,1,2,3,4,5,6,7] ((.c 8 [9,10] [0,1,2,3,4,5,9,10] .n .n)) (by simp only [go_sem]; rfl) (by simp only [go_sem]; rfl) (by simp only [go_sem]; rfl) (by decide +kernel); (focus simp only [go_sem]; done)) | exact bY | refine bJ (uX ?_) ?_ | refine bK (aX ?_) ?_ | refine bL (aX ?_) ?_ | exact bI | exact oH | exact uB | refine rD ?_ | refine cP (iT 3 (by omega)) ?_ | refine cP cv ?_ | refine aO ?_ | fail)
  exact aA ⟨⟨_, rfl, by simp only [go_sem, hm]⟩, trivial⟩
 ·have wz := dQ 4
  have nz := hsz.1 (by omega)
  have vz := hsz.2 (by omega)
  have hm : qt q (k + 1) i = kw 4 ++ ⟨#[32]⟩ ++ q[i].fName ++ ⟨#[32]⟩ ++ fH q[i].fValue := by simp [qt, hn, h]
  have cv := gH q[i].fValue (by omega) hfi
  have m1 : (kw 4).size + (⟨#[32]⟩ : ByteArray).size ≤ maxLen := by unfold maxLen; (try simp only [ByteArray.size_append]); omega
  have m2 : (kw 4 ++ ⟨#[32]⟩).size + q[i].fName.size ≤ maxLen := by unfold maxLen; (try simp only [ByteArray.size_append]); omega
  have m3 : (kw 4 ++ ⟨#[32]⟩ ++ q[i].fName).size + (⟨#[32]⟩ : ByteArray).size ≤ maxLen := by unfold maxLen; (try simp only [ByteArray.size_append]); omega
  have m4 : (kw 4 ++ ⟨#[32]⟩ ++ q[i].fName ++ ⟨#[32]⟩).size + (fH q[i].fValue).size ≤ maxLen := by unfold maxLen; (try simp only [ByteArray.size_append]); omega
  have qH := aI @hlt (aI @h (aI @decide_true (aI @decide_false (aI @m1 (aI @m2 (aI @m3 @m4)))))); repeat' (with_reducible first | refine nY ?_ | (refine mX ?_; try simp only [go_sem, qH]) | refine kD ?_ | (apply rE [8] [] [0,1,2,3,4,5,6,7] [0,1,2,3,4,5,6,7] ((.c 8 [9,10] [0,1,2,3,4,5,9,10] .n .n)) (by simp only [go_sem]; rfl) (by simp only [go_sem]; rfl) (by simp only [go_sem]; rfl) (by decide +kernel); (focus simp only [go_sem]; done)) | exact bY | refine bJ (uX ?_) ?_ | refine bK (aX ?_) ?_ | refine bL (aX ?_) ?_ | exact bI | exact oH | exact uB | refine rD ?_ | refine cP (iT 4 (by omega)) ?_ | refine cP cv ?_ | refine aO ?_ | fail)
  exact aA ⟨⟨_, rfl, by simp only [go_sem, hm]⟩, trivial⟩
 ·have wz := dQ 5
  obtain ⟨l, hl, hli⟩ := eT hok (.inl h)
  have hm : qt q (k + 1) i = kw 5 ++ ⟨#[32]⟩ ++ qt q k l := by simp [qt, hn, h, hl]
  have cl := ih l (by omega) (by omega)
  have zl := hqs l
  generalize qt q k l = tl at *
  have m1 : (kw 5).size + (⟨#[32]⟩ : ByteArray).size ≤ maxLen := by unfold maxLen; (try simp only [ByteArray.size_append]); omega
  have m2 : (kw 5 ++ ⟨#[32]⟩).size + tl.size ≤ maxLen := by unfold maxLen; (try simp only [ByteArray.size_append]); omega
  have q0 := @hlt; have q1 := @h; have q2 := @hl; have q3 := @decide_true; have q4 := @decide_false; have q5 := @m1; have q6 := @m2; refine b4W (iT 5 (by omega)) cl ?_
  exact aA ⟨⟨_, rfl, by simp only [go_sem, hm]⟩, trivial⟩
 ·have wz := dQ 6
  obtain ⟨l, hl, hli⟩ := eT hok (.inr (.inl h))
  obtain ⟨m, hr2, hmi⟩ := gP hok (.inl h)
  have hm : qt q (k + 1) i = kw 6 ++ ⟨#[32]⟩ ++ qt q k l ++ ⟨#[32]⟩ ++ qt q k m := by simp [qt, hn, h, hl, hr2]
  have cl := ih l (by omega) (by omega)
  have cm := ih m (by omega) (by omega)
  have zl := hqs l
  have zm := hqs m
  have m1 : (kw 6).size + (⟨#[32]⟩ : ByteArray).size ≤ maxLen := by unfold maxLen; (try simp only [ByteArray.size_append]); omega
  have m2 : (kw 6 ++ ⟨#[32]⟩).size + (qt q k l).size ≤ maxLen := by unfold maxLen; (try simp only [ByteArray.size_append]); omega
  have m3 : (kw 6 ++ ⟨#[32]⟩ ++ qt q k l).size + (⟨#[32]⟩ : ByteArray).size ≤ maxLen := by unfold maxLen; (try simp only [ByteArray.size_append]); omega
  have m4 : (kw 6 ++ ⟨#[32]⟩ ++ qt q k l ++ ⟨#[32]⟩).size + (qt q k m).size ≤ maxLen := by unfold maxLen; (try simp only [ByteArray.size_append]); omega
  have qH := aI @hlt (aI @h (aI @hl (aI @hr2 (aI @decide_true (aI @decide_false (aI @m1 (aI @m2 (aI @m3 @m4)))))))); repeat' (with_reducible first | refine nY ?_ | (refine mX ?_; try simp only [go_sem, qH]) | refine kD ?_ | (apply rE [5,11] [] [0,1,2,3,4,8,9,10] [0,1,2,3,4,8,9,10] ((.c 5 [6,7] [0,1,6,7,8,9,10] (.c 11 [12,13] [0,1,6,7,12,13] .n .n) .n)) (by simp only [go_sem]; rfl) (by simp only [go_sem]; rfl) (by simp only [go_sem]; rfl) (by decide +kernel); (focus simp only [go_sem]; done)) | exact bY | refine bJ (uX ?_) ?_ | refine bK (aX ?_) ?_ | refine bL (aX ?_) ?_ | exact bI | exact oH | exact uB | refine rD ?_ | refine cP (iT 6 (by omega)) ?_ | refine cP cl ?_ | refine cP cm ?_ | refine aO ?_ | fail)
  exact aA ⟨⟨_, rfl, by simp only [go_sem, hm]⟩, trivial⟩
 ·have wz := dQ 7
  obtain ⟨l, hl, hli⟩ := eT hok (.inr (.inr h))
  obtain ⟨m, hr2, hmi⟩ := gP hok (.inr h)
  have hm : qt q (k + 1) i = kw 7 ++ ⟨#[32]⟩ ++ qt q k l ++ ⟨#[32]⟩ ++ qt q k m := by simp [qt, hn, h, hl, hr2]
  have cl := ih l (by omega) (by omega)
  have cm := ih m (by omega) (by omega)
  have zl := hqs l
  have zm := hqs m
  have m1 : (kw 7).size + (⟨#[32]⟩ : ByteArray).size ≤ maxLen := by unfold maxLen; (try simp only [ByteArray.size_append]); omega
  have m2 : (kw 7 ++ ⟨#[32]⟩).size + (qt q k l).size ≤ maxLen := by unfold maxLen; (try simp only [ByteArray.size_append]); omega
  have m3 : (kw 7 ++ ⟨#[32]⟩ ++ qt q k l).size + (⟨#[32]⟩ : ByteArray).size ≤ maxLen := by unfold maxLen; (try simp only [ByteArray.size_append]); omega
  have m4 : (kw 7 ++ ⟨#[32]⟩ ++ qt q k l ++ ⟨#[32]⟩).size + (qt q k m).size ≤ maxLen := by unfold maxLen; (try simp only [ByteArray.size_append]); omega
  have qH := aI @hlt (aI @h (aI @hl (aI @hr2 (aI @decide_true (aI @decide_false (aI @m1 (aI @m2 (aI @m3 @m4)))))))); repeat' (with_reducible first | refine nY ?_ | (refine mX ?_; try simp only [go_sem, qH]) | refine kD ?_ | (apply rE [5,11] [] [0,1,2,3,4,8,9,10] [0,1,2,3,4,8,9,10] ((.c 5 [6,7] [0,1,6,7,8,9,10] (.c 11 [12,13] [0,1,6,7,12,13] .n .n) .n)) (by simp only [go_sem]; rfl) (by simp only [go_sem]; rfl) (by simp only [go_sem]; rfl) (by decide +kernel); (focus simp only [go_sem]; done)) | exact bY | refine bJ (uX ?_) ?_ | refine bK (aX ?_) ?_ | refine bL (aX ?_) ?_ | exact bI | exact oH | exact uB | refine rD ?_ | refine cP (iT 7 (by omega)) ?_ | refine cP cl ?_ | refine cP cm ?_ | refine aO ?_ | fail)
  exact aA ⟨⟨_, rfl, by simp only [go_sem, hm]⟩, trivial⟩
 ·have wz := dQ 8
  have nz := hsz.1 (by omega)
  have hm : qt q (k + 1) i = kw 8 ++ ⟨#[32]⟩ ++ q[i].fName := by simp [qt, hn, h]
  have m1 : (kw 8).size + (⟨#[32]⟩ : ByteArray).size ≤ maxLen := by unfold maxLen; (try simp only [ByteArray.size_append]); omega
  have m2 : (kw 8 ++ ⟨#[32]⟩).size + q[i].fName.size ≤ maxLen := by unfold maxLen; (try simp only [ByteArray.size_append]); omega
  have q0 := @hlt; have q1 := @h; have q2 := @decide_true; have q3 := @decide_false; have q4 := @m1; have q5 := @m2; refine tV (iT 8 (by omega)) ?_
  exact aA ⟨⟨_, rfl, by simp only [go_sem, hm]⟩, trivial⟩
 ·have wz := dQ 9
  have nz := hsz.1 (by omega)
  have hm : qt q (k + 1) i = kw 9 ++ ⟨#[32]⟩ ++ q[i].fName := by simp [qt, hn, h]
  have m1 : (kw 9).size + (⟨#[32]⟩ : ByteArray).size ≤ maxLen := by unfold maxLen; (try simp only [ByteArray.size_append]); omega
  have m2 : (kw 9 ++ ⟨#[32]⟩).size + q[i].fName.size ≤ maxLen := by unfold maxLen; (try simp only [ByteArray.size_append]); omega
  have q0 := @hlt; have q1 := @h; have q2 := @decide_true; have q3 := @decide_false; have q4 := @m1; have q5 := @m2; refine tV (iT 9 (by omega)) ?_
  exact aA ⟨⟨_, rfl, by simp only [go_sem, hm]⟩, trivial⟩
def qtx (q : List TNode) : ByteArray := if okQ q then qt q q.length (q.length - 1) else ⟨#[]⟩
theorem a2f (q : List TNode) (hw : ∀ n ∈ q, inR .i64 n.fValue.fInt) : (qtx q).size ≤ 32768 := by
 unfold qtx
 split
 ·rename_i h
  have h2 := a1z h hw q.length (q.length - 1)
  have h3 : 2 ^ q.length ≤ 2 ^ 9 := Nat.pow_le_pow_right (by omega) (gD h).2
  have h4 : (2 : Nat) ^ 9 = 512 := rfl
  omega
 ·decide
theorem wY (q : List TNode) (hq : wNodeS q ≤ 1048576) (hw : ∀ n ∈ q, inR .i64 n.fValue.fInt) : FnC Tryz.prog 51 [.o (.d (.sl (q.map bE)))] (os (qtx q)) := by
 refine ent Tryz.func51 rfl Tryz.call51 rfl (fun C => ?_); simp only [go_sem, st0, Tryz.ntmps51]
 cases hv : okQ q
 ·have q0 := @hv; refine iX (bO q (by omega)) ?_
  exact aA ⟨⟨_, rfl, by simp only [go_sem, qtx, hv, if_false, Bool.false_eq_true]⟩, trivial⟩
 ·have hl := gD hv
  have hx : (q.length : Int) - 1 = ((q.length - 1 : Nat) : Int) := by omega
  have q0 := @hv; have q1 := @hx; refine uS (bO q (by omega)) (a6K q hv hw q.length (q.length - 1) (by omega) (by omega)) ?_
  exact aA ⟨⟨_, rfl, by simp only [go_sem, qtx, hv, if_true]⟩, trivial⟩
theorem nT (q : List TNode) (hq : wNodeS q ≤ 1048576) (hw : ∀ n ∈ q, inR .i64 n.fValue.fInt) : FnC Tryz.prog 108 [.o (.d (.sl (q.map bE)))] (os (qtx q)) := by
 refine ent Tryz.func108 rfl Tryz.call108 rfl (fun C => ?_); simp only [go_sem, st0, Tryz.ntmps108]
 cases hv : okQ q
 ·have q0 := @hv; refine iX (cZ q (by omega)) ?_
  exact aA ⟨⟨_, rfl, by simp only [go_sem, qtx, hv, if_false, Bool.false_eq_true]⟩, trivial⟩
 ·have hl := gD hv
  have hx : (q.length : Int) - 1 = ((q.length - 1 : Nat) : Int) := by omega
  have q0 := @hv; have q1 := @hx; refine uS (cZ q (by omega)) (a6L q hv hw q.length (q.length - 1) (by omega) (by omega)) ?_
  exact aA ⟨⟨_, rfl, by simp only [go_sem, qtx, hv, if_true]⟩, trivial⟩
end Go.Proofs.YtgpoopjfkplilaaGreatDoor
end
