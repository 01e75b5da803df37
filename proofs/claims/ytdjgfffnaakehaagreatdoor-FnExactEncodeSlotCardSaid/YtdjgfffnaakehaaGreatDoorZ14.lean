/- Joined texts. -/
import Derived.Test.YtdjgfffnaakehaaGreatDoorZ13
import Derived.Test.YtdjgfffnaakehaaGreatDoorZ08
import Derived.Test.YtdjgfffnaakehaaGreatDoorZ07
import Derived.Test.YtdjgfffnaakehaaGreatDoorZ11
set_option linter.all false
section
set_option maxRecDepth 100000
set_option maxHeartbeats 4000000
namespace Go.Proofs.YtdjgfffnaakehaaGreatDoor
def placeD (d : List TDir) (nm : ByteArray) : Int := sH (fun x => decide (x.fName = nm)) d 0
theorem placeD_cases (d : List TDir) (nm : ByteArray) : placeD d nm = -1 ∨ ∃ k : Nat, placeD d nm = (k : Int) ∧ k < d.length := by
 unfold placeD
 rcases idxP_fst (fun x => decide (x.fName = nm)) d 0 with ⟨_, h, _⟩ | ⟨h, hl⟩
 ·exact .inl h
 ·exact .inr ⟨_, by rw [h]; simp, hl⟩
def bY (d : List TDir) (i w : Nat) (names : List ByteArray) : List (Nat × Nat × Nat) := names.flatMap fun nm => if 0 ≤ placeD d nm then [(i, (placeD d nm).toNat, w)] else []
theorem sJ (d : List TDir) (i w : Nat) (names : List ByteArray) (x : Nat × Nat × Nat) : x ∈ bY d i w names ↔ ∃ nm ∈ names, ∃ k : Nat, placeD d nm = (k : Int) ∧ x = (i, k, w) := by
 unfold bY
 simp only [List.mem_flatMap]
 constructor
 ·rintro ⟨nm, h1, h2⟩
  split at h2
  ·rename_i hp
   refine ⟨nm, h1, (placeD d nm).toNat, by omega, by simpa using h2⟩
  ·simp at h2
 ·rintro ⟨nm, h1, k, h2, rfl⟩
  refine ⟨nm, h1, ?_⟩
  rw [if_pos (by omega), h2]; simp
def lV (d : List TDir) (i : Nat) : List (Nat × Nat × Nat) := match d[i]? with
 | none => []
 | some x => bY d i 0 (putL (bP x.fQuery false)) ++ bY d i 1 (putL (bP x.fQuery true))
def eP (d : List TDir) : List (Nat × Nat × Nat) := (List.range d.length).flatMap (lV d)
def EE (d : List TDir) (i k w : Nat) : Prop := (i, k, w) ∈ eP d
theorem a1M (d : List TDir) (i k w : Nat) : EE d i k w ↔ ∃ x, d[i]? = some x ∧ ((w = 0 ∧ ∃ nm ∈ bP x.fQuery false, placeD d nm = (k : Int)) ∨ (w = 1 ∧ ∃ nm ∈ bP x.fQuery true, placeD d nm = (k : Int))) := by
 unfold EE eP
 simp only [List.mem_flatMap, List.mem_range]
 constructor
 ·rintro ⟨j, hj, h⟩
  unfold lV at h
  rw [List.getElem?_eq_getElem hj] at h
  simp only [List.mem_append, sJ, a3i] at h
  rcases h with ⟨nm, h1, k', h2, h3⟩ | ⟨nm, h1, k', h2, h3⟩
  ·cases h3; exact ⟨_, List.getElem?_eq_getElem hj, .inl ⟨rfl, nm, h1, h2⟩⟩
  ·cases h3; exact ⟨_, List.getElem?_eq_getElem hj, .inr ⟨rfl, nm, h1, h2⟩⟩
 ·rintro ⟨x, hx, h⟩
  refine ⟨i, (List.getElem?_eq_some_iff.1 hx).1, ?_⟩
  unfold lV
  rw [hx]
  simp only [List.mem_append, sJ, a3i]
  rcases h with ⟨rfl, nm, h1, h2⟩ | ⟨rfl, nm, h1, h2⟩
  ·exact .inl ⟨nm, h1, k, h2, rfl⟩
  ·exact .inr ⟨nm, h1, k, h2, rfl⟩
theorem zS (d : List TDir) : Edges d.length (EE d) := ⟨fun i k w h => by
 obtain ⟨x, hx, h⟩ := (a1M d i k w).1 h
 refine ⟨(List.getElem?_eq_some_iff.1 hx).1, ?_, by rcases h with ⟨rfl, _⟩ | ⟨rfl, _⟩ <;> omega⟩
 obtain ⟨nm, hp⟩ : ∃ nm, placeD d nm = (k : Int) := by rcases h with ⟨_, nm, _, h⟩ | ⟨_, nm, _, h⟩ <;> exact ⟨nm, h⟩
 rcases placeD_cases d nm with h | ⟨k', h, hl⟩ <;> omega⟩
def abv (d : List TDir) (L : List Nat) (w : Nat) : List ByteArray → Nat → Nat
 | [], m => m
 | nm :: r, m => abv d L w r (if 0 ≤ placeD d nm then (if lv L (placeD d nm).toNat + w > m then lv L (placeD d nm).toNat + w else m) else m)
theorem a7u (d : List TDir) (L : List Nat) (w : Nat) (l : List ByteArray) (k m : Nat) (h : k < l.length) : abv d L w (l.drop k) m = abv d L w (l.drop (k + 1)) (if 0 ≤ placeD d l[k] then (if lv L (placeD d l[k]).toNat + w > m then lv L (placeD d l[k]).toNat + w else m) else m) := by
 rw [List.drop_eq_getElem_cons h, abv]
theorem a4k (d : List TDir) (L : List Nat) (w c : Nat) : ∀ (l : List ByteArray) (m : Nat), abv d L w l m ≤ c ↔ m ≤ c ∧ ∀ nm ∈ l, ∀ k : Nat, placeD d nm = (k : Int) → lv L k + w ≤ c
 | [], m => by simp [abv]
 | nm :: r, m => by
  rw [abv, a4k d L w c r]
  constructor
  ·rintro ⟨h1, h2⟩
   refine ⟨?_, fun n hn k hk => ?_⟩
   ·split at h1
    ·split at h1 <;> omega
    ·exact h1
   ·rcases List.mem_cons.1 hn with rfl | hn
    ·have e : (placeD d n).toNat = k := by omega
     rw [if_pos (by omega), e] at h1
     split at h1 <;> omega
    ·exact h2 n hn k hk
  ·rintro ⟨h1, h2⟩
   refine ⟨?_, fun n hn k hk => h2 n (List.mem_cons_of_mem _ hn) k hk⟩
   split
   ·rename_i hp
    have := h2 nm (by simp) (placeD d nm).toNat (by omega)
    split <;> omega
   ·exact h1
def eO (d : List TDir) (L : List Nat) (x : TDir) : Nat := if abv d L 1 (fE (bP x.fQuery true)) 0 > abv d L 0 (fE (bP x.fQuery false)) 0 then abv d L 1 (fE (bP x.fQuery true)) 0 else abv d L 0 (fE (bP x.fQuery false)) 0
theorem zT (d : List TDir) (L : List Nat) (i c : Nat) (h : i < d.length) : eO d L d[i] ≤ c ↔ ∀ k w, EE d i k w → lv L k + w ≤ c := by
 have h0 := a4k d L 0 c (fE (bP d[i].fQuery false)) 0
 have h1 := a4k d L 1 c (fE (bP d[i].fQuery true)) 0
 have hm : eO d L d[i] ≤ c ↔ abv d L 0 (fE (bP d[i].fQuery false)) 0 ≤ c ∧ abv d L 1 (fE (bP d[i].fQuery true)) 0 ≤ c := by
  unfold eO; split <;> omega
 rw [hm, h0, h1]
 constructor
 ·rintro ⟨⟨_, a⟩, ⟨_, b⟩⟩ k w he
  obtain ⟨x, hx, he⟩ := (a1M d i k w).1 he
  rw [List.getElem?_eq_getElem h] at hx
  cases hx
  rcases he with ⟨rfl, nm, q1, q2⟩ | ⟨rfl, nm, q1, q2⟩
  ·exact a nm ((qJ _ _).2 q1) k q2
  ·exact b nm ((qJ _ _).2 q1) k q2
 ·intro a
  exact ⟨⟨by omega, fun nm q k hk => a k 0 ((a1M d i k 0).2 ⟨d[i], List.getElem?_eq_getElem h, .inl ⟨rfl, nm, (qJ _ _).1 q, hk⟩⟩)⟩,
   ⟨by omega, fun nm q k hk => a k 1 ((a1M d i k 1).2 ⟨d[i], List.getElem?_eq_getElem h, .inr ⟨rfl, nm, (qJ _ _).1 q, hk⟩⟩)⟩⟩
structure Low (d : List TDir) (L : List Nat) : Prop where
 len : L.length = d.length
 clo : ∀ F, Clo d.length (EE d) F → ∀ j, lv L j ≤ lv F j
 small : ∀ j, lv L j ≤ d.length
theorem Low.start (d : List TDir) : Low d (List.replicate d.length 0) := ⟨by simp, fun F _ j => by rw [a1U]; omega, fun j => by rw [a1U]; omega⟩
theorem Low.least_le {d : List TDir} {L : List Nat} (h : Low d L) {i : Nat} (hi : i < d.length) {F : List Nat} (hF : Clo d.length (EE d) F) : eO d L d[i] ≤ lv F i :=
 (zT d L i _ hi).2 fun k w he => by
  have h1 := hF.le i k w he
  have h2 := h.clo F hF k
  omega
theorem Low.over {d : List TDir} {L : List Nat} (h : Low d L) {i : Nat} (hi : i < d.length) (ho : eO d L d[i] > d.length) : ¬ ∃ F, Clo d.length (EE d) F := by
 rintro ⟨F, hF⟩
 obtain ⟨G, hG, hs⟩ := a1d (zS d) hF
 have h1 := h.least_le hi hG
 have h2 := hs i hi
 omega
theorem Low.set {d : List TDir} {L : List Nat} (h : Low d L) {i : Nat} (hi : i < d.length) (ho : ¬ eO d L d[i] > d.length) : Low d (L.set i (eO d L d[i])) := by
 have hl : i < L.length := by rw [h.len]; exact hi
 refine ⟨by simp [h.len], fun F hF j => ?_, fun j => ?_⟩
 ·rw [zZ L i _ j hl]
  split
  ·rename_i e; subst e; exact h.least_le hi hF
  ·exact h.clo F hF j
 ·rw [zZ L i _ j hl]
  split
  ·omega
  ·exact h.small j
theorem Low.done {d : List TDir} {L : List Nat} (h : Low d L) (hc : ∀ i, (hi : i < d.length) → eO d L d[i] ≤ lv L i) : Least d.length (EE d) L :=
 ⟨⟨h.len, fun i k w he => (zT d L i _ ((zS d).ok i k w he).1).1 (hc i _) k w he⟩, h.clo⟩
theorem Low.sum {d : List TDir} {L : List Nat} (h : Low d L) : nW L ≤ d.length * d.length := by
 have := a5f L d.length fun i _ => h.small i
 rwa [h.len] at this
end Go.Proofs.YtdjgfffnaakehaaGreatDoor
end
section
set_option maxRecDepth 100000
set_option maxHeartbeats 4000000
namespace Go.Proofs.YtdjgfffnaakehaaGreatDoor
open Go Go.Sx Go.RowKit Go.Proofs
theorem wV (f : Nat) (c : List D) (p : TDir → Bool) (l : List TDir) (hf : ∀ s ∈ l, FnC Tryz.prog f [a5S s, .o (.q c)] (ob (p s))) (hl : l.length ≤ 8388608) : FnC Tryz.prog 136 [.o (.d (.sl (l.map bW))), .o (.f f [c])] (oi (sH p l 0)) := by
 refine ent Tryz.func136 rfl Tryz.call136 rfl (fun C => ?_); simp only [go_sem, st0, Tryz.ntmps136]
 refine aK ?_
 refine bC (α := Nat) (fun k => [(8, oi k)]) (fun _ => []) (fun k => k ≤ l.length ∧ sH p l 0 = sH p (l.drop k) k) (fun k => l.length - k) 0 (fun _ => ?_) ?_ ?_ (fun k hk => ?_)
 ·simp only [go_sem]
 ·simp only [go_sem]; simp
 ·simp
 ·obtain ⟨hk, hq⟩ := hk
  simp only [go_sem]
  refine aK ?_
  refine cnd rfl (fun h => ?_) (fun h => ?_)
  ·simp only [decide_eq_true_eq, Int.ofNat_lt] at h
   have hd := List.drop_eq_getElem_cons h
   rw [hd, sH] at hq
   have q0 := @h; refine gG (hf l[k] (List.getElem_mem h)) ?_
   refine cnd rfl (fun h2 => ?_) (fun h2 => ?_)
   ·refine aK ?_
    exact aA ⟨⟨_, rfl, by simp only [go_sem, hq, h2]⟩, trivial⟩
   ·refine aK ?_
    refine aG (k + 1) ?_ ?_ ?_
    ·simp only [go_sem]; simp
    ·rw [hq, h2]; exact ⟨h, by simp⟩
    ·omega
  ·simp only [decide_eq_false_iff_not] at h
   have e : k = l.length := by omega
   subst e
   simp only [List.drop_length, sH] at hq
   refine aK ?_
   exact aA ⟨⟨_, rfl, by simp only [go_sem, hq]⟩, trivial⟩
@[go_sem] def nU (n : Nat) : List D := [iv (n : Int)]
theorem a6a (nm : ByteArray) (x : TDir) : FnC Tryz.prog 137 [a5S x, .o (.q [sv nm])] (ob (decide (x.fName = nm))) := by
 refine ent Tryz.func137 rfl Tryz.call137 rfl (fun C => ?_); simp only [go_sem, st0, Tryz.ntmps137]
 refine aK ?_
 exact aA ⟨⟨_, rfl, by simp only [go_sem]⟩, trivial⟩
theorem a2Y (d : List TDir) (nm : ByteArray) (hl : d.length ≤ 4300000) : FnC Tryz.prog 125 [.o (.d (.sl (d.map bW))), os nm] (oi (placeD d nm)) := by
 refine ent Tryz.func125 rfl Tryz.call125 rfl (fun C => ?_); simp only [go_sem, st0, Tryz.ntmps125]
 refine jA (wV _ _ (fun x => decide (x.fName = nm)) d (fun y _ => a6a nm y) (by omega)) ?_
 exact aA ⟨⟨_, rfl, by simp only [go_sem, placeD]⟩, trivial⟩
theorem iP (d : List TDir) (nm : ByteArray) (hl : d.length ≤ 4300000) : FnC Tryz.prog 120 [.o (.d (.sl (d.map bW))), os nm] (oi (placeD d nm)) := by
 refine ent Tryz.func120 rfl Tryz.call120 rfl (fun C => ?_); simp only [go_sem, st0, Tryz.ntmps120]
 refine aK ?_
 refine bC (α := Nat) (fun k => [(5, oi k)]) (fun _ => []) (fun k => k ≤ d.length ∧ placeD d nm = sH (fun x => decide (x.fName = nm)) (d.drop k) k) (fun k => d.length - k) 0 (fun _ => ?_) ?_ ?_ (fun k hk => ?_)
 ·simp only [go_sem]
 ·simp only [go_sem]; simp
 ·simp [placeD]
 ·obtain ⟨hk, hq⟩ := hk
  simp only [go_sem]
  refine aK ?_
  refine cnd rfl (fun h => ?_) (fun h => ?_)
  ·simp only [decide_eq_true_eq, Int.ofNat_lt] at h
   have hd := List.drop_eq_getElem_cons h
   rw [hd, sH] at hq
   by_cases h2 : d[k].fName = nm
   ·rw [if_pos (by simp [h2])] at hq
    have q0 := @h; have q1 := @h2; have q2 := @decide_true; refine kZ ?_
    exact aA ⟨⟨_, rfl, by simp only [go_sem, hq]⟩, trivial⟩
   ·rw [if_neg (by simp [h2])] at hq
    have q0 := @h; have q1 := @h2; have q2 := @decide_false; refine kZ ?_
    refine aG (k + 1) ?_ ?_ ?_
    ·simp only [go_sem]; simp
    ·rw [hq]; exact ⟨h, by simp⟩
    ·omega
  ·simp only [decide_eq_false_iff_not] at h
   have e : k = d.length := by omega
   subst e
   simp only [List.drop_length, sH] at hq
   refine aK ?_
   exact aA ⟨⟨_, rfl, by simp only [go_sem, hq]⟩, trivial⟩
theorem vP (L : List Nat) (i : Nat) (h : i < L.length) : L[i] = lv L i := by simp [lv, List.getD_eq_getElem?_getD, h]
def mxN (a b : Nat) : Nat := if b > a then b else a
theorem a4X (a b : Nat) : mxI (a : Int) (b : Int) = ((mxN a b : Nat) : Int) := by
 unfold mxI mxN
 split <;> split <;> omega
theorem a2Z (d : List TDir) (L : List Nat) (w : Nat) (names : List ByteArray) (hd : d.length ≤ 4300000) (hL : L.length = d.length) (hn : names.length ≤ 4300000) (hB : ∀ j, lv L j ≤ 1000000) (hw : w ≤ 1) : FnC Tryz.prog 106 [.o (.d (.sl (d.map bW))), .o (.d (.sl (L.map nU))), .o (.d (.sl (names.map dA))), oi (w : Nat)] (oi (abv d L w names 0 : Nat)) := by
 refine ent Tryz.func106 rfl Tryz.call106 rfl (fun C => ?_); simp only [go_sem, st0, Tryz.ntmps106]
 refine aK ?_
 refine bC (α := Nat × Nat) (fun x => [(9, oi (x.2 : Nat)), (15, oi x.1)]) (fun _ => []) (fun x => x.1 ≤ names.length ∧ abv d L w names 0 = abv d L w (names.drop x.1) x.2 ∧ x.2 ≤ 1000001) (fun x => names.length - x.1) (0, 0) (fun _ => ?_) ?_ ?_ (fun x hx => ?_)
 ·simp only [go_sem]
 ·simp only [go_sem]; simp
 ·simp
 ·obtain ⟨k, m⟩ := x
  obtain ⟨hk, hq, hm⟩ := hx
  simp only at hk hq hm
  simp only [go_sem]
  refine aK ?_
  refine cnd rfl (fun h => ?_) (fun h => ?_)
  ·simp only [decide_eq_true_eq, Int.ofNat_lt] at h
   rw [a7u d L w names k m h] at hq
   rcases placeD_cases d names[k] with hp | ⟨p, hp, hpl⟩
   ·rw [if_neg (by omega)] at hq
    have q0 := @h; have q1 := @hp; have q2 := @decide_true; have q3 := @decide_false; refine tX (a2Y d names[k] hd) ?_
    refine aG (k + 1, m) ?_ ?_ ?_
    ·simp only [go_sem]; simp
    ·exact ⟨by simp only; omega, hq, hm⟩
    ·simp only; omega
   ·have hpL : p < L.length := by omega
    have hb := hB p
    have hg := vP L p hpL
    have hge : (0 : Int) ≤ (p : Int) := by omega
    have hs : ((lv L p : Nat) : Int) + (w : Int) = ((lv L p + w : Nat) : Int) := by omega
    have hmx := a4X m (lv L p + w)
    rw [if_pos (by omega), hp, Int.toNat_natCast] at hq
    have q0 := @h; have q1 := @hp; have q2 := @hge; have q3 := @hpL; have q4 := @hg; have q5 := @hs; have q6 := @hmx; have q7 := @decide_true; have q8 := @decide_false; have q9 := @Int.toNat_natCast; refine a4K (a2Y d names[k] hd) ?_
    refine aG (k + 1, mxN m (lv L p + w)) ?_ ?_ ?_
    ·simp only [go_sem]; simp
    ·exact ⟨by simp only; omega, hq, by simp only [mxN]; split <;> omega⟩
    ·simp only; omega
  ·simp only [decide_eq_false_iff_not] at h
   have e : k = names.length := by omega
   subst e
   rw [List.drop_length, abv] at hq
   refine aK ?_
   exact aA ⟨⟨_, rfl, by simp only [go_sem, hq]⟩, trivial⟩
theorem vK {d : List TDir} (h : dB d = true) (i : Nat) (hi : i < d.length) : okQ d[i].fQuery = true := by
 unfold dB at h
 simp only [Bool.and_eq_true, List.all_eq_true, List.mem_range] at h
 have := h.1 i hi
 unfold iD at this
 rw [List.getElem?_eq_getElem hi] at this
 simp only [Bool.and_eq_true] at this
 exact this.2.2
theorem sI {d : List TDir} (h : dB d = true) : d.length ≤ 5 := by
 unfold dB at h
 simp only [Bool.and_eq_true, decide_eq_true_eq] at h
 omega
theorem a2W (q : List TNode) (hq : okQ q = true) (hw : bN q ≤ 4300000) : FnC Tryz.prog 107 [.o (.d (.sl (q.map aV)))] (.o (.d (.sl ((fE (bP q false)).map dA)))) := (a4l q hq hw).pu (by simp only [go_sem, and_self])
theorem a2X (q : List TNode) (hq : okQ q = true) (hw : bN q ≤ 4300000) : FnC Tryz.prog 108 [.o (.d (.sl (q.map aV)))] (.o (.d (.sl ((fE (bP q true)).map dA)))) := (a3b q hq hw).pu (by simp only [go_sem, and_self])
theorem a0V (d : List TDir) (L : List Nat) (names : List ByteArray) (hd : d.length ≤ 4300000) (hL : L.length = d.length) (hn : names.length ≤ 4300000) (hB : ∀ j, lv L j ≤ 1000000) : FnC Tryz.prog 106 [.o (.d (.sl (d.map bW))), .o (.d (.sl (L.map nU))), .o (.d (.sl (names.map dA))), oi 0] (oi (abv d L 0 names 0 : Nat)) := a2Z d L 0 names hd hL hn hB (by omega)
theorem a0W (d : List TDir) (L : List Nat) (names : List ByteArray) (hd : d.length ≤ 4300000) (hL : L.length = d.length) (hn : names.length ≤ 4300000) (hB : ∀ j, lv L j ≤ 1000000) : FnC Tryz.prog 106 [.o (.d (.sl (d.map bW))), .o (.d (.sl (L.map nU))), .o (.d (.sl (names.map dA))), oi 1] (oi (abv d L 1 names 0 : Nat)) := a2Z d L 1 names hd hL hn hB (by omega)
noncomputable def resL (d : List TDir) : List Nat := if dB d then a4v d.length (EE d) else []
noncomputable def vL (d : List TDir) : Bool := if dB d then zY d.length (EE d) else false
theorem a7t (L : List Nat) (i v : Nat) : (L.map nU).set i [D.v (Value.int .i64 (v : Int))] = (L.set i v).map nU := by rw [List.map_set]; rfl
structure Pass (d : List TDir) (L : List Nat) (i : Nat) (M : List Nat) (ch : Bool) : Prop where
 low : Low d M
 no : ch = false → M = L ∧ ∀ j, (hj : j < d.length) → j < i → eO d L d[j] ≤ lv L j
 yes : ch = true → nW L < nW M
theorem Pass.start {d : List TDir} {L : List Nat} (h : Low d L) : Pass d L 0 L false := ⟨h, fun _ => ⟨rfl, fun j _ hj => by omega⟩, fun h => by cases h⟩
theorem Pass.keep {d : List TDir} {L M : List Nat} {i : Nat} {ch : Bool} (h : Pass d L i M ch) (hi : i < d.length) (hle : ¬ eO d M d[i] > lv M i) : Pass d L (i + 1) M ch := by
 refine ⟨h.low, fun hc => ⟨(h.no hc).1, fun j hj hlt => ?_⟩, h.yes⟩
 by_cases e : j = i
 ·subst e
  have := (h.no hc).1
  subst this
  omega
 ·exact (h.no hc).2 j hj (by omega)
theorem Pass.set {d : List TDir} {L M : List Nat} {i : Nat} {ch : Bool} (h : Pass d L i M ch) (hi : i < d.length) (ho : ¬ eO d M d[i] > d.length) (hgt : eO d M d[i] > lv M i) : Pass d L (i + 1) (M.set i (eO d M d[i])) true := by
 have hl : i < M.length := by rw [h.low.len]; exact hi
 have hs := a3o M i (eO d M d[i]) hl
 refine ⟨h.low.set hi ho, fun hc => (by cases hc), fun _ => ?_⟩
 cases ch with
 | false =>
  have := (h.no rfl).1
  subst this
  omega
 | true =>
  have := h.yes rfl
  omega
theorem a0l (d : List TDir) (hd : eX d ≤ 4300000) : FnC Tryz.prog 77 [.o (.d (.sl (d.map bW)))] (.t [(false, [.w 3 1 ((resL d).map nU)]), (false, [.d (bv (vL d))])]) := by
 have hd0 : d.length + wsum wDir d ≤ 4300000 := hd
 refine ent Tryz.func77 rfl Tryz.call77 rfl (fun C => ?_); simp only [go_sem, st0, Tryz.ntmps77]
 cases hv : dB d
 ·have e1 : resL d = [] := by simp [resL, hv]
  have e2 : vL d = false := by simp [vL, hv]
  have q0 := @hv; refine gG (uO d hd) ?_
  exact aA ⟨⟨_, rfl, by simp only [go_sem, e1, e2]⟩, by simp [oN]⟩
 have e1 : resL d = a4v d.length (EE d) := by simp [resL, hv]
 have e2 : vL d = zY d.length (EE d) := by simp [vL, hv]
 have hl5 := sI hv
 have q0 := @hv; refine gG (uO d hd) ?_
 refine bC (α := List Nat × Bool) (fun x => [(5, ob x.2)]) (fun x => [(0, .row 3 1 (x.1.map nU) true)]) (fun x => Low d x.1 ∧ (x.2 = false → ∀ i, (hi : i < d.length) → eO d x.1 d[i] ≤ lv x.1 i)) (fun x => if x.2 then d.length * d.length - nW x.1 + 1 else 0) (List.replicate d.length 0, true) (fun _ => ?_) ?_ ?_ (fun x hx => ?_)
 ·simp only [go_sem]
 ·simp only [go_sem]; simp [nU]
 ·exact ⟨Low.start d, fun h => by cases h⟩
 ·obtain ⟨L, ch⟩ := x
  obtain ⟨hlow, hdone⟩ := hx
  simp only at hlow hdone
  simp only [go_sem]
  refine aK ?_
  refine cnd rfl (fun h => ?_) (fun h => ?_)
  ·subst h
   refine aK ?_
   refine bC (α := Nat × List Nat × Bool) (fun x => [(5, ob x.2.2), (18, oi x.1)]) (fun x => [(0, .row 3 1 (x.2.1.map nU) true)]) (fun x => x.1 ≤ d.length ∧ Pass d L x.1 x.2.1 x.2.2) (fun x => d.length - x.1) (0, L, false) (fun _ => ?_) ?_ ?_ (fun x hx => ?_)
   ·simp only [go_sem]
   ·simp only [go_sem]; simp
   ·exact ⟨by simp, Pass.start hlow⟩
   ·obtain ⟨i, M, c⟩ := x
    obtain ⟨hi, hp⟩ := hx
    simp only at hi hp
    simp only [go_sem]
    refine aK ?_
    refine cnd rfl (fun h => ?_) (fun h => ?_)
    ·simp only [decide_eq_true_eq, Int.ofNat_lt] at h
     have hq := vK hv i h
     have hq9 := iC hq
     have hwd := bL wDir d h
     have hwq : bN d[i].fQuery ≤ wDir d[i] := by unfold wDir; omega
     have hML : M.length = d.length := hp.low.len
     have hiM : i < M.length := by omega
     have hB : ∀ j, lv M j ≤ 1000000 := fun j => by have := hp.low.small j; omega
     have ho1 := a1a (bP d[i].fQuery false)
     have ho2 := a1a (bP d[i].fQuery true)
     have ho3 := gV d[i].fQuery false d[i].fQuery.length
     have ho4 := gV d[i].fQuery true d[i].fQuery.length
     have hk1 : (fE (bP d[i].fQuery false)).length ≤ 4300000 := by unfold bP at ho1 ⊢; omega
     have hk2 : (fE (bP d[i].fQuery true)).length ≤ 4300000 := by unfold bP at ho2 ⊢; omega
     have hmx : mxI (abv d M 0 (fE (bP d[i].fQuery false)) 0 : Nat) (abv d M 1 (fE (bP d[i].fQuery true)) 0 : Nat) = ((eO d M d[i] : Nat) : Int) := by
      rw [a4X]; rfl
     have hg := vP M i hiM
     have qH := aI @h @hmx; repeat' (with_reducible first | refine nY ?_ | (refine mX ?_; try simp only [go_sem, qH]) | refine kD ?_ | refine rD ?_ | refine cP (a2W d[i].fQuery hq (by omega)) ?_ | refine cP (a2X d[i].fQuery hq (by omega)) ?_ | refine vO (a0V d M (fE (bP d[i].fQuery false)) (by omega) hML hk1 hB) ?_ | refine vQ (a0V d M (fE (bP d[i].fQuery false)) (by omega) hML hk1 hB) ?_ | refine vO (a0W d M (fE (bP d[i].fQuery true)) (by omega) hML hk2 hB) ?_ | refine vQ (a0W d M (fE (bP d[i].fQuery true)) (by omega) hML hk2 hB) ?_ | refine aO ?_ | fail)
     refine cnd rfl (fun ho => ?_) (fun ho => ?_)
     ·simp only [decide_eq_true_eq, Int.ofNat_lt] at ho
      have hno := hp.low.over h ho
      have f1 := a5e hno
      have f2 := a3n hno
      refine aK ?_
      exact aA ⟨⟨_, rfl, by simp only [go_sem, e1, e2, f1, f2]⟩, by simp [oN]⟩
     ·simp only [decide_eq_false_iff_not, Int.ofNat_lt] at ho
      have q0 := @h; have q1 := @hiM; have q2 := @hg; refine kZ ?_
      refine cnd rfl (fun hgt => ?_) (fun hgt => ?_)
      ·simp only [decide_eq_true_eq, Int.ofNat_lt] at hgt
       have q0 := @h; have q1 := @hiM; have q2 := @hg; refine kZ ?_
       refine aG (i + 1, M.set i (eO d M d[i]), true) ?_ ?_ ?_
       ·simp only [go_sem, ← a7t]; simp
       ·exact ⟨by simp only; omega, hp.set h ho hgt⟩
       ·simp only; omega
      ·simp only [decide_eq_false_iff_not, Int.ofNat_lt] at hgt
       have q0 := @h; have q1 := @hiM; have q2 := @hg; refine kZ ?_
       refine aG (i + 1, M, c) ?_ ?_ ?_
       ·simp only [go_sem]; simp
       ·exact ⟨by simp only; omega, hp.keep h hgt⟩
       ·simp only; omega
    ·simp only [decide_eq_false_iff_not] at h
     have e : i = d.length := by omega
     subst e
     refine aK ?_
     refine aG (M, c) ?_ ?_ ?_
     ·simp only [go_sem]; simp
     ·exact ⟨hp.low, fun hc i hi => by
       simp only at hc
       obtain ⟨h1, h2⟩ := hp.no hc
       subst h1
       exact h2 i hi hi⟩
     ·have hs := hp.low.sum
      simp only
      cases c with
      | false => simp
      | true =>
       have := hp.yes rfl
       simp only [if_true]
       omega
  ·subst h
   have hL := hlow.done (hdone rfl)
   have f1 := a5d hL
   have f2 := a1c hL.clo
   refine aK ?_
   exact aA ⟨⟨_, rfl, by simp only [go_sem, e1, e2, f1, f2]⟩, by simp [oN]⟩
theorem lL (d : List TDir) (hd : eX d ≤ 4300000) : FnC Tryz.prog 49 [.o (.d (.sl (d.map bW)))] (ob (vL d)) := by
 refine ent Tryz.func49 rfl Tryz.call49 rfl (fun C => ?_); simp only [go_sem, st0, Tryz.ntmps49]
 refine jA (a0l d hd) ?_
 exact aA ⟨⟨_, rfl, by simp only [go_sem]⟩, trivial⟩
theorem a2U (q : List TNode) (hq : okQ q = true) (hw : bN q ≤ 4300000) : FnC Tryz.prog 119 [.o (.d (.sl (q.map aV)))] (.o (.d (.sl ((putL (bP q false)).map dA)))) := (a4m q hq hw).pu (by simp only [go_sem, and_self])
theorem a2V (q : List TNode) (hq : okQ q = true) (hw : bN q ≤ 4300000) : FnC Tryz.prog 121 [.o (.d (.sl (q.map aV)))] (.o (.d (.sl ((putL (bP q true)).map dA)))) := (a3c q hq hw).pu (by simp only [go_sem, and_self])
theorem wL (d : List TDir) (i w : Nat) (names : List ByteArray) (k : Nat) (h : k < names.length) : bY d i w (names.take (k + 1)) = bY d i w (names.take k) ++ (if 0 ≤ placeD d names[k] then [(i, (placeD d names[k]).toNat, w)] else []) := by
 unfold bY
 rw [List.take_succ_eq_append_getElem h, List.flatMap_append]
 simp
theorem kW (d : List TDir) (i w : Nat) (names : List ByteArray) : (bY d i w names).length ≤ names.length := by
 induction names with
 | nil => simp [bY]
 | cons x l ih =>
  have e : bY d i w (x :: l) = (if 0 ≤ placeD d x then [(i, (placeD d x).toNat, w)] else []) ++ bY d i w l := by simp [bY]
  rw [e, List.length_append, List.length_cons]
  split <;> simp <;> omega
theorem mW (d : List TDir) (i w : Nat) (hi : i < d.length) (hw : w ≤ 1) (names : List ByteArray) (x : Nat × Nat × Nat) (hx : x ∈ bY d i w names) : x.1 < d.length ∧ x.2.2 ≤ 1 := by
 obtain ⟨nm, _, k, _, rfl⟩ := (sJ d i w names x).1 hx
 exact ⟨hi, hw⟩
def gJ (d : List TDir) (k : Nat) : List (Nat × Nat × Nat) := (List.range k).flatMap (lV d)
theorem wM (d : List TDir) (k : Nat) : gJ d (k + 1) = gJ d k ++ lV d k := by
 simp [gJ, List.range_succ, List.flatMap_append]
theorem a5Z (d : List TDir) (i : Nat) (h : i < d.length) : lV d i = bY d i 0 (putL (bP d[i].fQuery false)) ++ bY d i 1 (putL (bP d[i].fQuery true)) := by
 unfold lV; rw [List.getElem?_eq_getElem h]
theorem a4j (d : List TDir) (hv : dB d = true) (i : Nat) : (lV d i).length ≤ 18 := by
 unfold lV
 cases hx : d[i]? with
 | none => simp
 | some x =>
  have hi := (List.getElem?_eq_some_iff.1 hx).1
  have hxe : d[i] = x := (List.getElem?_eq_some_iff.1 hx).2
  have hq := (iC (vK hv i hi)).2
  rw [hxe] at hq
  have h1 := kW d i 0 (putL (bP x.fQuery false))
  have h2 := kW d i 1 (putL (bP x.fQuery true))
  have h3 := pQ (bP x.fQuery false)
  have h4 := pQ (bP x.fQuery true)
  have h5 : (bP x.fQuery false).length ≤ x.fQuery.length := gV _ _ _
  have h6 : (bP x.fQuery true).length ≤ x.fQuery.length := gV _ _ _
  simp only [List.length_append]
  omega
theorem zQ (d : List TDir) (hv : dB d = true) (k : Nat) : (gJ d k).length ≤ 18 * k := by
 induction k with
 | zero => simp [gJ]
 | succ k ih => rw [wM, List.length_append]; have := a4j d hv k; omega
theorem a0U (d : List TDir) (k : Nat) (x : Nat × Nat × Nat) (hx : x ∈ gJ d k) : x.1 < d.length ∧ x.2.2 ≤ 1 := by
 unfold gJ at hx
 obtain ⟨i, _, h⟩ := List.mem_flatMap.1 hx
 unfold lV at h
 cases hd : d[i]? with
 | none => rw [hd] at h; simp at h
 | some y =>
  rw [hd] at h
  have hi := (List.getElem?_eq_some_iff.1 hd).1
  simp only [List.mem_append] at h
  rcases h with h | h
  ·exact mW d i 0 hi (by omega) _ x h
  ·exact mW d i 1 hi (by omega) _ x h
theorem a4W {i p w : Nat} {L : List Nat} (h : lv L p + w > lv L i) : up1 i p w L = L.set i (lv L p + w) := by unfold up1; rw [if_pos h]
theorem a7s {i p w : Nat} {L : List Nat} (h : ¬ lv L p + w > lv L i) : up1 i p w L = L := by unfold up1; rw [if_neg h]
theorem zR (d : List TDir) (L : List Nat) (hv : dB d = true) (hd : eX d ≤ 4300000) (hL : L.length = d.length) (hB : ∀ j, lv L j ≤ 1000000) : FnC Tryz.prog 99 [.o (.d (.sl (d.map bW))), .o (.d (.sl (L.map nU)))] (.o (.w 3 1 ((ups (eP d) L).map nU))) := by
 have hd0 : d.length + wsum wDir d ≤ 4300000 := hd
 have hl5 := sI hv
 refine ent Tryz.func99 rfl Tryz.call99 rfl (fun C => ?_); simp only [go_sem, st0, Tryz.ntmps99]
 refine aK ?_
 refine bC (α := Nat) (fun i => [(5, .o (.s 0)), (13, .o .u), (15, .o .u), (6, oi i)]) (fun i => [(0, .row 3 1 ((ups (gJ d i) L).map nU) true)]) (fun i => i ≤ d.length) (fun i => d.length - i) 0 (fun _ => ?_) ?_ ?_ (fun i hi => ?_)
 ·simp only [go_sem]
 ·simp only [go_sem]; simp [gJ, ups]
 ·simp
 ·simp only [go_sem]
  refine aK ?_
  refine cnd rfl (fun h => ?_) (fun h => ?_)
  ·simp only [decide_eq_true_eq, Int.ofNat_lt] at h
   have hq := vK hv i h
   have hwd := bL wDir d h
   have hwq : bN d[i].fQuery ≤ wDir d[i] := by unfold wDir; omega
   have hsuc := wM d i
   rw [a5Z d i h] at hsuc
   have hML : (ups (gJ d i) L).length = d.length := by rw [qL]; exact hL
   have hMB := kN (gJ d i) L 1000000 (fun x hx => by rw [hL]; exact a0U d i x hx) hB
   have hKl := zQ d hv i
   have hfin : ups (gJ d (i + 1)) L = ups (bY d i 1 (putL (bP d[i].fQuery true))) (ups (bY d i 0 (putL (bP d[i].fQuery false))) (ups (gJ d i) L)) := by
    rw [hsuc, xQ, xQ]
   have hn1 := pQ (bP d[i].fQuery false)
   have hn2 := pQ (bP d[i].fQuery true)
   have hn3 : (bP d[i].fQuery false).length ≤ d[i].fQuery.length := gV _ _ _
   have hn4 : (bP d[i].fQuery true).length ≤ d[i].fQuery.length := gV _ _ _
   have hq9 := iC hq
   have hMB2 : ∀ j, lv (ups (gJ d i) L) j ≤ 1000200 := fun j => by have := hMB j; omega
   generalize ups (gJ d i) L = M at *
   have q0 := @h; refine gG (a2U d[i].fQuery hq (by omega)) ?_
   generalize putL (bP d[i].fQuery false) = P at *
   refine bC (α := Nat) (fun k => [(8, oi k)]) (fun k => [(0, .row 3 1 ((ups (bY d i 0 (P.take k)) M).map nU) true)]) (fun k => k ≤ P.length) (fun k => P.length - k) 0 (fun _ => ?_) ?_ ?_ (fun k hk => ?_)
   ·simp only [go_sem]
   ·simp only [go_sem]; simp [bY, ups]
   ·simp
   ·simp only [go_sem]
    refine aK ?_
    refine cnd rfl (fun h1 => ?_) (fun h1 => ?_)
    ·simp only [decide_eq_true_eq, Int.ofNat_lt] at h1
     have ht := wL d i 0 P k h1
     have hXL : (ups (bY d i 0 (P.take k)) M).length = d.length := by rw [qL]; exact hML
     have hXB := kN (bY d i 0 (P.take k)) M 1000200 (fun x hx => by rw [hML]; exact mW d i 0 h (by omega) _ x hx) hMB2
     have hel := kW d i 0 (P.take k)
     rw [List.length_take] at hel
     have hup : ups (bY d i 0 (P.take (k + 1))) M = ups (if 0 ≤ placeD d P[k] then [(i, (placeD d P[k]).toNat, 0)] else []) (ups (bY d i 0 (P.take k)) M) := by rw [ht, xQ]
     generalize ups (bY d i 0 (P.take k)) M = X at *
     have hiX : i < X.length := by omega
     have hg := vP X i hiX
     rcases placeD_cases d P[k] with hp | ⟨p, hp, hpl⟩
     ·rw [if_neg (by omega)] at hup
      have q0 := @h1; have q1 := @hp; have q2 := @decide_true; have q3 := @decide_false; refine tX (iP d P[k] (by omega)) ?_
      refine aG (k + 1) ?_ ?_ ?_
      ·simp only [go_sem, hup, ups]; simp
      ·omega
      ·omega
     ·have hpX : p < X.length := by omega
      have hge : (0 : Int) ≤ (p : Int) := by omega
      have hgp := vP X p hpX
      rw [if_pos (by omega), hp, Int.toNat_natCast] at hup
      simp only [ups] at hup
      by_cases hc : lv X p > lv X i
      ·have hcI : ((lv X i : Nat) : Int) < ((lv X p : Nat) : Int) := by omega
       rw [a4W (by omega), Nat.add_zero] at hup
       have qH := aI @h1 (aI @hp (aI @hge (aI @hpX (aI @hiX (aI @hg (aI @hgp (aI @hcI (aI @decide_true (aI @decide_false @Int.toNat_natCast))))))))); repeat' (with_reducible first | refine nY ?_ | (refine mX ?_; try simp only [go_sem, qH]) | refine kD ?_ | refine rD ?_ | refine cP (iP d P[k] (by omega)) ?_ | refine aO ?_ | fail)
       refine aG (k + 1) ?_ ?_ ?_
       ·simp only [go_sem, hup, ← a7t]; simp
       ·omega
       ·omega
      ·have hcI : ¬ ((lv X i : Nat) : Int) < ((lv X p : Nat) : Int) := by omega
       rw [a7s (by omega)] at hup
       have qH := aI @h1 (aI @hp (aI @hge (aI @hpX (aI @hiX (aI @hg (aI @hgp (aI @hcI (aI @decide_true (aI @decide_false @Int.toNat_natCast))))))))); repeat' (with_reducible first | refine nY ?_ | (refine mX ?_; try simp only [go_sem, qH]) | refine kD ?_ | refine rD ?_ | refine cP (iP d P[k] (by omega)) ?_ | refine aO ?_ | fail)
       refine aG (k + 1) ?_ ?_ ?_
       ·simp only [go_sem, hup]; simp
       ·omega
       ·omega
    ·simp only [decide_eq_false_iff_not] at h1
     have e : k = P.length := by omega
     subst e
     rw [List.take_length]
     have hXL : (ups (bY d i 0 P) M).length = d.length := by rw [qL]; exact hML
     have hXB := kN (bY d i 0 P) M 1000200 (fun x hx => by rw [hML]; exact mW d i 0 h (by omega) _ x hx) hMB2
     have hel := kW d i 0 P
     have hXB2 : ∀ j, lv (ups (bY d i 0 P) M) j ≤ 1000400 := fun j => by have := hXB j; omega
     generalize ups (bY d i 0 P) M = Y at *
     have q0 := @h; refine gG (a2V d[i].fQuery hq (by omega)) ?_
     generalize putL (bP d[i].fQuery true) = N at *
     refine bC (α := Nat) (fun k => [(11, oi k)]) (fun k => [(0, .row 3 1 ((ups (bY d i 1 (N.take k)) Y).map nU) true)]) (fun k => k ≤ N.length) (fun k => N.length - k) 0 (fun _ => ?_) ?_ ?_ (fun k hk => ?_)
     ·simp only [go_sem]
     ·simp only [go_sem]; simp [bY, ups]
     ·simp
     ·simp only [go_sem]
      refine aK ?_
      refine cnd rfl (fun h1 => ?_) (fun h1 => ?_)
      ·simp only [decide_eq_true_eq, Int.ofNat_lt] at h1
       have ht := wL d i 1 N k h1
       have hZL : (ups (bY d i 1 (N.take k)) Y).length = d.length := by rw [qL]; exact hXL
       have hZB := kN (bY d i 1 (N.take k)) Y 1000400 (fun x hx => by rw [hXL]; exact mW d i 1 h (by omega) _ x hx) hXB2
       have hel := kW d i 1 (N.take k)
       rw [List.length_take] at hel
       have hup : ups (bY d i 1 (N.take (k + 1))) Y = ups (if 0 ≤ placeD d N[k] then [(i, (placeD d N[k]).toNat, 1)] else []) (ups (bY d i 1 (N.take k)) Y) := by rw [ht, xQ]
       generalize ups (bY d i 1 (N.take k)) Y = X at *
       have hiX : i < X.length := by omega
       have hg := vP X i hiX
       rcases placeD_cases d N[k] with hp | ⟨p, hp, hpl⟩
       ·rw [if_neg (by omega)] at hup
        have q0 := @h1; have q1 := @hp; have q2 := @decide_true; have q3 := @decide_false; refine tX (iP d N[k] (by omega)) ?_
        refine aG (k + 1) ?_ ?_ ?_
        ·simp only [go_sem, hup, ups]; simp
        ·omega
        ·omega
       ·have hpX : p < X.length := by omega
        have hge : (0 : Int) ≤ (p : Int) := by omega
        have hgp := vP X p hpX
        have hbp := hZB p
        have hs1 : ((lv X p : Nat) : Int) + 1 = ((lv X p + 1 : Nat) : Int) := by omega
        rw [if_pos (by omega), hp, Int.toNat_natCast] at hup
        simp only [ups] at hup
        by_cases hc : lv X p + 1 > lv X i
        ·have hcI : ((lv X i : Nat) : Int) < ((lv X p + 1 : Nat) : Int) := by omega
         rw [a4W hc] at hup
         have qH := aI @h1 (aI @hp (aI @hge (aI @hpX (aI @hiX (aI @hg (aI @hgp (aI @hs1 (aI @hcI (aI @decide_true (aI @decide_false @Int.toNat_natCast)))))))))); repeat' (with_reducible first | refine nY ?_ | (refine mX ?_; try simp only [go_sem, qH]) | refine kD ?_ | refine rD ?_ | refine cP (iP d N[k] (by omega)) ?_ | refine aO ?_ | fail)
         refine aG (k + 1) ?_ ?_ ?_
         ·simp only [go_sem, hup, ← a7t]; simp
         ·omega
         ·omega
        ·have hcI : ¬ ((lv X i : Nat) : Int) < ((lv X p + 1 : Nat) : Int) := by omega
         rw [a7s hc] at hup
         have qH := aI @h1 (aI @hp (aI @hge (aI @hpX (aI @hiX (aI @hg (aI @hgp (aI @hs1 (aI @hcI (aI @decide_true (aI @decide_false @Int.toNat_natCast)))))))))); repeat' (with_reducible first | refine nY ?_ | (refine mX ?_; try simp only [go_sem, qH]) | refine kD ?_ | refine rD ?_ | refine cP (iP d N[k] (by omega)) ?_ | refine aO ?_ | fail)
         refine aG (k + 1) ?_ ?_ ?_
         ·simp only [go_sem, hup]; simp
         ·omega
         ·omega
      ·simp only [decide_eq_false_iff_not] at h1
       have e : k = N.length := by omega
       subst e
       rw [List.take_length]
       refine aK ?_
       refine aG (i + 1) ?_ ?_ ?_
       ·simp only [go_sem, hfin]; simp
       ·omega
       ·omega
  ·simp only [decide_eq_false_iff_not] at h
   have e : i = d.length := by omega
   subst e
   refine aK ?_
   exact aA ⟨⟨_, rfl, by simp only [go_sem, gJ, eP]⟩, trivial⟩
theorem a1L (A B : List Nat) (k : Nat) (hA : k < A.length) (hB : k < B.length) (h : A.take k = B.take k) (e : A[k] = B[k]) : A.take (k + 1) = B.take (k + 1) := by
 rw [List.take_succ_eq_append_getElem hA, List.take_succ_eq_append_getElem hB, h, e]
theorem a4V (A B : List Nat) (hA : A.length ≤ 4300000) (hB : B.length ≤ 4300000) : FnC Tryz.prog 100 [.o (.d (.sl (A.map nU))), .o (.d (.sl (B.map nU)))] (ob (decide (A = B))) := by
 refine ent Tryz.func100 rfl Tryz.call100 rfl (fun C => ?_); simp only [go_sem, st0, Tryz.ntmps100]
 by_cases hl : A.length = B.length
 ·have hli : ((A.length : Nat) : Int) = ((B.length : Nat) : Int) := by omega
  have q0 := @hli; have q1 := @decide_true; refine tV ?_
  refine bC (α := Nat) (fun k => [(5, oi k)]) (fun _ => []) (fun k => k ≤ A.length ∧ A.take k = B.take k) (fun k => A.length - k) 0 (fun _ => ?_) ?_ ?_ (fun k hk => ?_)
  ·simp only [go_sem]
  ·simp only [go_sem]; simp
  ·simp
  ·obtain ⟨hk, hq⟩ := hk
   simp only [go_sem]
   refine aK ?_
   refine cnd rfl (fun h => ?_) (fun h => ?_)
   ·simp only [decide_eq_true_eq, Int.ofNat_lt] at h
    have h2 : k < B.length := by omega
    by_cases he : A[k] = B[k]
    ·have hei : ((A[k] : Nat) : Int) = ((B[k] : Nat) : Int) := by omega
     have q0 := @h; have q1 := @h2; have q2 := @hei; have q3 := @decide_true; refine jE ?_
     refine aG (k + 1) ?_ ?_ ?_
     ·simp only [go_sem]; simp
     ·exact ⟨by omega, a1L A B k h h2 hq he⟩
     ·omega
    ·have hei : ¬ ((A[k] : Nat) : Int) = ((B[k] : Nat) : Int) := by omega
     have hne : decide (A = B) = false := decide_eq_false fun e => he (by subst e; rfl)
     have q0 := @h; have q1 := @h2; have q2 := @hei; have q3 := @decide_false; refine jE ?_
     exact aA ⟨⟨_, rfl, by simp only [go_sem, hne]⟩, trivial⟩
   ·simp only [decide_eq_false_iff_not] at h
    have e : k = A.length := by omega
    subst e
    rw [List.take_length, hl, List.take_length] at hq
    have hy : decide (A = B) = true := decide_eq_true hq
    refine aK ?_
    exact aA ⟨⟨_, rfl, by simp only [go_sem, hy]⟩, trivial⟩
 ·have hli : ¬ ((A.length : Nat) : Int) = ((B.length : Nat) : Int) := by omega
  have hne : decide (A = B) = false := decide_eq_false fun e => hl (by rw [e])
  have q0 := @hli; have q1 := @decide_false; refine tV ?_
  exact aA ⟨⟨_, rfl, by simp only [go_sem, hne]⟩, trivial⟩
theorem a0k (d : List TDir) (hd : eX d ≤ 4300000) : FnC Tryz.prog 71 [.o (.d (.sl (d.map bW)))] (.t [(false, [.d (.sl ((resL d).map nU))]), (false, [.d (bv (vL d))])]) := by
 have hd0 : d.length + wsum wDir d ≤ 4300000 := hd
 refine ent Tryz.func71 rfl Tryz.call71 rfl (fun C => ?_); simp only [go_sem, st0, Tryz.ntmps71]
 cases hv : dB d
 ·have e1 : resL d = [] := by simp [resL, hv]
  have e2 : vL d = false := by simp [vL, hv]
  have q0 := @hv; refine gG (uQ d hd) ?_
  refine pY (Sees.frz 0 rfl) ?_
  simp only [go_sem]
  exact aA ⟨⟨_, rfl, by simp only [go_sem, e1, e2, List.map_nil]⟩, by simp [oN]⟩
 have e1 : resL d = a4v d.length (EE d) := by simp [resL, hv]
 have e2 : vL d = zY d.length (EE d) := by simp [vL, hv]
 have hl5 := sI hv
 have hsq : d.length * d.length ≤ 25 := Nat.mul_le_mul hl5 hl5
 have hmul : ((d.length : Nat) : Int) * ((d.length : Nat) : Int) = ((d.length * d.length : Nat) : Int) := by rw [Int.natCast_mul]
 have hends := a6j (zS d) (eP d) (fun x => Iff.rfl) (d.length * d.length + 2) (by omega)
 have hEl := zQ d hv d.length
 have hEok : ∀ x ∈ eP d, x.1 < (List.replicate d.length 0).length ∧ x.2.2 ≤ 1 := fun x hx => by rw [List.length_replicate]; exact a0U d d.length x hx
 have hEl2 : (eP d).length ≤ 90 := by have : eP d = gJ d d.length := rfl; rw [this]; omega
 have hbd := a0b (eP d) (List.replicate d.length 0) hEok (fun j => a1U _ j)
 have hlen : ∀ r, (upsN (eP d) r (List.replicate d.length 0)).length = d.length := fun r => by rw [a0a]; simp
 generalize hN2 : d.length * d.length = N2 at *
 have hB : ∀ r, r ≤ N2 + 2 → ∀ j, lv (upsN (eP d) r (List.replicate d.length 0)) j ≤ 1000000 := fun r hr j => by
  have h1 := hbd r j
  have h2 : r * (eP d).length ≤ 27 * 90 := Nat.mul_le_mul (by omega) hEl2
  omega
 have q0 := @hv; refine gG (uQ d hd) ?_
 refine bC (α := Nat) (fun r => [(4, .o (.s 0)), (12, .o .u), (5, oi r)]) (fun r => [(0, .row 3 1 ((upsN (eP d) r (List.replicate d.length 0)).map nU) true)]) (fun r => r ≤ N2 + 2) (fun r => N2 + 2 - r) 0 (fun _ => ?_) ?_ ?_ (fun r hr => ?_)
 ·simp only [go_sem]
 ·simp only [go_sem]; simp [upsN, nU]
 ·simp
 ·simp only [go_sem]
  have q0 := @hmul; refine jT ?_
  refine cnd rfl (fun h => ?_) (fun h => ?_)
  ·simp only [decide_eq_true_eq] at h
   refine jA (zR d (upsN (eP d) r (List.replicate d.length 0)) hv hd (hlen r) (hB r hr)) ?_
   refine a7L [(0, 1)] (r + 1) (by simp only [go_sem]; rfl) ?_ ?_ ?_
   ·simp only [go_sem, upsN]; simp
   ·omega
   ·omega
  ·simp only [decide_eq_false_iff_not] at h
   have e : r = N2 + 2 := by omega
   subst e
   have hLl := hlen (N2 + 2)
   have hLB := hB (N2 + 2) (by omega)
   simp only at hends
   generalize upsN (eP d) (N2 + 2) (List.replicate d.length 0) = L at *
   have hUl : (ups (eP d) L).length = d.length := by rw [qL]; exact hLl
   by_cases hs : ups (eP d) L = L
   ·rw [if_pos hs] at hends
    have f1 := a5d hends
    have f2 := a1c hends.clo
    have hy : decide (ups (eP d) L = L) = true := decide_eq_true hs
    have q0 := @hy; refine a2C (zR d L hv hd hLl hLB) (a4V (ups (eP d) L) L (by omega) (by omega)) ?_
    exact aA ⟨⟨_, rfl, by simp only [go_sem, e1, e2, f1, f2]⟩, by simp [oN]⟩
   ·rw [if_neg hs] at hends
    have f1 := a5e hends
    have f2 := a3n hends
    have hy : decide (ups (eP d) L = L) = false := decide_eq_false hs
    have q0 := @hy; refine a2C (zR d L hv hd hLl hLB) (a4V (ups (eP d) L) L (by omega) (by omega)) ?_
    refine pY (Sees.frz 2 rfl) ?_
    simp only [go_sem]
    exact aA ⟨⟨_, rfl, by simp only [go_sem, e1, e2, f1, f2, List.map_nil]⟩, by simp [oN]⟩
theorem lK (d : List TDir) (hd : eX d ≤ 4300000) : FnC Tryz.prog 43 [.o (.d (.sl (d.map bW)))] (ob (vL d)) := by
 refine ent Tryz.func43 rfl Tryz.call43 rfl (fun C => ?_); simp only [go_sem, st0, Tryz.ntmps43]
 refine jA (a0k d hd) ?_
 exact aA ⟨⟨_, rfl, by simp only [go_sem]⟩, trivial⟩
noncomputable def jY (x : TSnapshot) : Bool := dI x.fStore && vL x.fDirs
theorem jR (x : TSnapshot) (h : bD x ≤ 1048576) : FnC Tryz.prog 24 [dD x] (ob (jY x)) := by
 unfold bD at h
 refine ent Tryz.func24 rfl Tryz.call24 rfl (fun C => ?_); simp only [go_sem, st0, Tryz.ntmps24]
 cases hs : dI x.fStore
 ·have q0 := @hs; refine a2C (uN x.fStore (by omega)) (lL x.fDirs (by omega)) ?_
  exact aA ⟨⟨_, rfl, by simp only [go_sem, jY, hs, Bool.false_and]⟩, trivial⟩
 ·have q0 := @hs; refine a2C (uN x.fStore (by omega)) (lL x.fDirs (by omega)) ?_
  exact aA ⟨⟨_, rfl, by simp only [go_sem, jY, hs, Bool.true_and]⟩, trivial⟩
theorem jS (x : TSnapshot) (h : bD x ≤ 1048576) : FnC Tryz.prog 18 [dD x] (ob (jY x)) := by
 unfold bD at h
 refine ent Tryz.func18 rfl Tryz.call18 rfl (fun C => ?_); simp only [go_sem, st0, Tryz.ntmps18]
 cases hs : dI x.fStore
 ·have q0 := @hs; refine a2C (uP x.fStore (by omega)) (lK x.fDirs (by omega)) ?_
  exact aA ⟨⟨_, rfl, by simp only [go_sem, jY, hs, Bool.false_and]⟩, trivial⟩
 ·have q0 := @hs; refine a2C (uP x.fStore (by omega)) (lK x.fDirs (by omega)) ?_
  exact aA ⟨⟨_, rfl, by simp only [go_sem, jY, hs, Bool.true_and]⟩, trivial⟩
def fdT (f : TField) : ByteArray := if aY f.fName 1 then (if f.fKind = 1 then (⟨#[102, 105, 101, 108, 100, 32]⟩ : ByteArray) ++ f.fName ++ ⟨#[32, 105, 110, 116]⟩ else if f.fKind = 2 then (⟨#[102, 105, 101, 108, 100, 32]⟩ : ByteArray) ++ f.fName ++ ⟨#[32, 115, 116, 114, 105, 110, 103]⟩ else ⟨#[]⟩) else ⟨#[]⟩
theorem a7j (f : TField) : (fdT f).size ≤ 13 + f.fName.size := by
 have e1 : (⟨#[102, 105, 101, 108, 100, 32]⟩ : ByteArray).size = 6 := rfl
 have e2 : (⟨#[32, 105, 110, 116]⟩ : ByteArray).size = 4 := rfl
 have e3 : (⟨#[32, 115, 116, 114, 105, 110, 103]⟩ : ByteArray).size = 7 := rfl
 have e4 : (⟨#[]⟩ : ByteArray).size = 0 := rfl
 unfold fdT
 split
 ·split
  ·simp only [ByteArray.size_append]; omega
  ·split
   ·simp only [ByteArray.size_append]; omega
   ·omega
 ·omega
theorem a1H (f : TField) (hs : f.fName.size ≤ 4300000) : FnC Tryz.prog 33 [nR f] (os (fdT f)) := by
 have e1 : (⟨#[102, 105, 101, 108, 100, 32]⟩ : ByteArray).size = 6 := rfl
 have e2 : (⟨#[32, 105, 110, 116]⟩ : ByteArray).size = 4 := rfl
 have e3 : (⟨#[32, 115, 116, 114, 105, 110, 103]⟩ : ByteArray).size = 7 := rfl
 have m1 : (⟨#[102, 105, 101, 108, 100, 32]⟩ : ByteArray).size + f.fName.size ≤ maxLen := by unfold maxLen; omega
 have m2 : ((⟨#[102, 105, 101, 108, 100, 32]⟩ : ByteArray) ++ f.fName).size + (⟨#[32, 105, 110, 116]⟩ : ByteArray).size ≤ maxLen := by unfold maxLen; simp only [ByteArray.size_append]; omega
 have m3 : ((⟨#[102, 105, 101, 108, 100, 32]⟩ : ByteArray) ++ f.fName).size + (⟨#[32, 115, 116, 114, 105, 110, 103]⟩ : ByteArray).size ≤ maxLen := by unfold maxLen; simp only [ByteArray.size_append]; omega
 refine ent Tryz.func33 rfl Tryz.call33 rfl (fun C => ?_); simp only [go_sem, st0, Tryz.ntmps33]
 cases h0 : aY f.fName 1
 ·have q0 := @h0; refine gG (aB f.fName) ?_
  exact aA ⟨⟨_, rfl, by simp only [go_sem, fdT, h0, if_false, Bool.false_eq_true]⟩, trivial⟩
 by_cases h1 : f.fKind = 1
 ·have q0 := @h0; have q1 := @h1; have q2 := @decide_true; have q3 := @m1; have q4 := @m2; refine qP (aB f.fName) ?_
  exact aA ⟨⟨_, rfl, by simp only [go_sem, fdT, h0, h1, if_true]⟩, trivial⟩
 by_cases h2 : f.fKind = 2
 ·have q0 := @h0; have q1 := @h1; have q2 := @h2; have q3 := @decide_true; have q4 := @decide_false; have q5 := @m1; have q6 := @m3; refine a5G (aB f.fName) ?_
  exact aA ⟨⟨_, rfl, by simp only [go_sem, fdT, h0, h1, h2, if_true, if_false]⟩, trivial⟩
 ·have q0 := @h0; have q1 := @h1; have q2 := @h2; have q3 := @decide_true; have q4 := @decide_false; refine qP (aB f.fName) ?_
  exact aA ⟨⟨_, rfl, by simp only [go_sem, fdT, h0, h1, h2, if_true, if_false]⟩, trivial⟩
theorem a1I (f : TField) (hs : f.fName.size ≤ 4300000) : FnC Tryz.prog 30 [nR f] (os (fdT f)) := by
 have e1 : (⟨#[102, 105, 101, 108, 100, 32]⟩ : ByteArray).size = 6 := rfl
 have e2 : (⟨#[32, 105, 110, 116]⟩ : ByteArray).size = 4 := rfl
 have e3 : (⟨#[32, 115, 116, 114, 105, 110, 103]⟩ : ByteArray).size = 7 := rfl
 have m1 : (⟨#[102, 105, 101, 108, 100, 32]⟩ : ByteArray).size + f.fName.size ≤ maxLen := by unfold maxLen; omega
 have m2 : ((⟨#[102, 105, 101, 108, 100, 32]⟩ : ByteArray) ++ f.fName).size + (⟨#[32, 105, 110, 116]⟩ : ByteArray).size ≤ maxLen := by unfold maxLen; simp only [ByteArray.size_append]; omega
 have m3 : ((⟨#[102, 105, 101, 108, 100, 32]⟩ : ByteArray) ++ f.fName).size + (⟨#[32, 115, 116, 114, 105, 110, 103]⟩ : ByteArray).size ≤ maxLen := by unfold maxLen; simp only [ByteArray.size_append]; omega
 refine ent Tryz.func30 rfl Tryz.call30 rfl (fun C => ?_); simp only [go_sem, st0, Tryz.ntmps30]
 cases h0 : aY f.fName 1
 ·have q0 := @h0; refine gG (aD f.fName hs) ?_
  exact aA ⟨⟨_, rfl, by simp only [go_sem, fdT, h0, if_false, Bool.false_eq_true]⟩, trivial⟩
 by_cases h1 : f.fKind = 1
 ·have q0 := @h0; have q1 := @h1; have q2 := @decide_true; have q3 := @m1; have q4 := @m2; refine qP (aD f.fName hs) ?_
  exact aA ⟨⟨_, rfl, by simp only [go_sem, fdT, h0, h1, if_true]⟩, trivial⟩
 by_cases h2 : f.fKind = 2
 ·have q0 := @h0; have q1 := @h1; have q2 := @h2; have q3 := @decide_true; have q4 := @decide_false; have q5 := @m1; have q6 := @m3; refine a5G (aD f.fName hs) ?_
  exact aA ⟨⟨_, rfl, by simp only [go_sem, fdT, h0, h1, h2, if_true, if_false]⟩, trivial⟩
 ·have q0 := @h0; have q1 := @h1; have q2 := @h2; have q3 := @decide_true; have q4 := @decide_false; refine qP (aD f.fName hs) ?_
  exact aA ⟨⟨_, rfl, by simp only [go_sem, fdT, h0, h1, h2, if_true, if_false]⟩, trivial⟩
def drT (d : TDir) : ByteArray := (⟨#[100, 105, 114, 32]⟩ : ByteArray) ++ d.fName ++ ⟨#[32]⟩ ++ qtx d.fQuery
def nxT (n : Int) : ByteArray := (⟨#[110, 101, 120, 116, 32]⟩ : ByteArray) ++ itoaB n
def lnA (x : TSnapshot) : List ByteArray := x.fStore.fSchema.map fdT
def lnB (x : TSnapshot) : List ByteArray := lnA x ++ [nxT x.fStore.fNextID]
def lnC (x : TSnapshot) : List ByteArray := lnB x ++ x.fStore.fFiles.map jW
noncomputable def lnX (x : TSnapshot) : List ByteArray := if jY x then lnC x ++ x.fDirs.map drT else []
theorem mR {α β : Type} (f : α → β) (l : List α) (k : Nat) (h : k < l.length) : (l.take (k + 1)).map f = (l.take k).map f ++ [f l[k]] := by
 rw [List.take_succ_eq_append_getElem h, List.map_append]; rfl
structure SmX (x : TSnapshot) : Prop where
 wf : iK x
 sm : bD x ≤ 1048576
theorem SmX.lens {x : TSnapshot} (h : SmX x) : x.fStore.fSchema.length + x.fStore.fFiles.length + x.fDirs.length ≤ 1048576 := by
 have := h.sm
 unfold bD dE aM eZ eX at this
 omega
theorem SmX.field {x : TSnapshot} (h : SmX x) {k : Nat} (hk : k < x.fStore.fSchema.length) : x.fStore.fSchema[k].fName.size ≤ 4300000 := by
 have h1 := h.sm
 have h2 := bL wField x.fStore.fSchema hk
 unfold bD dE aM at h1
 have e : wField x.fStore.fSchema[k] = x.fStore.fSchema[k].fName.size := rfl
 omega
theorem SmX.file {x : TSnapshot} (h : SmX x) {k : Nat} (hk : k < x.fStore.fFiles.length) : wFile x.fStore.fFiles[k] ≤ 1048576 ∧ jV x.fStore.fFiles[k] := by
 have h1 := h.sm
 have h2 := bL wFile x.fStore.fFiles hk
 unfold bD dE eZ at h1
 exact ⟨by omega, h.wf.1.2.1.2 _ (List.getElem_mem hk)⟩
theorem SmX.dir {x : TSnapshot} (h : SmX x) {k : Nat} (hk : k < x.fDirs.length) : x.fDirs[k].fName.size ≤ 1048576 ∧ bN x.fDirs[k].fQuery ≤ 1048576 ∧ ∀ n ∈ x.fDirs[k].fQuery, inR .i64 n.fValue.fInt := by
 have h1 := h.sm
 have h2 := bL wDir x.fDirs hk
 unfold bD eX at h1
 have e : wDir x.fDirs[k] = x.fDirs[k].fName.size + bN x.fDirs[k].fQuery := rfl
 exact ⟨by omega, by omega, fun n hn => ((h.wf.2.2 _ (List.getElem_mem hk)).2.2 n hn).2.2.2.2.2.1⟩
theorem zG (x : TSnapshot) (hx : SmX x) : FnC Tryz.prog 11 [dD x] (.o (.w 9 1 ((lnX x).map dA))) := by
 have hl := hx.lens
 have la : (lnA x).length = x.fStore.fSchema.length := by simp [lnA]
 have lb : (lnB x).length = x.fStore.fSchema.length + 1 := by simp [lnB, la]
 have lc : (lnC x).length = x.fStore.fSchema.length + 1 + x.fStore.fFiles.length := by simp [lnC, lb]
 have hb : lnA x ++ [nxT x.fStore.fNextID] = lnB x := rfl
 have hc : lnB x ++ x.fStore.fFiles.map jW = lnC x := rfl
 have ha : x.fStore.fSchema.map fdT = lnA x := rfl
 have cn := dF x.fStore.fNextID hx.wf.1.2.2
 have zn := bX x.fStore.fNextID hx.wf.1.2.2
 have e1 : (⟨#[110, 101, 120, 116, 32]⟩ : ByteArray).size = 5 := rfl
 have mn : (⟨#[110, 101, 120, 116, 32]⟩ : ByteArray).size + (itoaB x.fStore.fNextID).size ≤ maxLen := by unfold maxLen; omega
 have en : (⟨#[110, 101, 120, 116, 32]⟩ : ByteArray) ++ itoaB x.fStore.fNextID = nxT x.fStore.fNextID := rfl
 have g1 : (lnA x).length + 1 ≤ 140737488355328 := by omega
 have g2 : ((lnA x).length + 1) * 16 ≤ 140737488355328 := by omega
 have cf : ∀ (k : Nat) (h : k < x.fStore.fSchema.length), FnC Tryz.prog 33 [nR x.fStore.fSchema[k]] (os (fdT x.fStore.fSchema[k])) := fun k h => a1H _ (hx.field h)
 have cg : ∀ (k : Nat) (h : k < x.fStore.fFiles.length), FnC Tryz.prog 34 [qX x.fStore.fFiles[k]] (os (jW x.fStore.fFiles[k])) := fun k h => uJ _ (hx.file h).2 (hx.file h).1
 have cd : ∀ (k : Nat) (h : k < x.fDirs.length), FnC Tryz.prog 35 [.o (.d (.sl (x.fDirs[k].fQuery.map aV)))] (os (qtx x.fDirs[k].fQuery)) := fun k h => sD _ (hx.dir h).2.1 (hx.dir h).2.2
 refine ent Tryz.func11 rfl Tryz.call11 rfl (fun C => ?_); simp only [go_sem, st0, Tryz.ntmps11]
 cases h0 : jY x
 ·have fin : lnX x = [] := by unfold lnX; rw [h0]; rfl
  have q0 := @h0; refine gG (jR x hx.sm) ?_
  exact aA ⟨⟨_, rfl, by simp only [go_sem, fin]⟩, trivial⟩
 have fin : lnC x ++ x.fDirs.map drT = lnX x := by unfold lnX; rw [h0]; rfl
 have q0 := @h0; refine gG (jR x hx.sm) ?_
 refine bC (α := Nat) (fun k => [(3, .o (.s 1)), (13, .o .u), (18, oi k)]) (fun k => [(1, .row 9 1 (((x.fStore.fSchema.take k).map fdT).map dA) true)]) (fun k => k ≤ x.fStore.fSchema.length) (fun k => x.fStore.fSchema.length - k) 0 (fun _ => ?_) ?_ ?_ (fun k hk => ?_)
 ·simp only [go_sem]
 ·simp only [go_sem]; simp
 ·simp
 simp only [go_sem]
 refine aK ?_
 refine cnd rfl (fun h => ?_) (fun h => ?_)
 ·simp only [decide_eq_true_eq, Int.ofNat_lt] at h
  have hn := mR fdT x.fStore.fSchema k h
  have l1 : ((x.fStore.fSchema.take k).map fdT).length = k := by simp; omega
  have c := cf k h
  generalize (x.fStore.fSchema.take k).map fdT = l at *
  have q1 : l.length + 1 ≤ 140737488355328 := by omega
  have q2 : (l.length + 1) * 16 ≤ 140737488355328 := by omega
  have q0 := @h; have q1 := @q1; have q2 := @q2; have q3 := @pI; refine tX c ?_
  refine aG (k + 1) ?_ ?_ ?_
  ·simp only [go_sem, hn, List.map_append]; simp [dA]
  ·exact h
  ·omega
 simp only [decide_eq_false_iff_not] at h
 have e : k = x.fStore.fSchema.length := by omega
 subst e
 rw [List.take_length, ha]
 have q0 := @mn; have q1 := @en; have q2 := @g1; have q3 := @g2; have q4 := @pI; refine qP cn ?_
 refine bC (α := Nat) (fun k => [(3, .o (.s 1)), (35, .o .u), (40, oi k)]) (fun k => [(1, .row 9 1 ((lnB x ++ (x.fStore.fFiles.take k).map jW).map dA) true)]) (fun k => k ≤ x.fStore.fFiles.length) (fun k => x.fStore.fFiles.length - k) 0 (fun _ => ?_) ?_ ?_ (fun k hk => ?_)
 ·simp only [go_sem]
 ·simp only [go_sem, ← hb, List.map_append]; simp [dA]
 ·simp
 simp only [go_sem]
 refine aK ?_
 refine cnd rfl (fun h => ?_) (fun h => ?_)
 ·simp only [decide_eq_true_eq, Int.ofNat_lt] at h
  have hn := mR jW x.fStore.fFiles k h
  have l1 : (lnB x ++ (x.fStore.fFiles.take k).map jW).length = x.fStore.fSchema.length + 1 + k := by rw [List.length_append, lb]; simp; omega
  have hn2 : lnB x ++ (x.fStore.fFiles.take (k + 1)).map jW = (lnB x ++ (x.fStore.fFiles.take k).map jW) ++ [jW x.fStore.fFiles[k]] := by rw [hn, List.append_assoc]
  have c := cg k h
  generalize lnB x ++ (x.fStore.fFiles.take k).map jW = l at *
  have q1 : l.length + 1 ≤ 140737488355328 := by omega
  have q2 : (l.length + 1) * 16 ≤ 140737488355328 := by omega
  have q0 := @h; have q1 := @q1; have q2 := @q2; have q3 := @pI; refine tX c ?_
  refine aG (k + 1) ?_ ?_ ?_
  ·simp only [go_sem, hn2]; rw [List.map_append]; simp [dA]
  ·exact h
  ·omega
 simp only [decide_eq_false_iff_not] at h
 have e : k = x.fStore.fFiles.length := by omega
 subst e
 rw [List.take_length, hc]
 refine aK ?_
 refine bC (α := Nat) (fun k => [(3, .o (.s 1)), (53, oi k)]) (fun k => [(1, .row 9 1 ((lnC x ++ (x.fDirs.take k).map drT).map dA) true)]) (fun k => k ≤ x.fDirs.length) (fun k => x.fDirs.length - k) 0 (fun _ => ?_) ?_ ?_ (fun k hk => ?_)
 ·simp only [go_sem]
 ·simp only [go_sem]; simp
 ·simp
 simp only [go_sem]
 refine aK ?_
 refine cnd rfl (fun h => ?_) (fun h => ?_)
 ·simp only [decide_eq_true_eq, Int.ofNat_lt] at h
  have hn := mR drT x.fDirs k h
  have l1 : (lnC x ++ (x.fDirs.take k).map drT).length = x.fStore.fSchema.length + 1 + x.fStore.fFiles.length + k := by rw [List.length_append, lc]; simp; omega
  have hn2 : lnC x ++ (x.fDirs.take (k + 1)).map drT = (lnC x ++ (x.fDirs.take k).map drT) ++ [drT x.fDirs[k]] := by rw [hn, List.append_assoc]
  have c := cd k h
  have hd := hx.dir h
  have zq := zI x.fDirs[k].fQuery hd.2.2
  have z1 : (⟨#[100, 105, 114, 32]⟩ : ByteArray).size = 4 := rfl
  have z2 : (⟨#[32]⟩ : ByteArray).size = 1 := rfl
  have m1 : (⟨#[100, 105, 114, 32]⟩ : ByteArray).size + x.fDirs[k].fName.size ≤ maxLen := by unfold maxLen; omega
  have m2 : ((⟨#[100, 105, 114, 32]⟩ : ByteArray) ++ x.fDirs[k].fName).size + (⟨#[32]⟩ : ByteArray).size ≤ maxLen := by unfold maxLen; simp only [ByteArray.size_append]; omega
  have m3 : ((⟨#[100, 105, 114, 32]⟩ : ByteArray) ++ x.fDirs[k].fName ++ ⟨#[32]⟩).size + (qtx x.fDirs[k].fQuery).size ≤ maxLen := by unfold maxLen; simp only [ByteArray.size_append]; omega
  have ed : drT x.fDirs[k] = (⟨#[100, 105, 114, 32]⟩ : ByteArray) ++ x.fDirs[k].fName ++ ⟨#[32]⟩ ++ qtx x.fDirs[k].fQuery := rfl
  rw [ed] at hn2
  generalize lnC x ++ (x.fDirs.take k).map drT = l at *
  have q1 : l.length + 1 ≤ 140737488355328 := by omega
  have q2 : (l.length + 1) * 16 ≤ 140737488355328 := by omega
  have qH := aI @h (aI @q1 (aI @q2 (aI @m1 (aI @m2 (aI @m3 @pI))))); repeat' (with_reducible first | refine nY ?_ | (refine mX ?_; try simp only [go_sem, qH]) | refine kD ?_ | (apply rE [7,9,10,11] [11] [0,1,2,3,4,5,6] [0,1,2,3,4,5,6] ((.c 7 [8] [0,1,2,3,4,8] (.c 9 [] [0] (.c 10 [] [] (.c 11 [] [] .n .n) .n) .n) .n)) (by simp only [go_sem]; rfl) (by simp only [go_sem]; rfl) (by simp only [go_sem]; rfl) (by decide +kernel); (focus simp only [go_sem]; done)) | exact iZ | refine fV (uX ?_) ?_ | refine fZ (aX ?_) ?_ | refine gB (aX ?_) ?_ | exact fU | exact oH | exact uB | refine rD ?_ | refine cP c ?_ | refine aO ?_ | fail)
  refine aG (k + 1) ?_ ?_ ?_
  ·simp only [go_sem, hn2]; rw [List.map_append]; simp [dA]
  ·exact h
  ·omega
 simp only [decide_eq_false_iff_not] at h
 have e : k = x.fDirs.length := by omega
 subst e
 rw [List.take_length, fin]
 refine aK ?_
 exact aA ⟨⟨_, rfl, by simp only [go_sem]⟩, trivial⟩
theorem zH (x : TSnapshot) (hx : SmX x) : FnC Tryz.prog 10 [dD x] (.o (.w 9 1 ((lnX x).map dA))) := by
 have hl := hx.lens
 have la : (lnA x).length = x.fStore.fSchema.length := by simp [lnA]
 have lb : (lnB x).length = x.fStore.fSchema.length + 1 := by simp [lnB, la]
 have lc : (lnC x).length = x.fStore.fSchema.length + 1 + x.fStore.fFiles.length := by simp [lnC, lb]
 have hb : lnA x ++ [nxT x.fStore.fNextID] = lnB x := rfl
 have hc : lnB x ++ x.fStore.fFiles.map jW = lnC x := rfl
 have ha : x.fStore.fSchema.map fdT = lnA x := rfl
 have cn := dG x.fStore.fNextID hx.wf.1.2.2
 have zn := bX x.fStore.fNextID hx.wf.1.2.2
 have e1 : (⟨#[110, 101, 120, 116, 32]⟩ : ByteArray).size = 5 := rfl
 have mn : (⟨#[110, 101, 120, 116, 32]⟩ : ByteArray).size + (itoaB x.fStore.fNextID).size ≤ maxLen := by unfold maxLen; omega
 have en : (⟨#[110, 101, 120, 116, 32]⟩ : ByteArray) ++ itoaB x.fStore.fNextID = nxT x.fStore.fNextID := rfl
 have g1 : (lnA x).length + 1 ≤ 140737488355328 := by omega
 have g2 : ((lnA x).length + 1) * 16 ≤ 140737488355328 := by omega
 have cf : ∀ (k : Nat) (h : k < x.fStore.fSchema.length), FnC Tryz.prog 30 [nR x.fStore.fSchema[k]] (os (fdT x.fStore.fSchema[k])) := fun k h => a1I _ (hx.field h)
 have cg : ∀ (k : Nat) (h : k < x.fStore.fFiles.length), FnC Tryz.prog 31 [qX x.fStore.fFiles[k]] (os (jW x.fStore.fFiles[k])) := fun k h => uK _ (hx.file h).2 (hx.file h).1
 have cd : ∀ (k : Nat) (h : k < x.fDirs.length), FnC Tryz.prog 32 [.o (.d (.sl (x.fDirs[k].fQuery.map aV)))] (os (qtx x.fDirs[k].fQuery)) := fun k h => sF _ (hx.dir h).2.1 (hx.dir h).2.2
 refine ent Tryz.func10 rfl Tryz.call10 rfl (fun C => ?_); simp only [go_sem, st0, Tryz.ntmps10]
 cases h0 : jY x
 ·have fin : lnX x = [] := by unfold lnX; rw [h0]; rfl
  have q0 := @h0; refine gG (jS x hx.sm) ?_
  exact aA ⟨⟨_, rfl, by simp only [go_sem, fin]⟩, trivial⟩
 have fin : lnC x ++ x.fDirs.map drT = lnX x := by unfold lnX; rw [h0]; rfl
 have q0 := @h0; refine gG (jS x hx.sm) ?_
 refine bC (α := Nat) (fun k => [(3, .o (.s 1)), (7, .o .u), (4, oi k)]) (fun k => [(1, .row 9 1 (((x.fStore.fSchema.take k).map fdT).map dA) true)]) (fun k => k ≤ x.fStore.fSchema.length) (fun k => x.fStore.fSchema.length - k) 0 (fun _ => ?_) ?_ ?_ (fun k hk => ?_)
 ·simp only [go_sem]
 ·simp only [go_sem]; simp
 ·simp
 simp only [go_sem]
 refine aK ?_
 refine cnd rfl (fun h => ?_) (fun h => ?_)
 ·simp only [decide_eq_true_eq, Int.ofNat_lt] at h
  have hn := mR fdT x.fStore.fSchema k h
  have l1 : ((x.fStore.fSchema.take k).map fdT).length = k := by simp; omega
  have c := cf k h
  generalize (x.fStore.fSchema.take k).map fdT = l at *
  have q1 : l.length + 1 ≤ 140737488355328 := by omega
  have q2 : (l.length + 1) * 16 ≤ 140737488355328 := by omega
  have q0 := @h; have q1 := @q1; have q2 := @q2; have q3 := @pI; refine tX c ?_
  refine aG (k + 1) ?_ ?_ ?_
  ·simp only [go_sem, hn, List.map_append]; simp [dA]
  ·exact h
  ·omega
 simp only [decide_eq_false_iff_not] at h
 have e : k = x.fStore.fSchema.length := by omega
 subst e
 rw [List.take_length, ha]
 have q0 := @mn; have q1 := @en; have q2 := @g1; have q3 := @g2; have q4 := @pI; refine qP cn ?_
 refine bC (α := Nat) (fun k => [(3, .o (.s 1)), (37, .o .u), (5, oi k)]) (fun k => [(1, .row 9 1 ((lnB x ++ (x.fStore.fFiles.take k).map jW).map dA) true)]) (fun k => k ≤ x.fStore.fFiles.length) (fun k => x.fStore.fFiles.length - k) 0 (fun _ => ?_) ?_ ?_ (fun k hk => ?_)
 ·simp only [go_sem]
 ·simp only [go_sem, ← hb, List.map_append]; simp [dA]
 ·simp
 simp only [go_sem]
 refine aK ?_
 refine cnd rfl (fun h => ?_) (fun h => ?_)
 ·simp only [decide_eq_true_eq, Int.ofNat_lt] at h
  have hn := mR jW x.fStore.fFiles k h
  have l1 : (lnB x ++ (x.fStore.fFiles.take k).map jW).length = x.fStore.fSchema.length + 1 + k := by rw [List.length_append, lb]; simp; omega
  have hn2 : lnB x ++ (x.fStore.fFiles.take (k + 1)).map jW = (lnB x ++ (x.fStore.fFiles.take k).map jW) ++ [jW x.fStore.fFiles[k]] := by rw [hn, List.append_assoc]
  have c := cg k h
  generalize lnB x ++ (x.fStore.fFiles.take k).map jW = l at *
  have q1 : l.length + 1 ≤ 140737488355328 := by omega
  have q2 : (l.length + 1) * 16 ≤ 140737488355328 := by omega
  have q0 := @h; have q1 := @q1; have q2 := @q2; have q3 := @pI; refine tX c ?_
  refine aG (k + 1) ?_ ?_ ?_
  ·simp only [go_sem, hn2]; rw [List.map_append]; simp [dA]
  ·exact h
  ·omega
 simp only [decide_eq_false_iff_not] at h
 have e : k = x.fStore.fFiles.length := by omega
 subst e
 rw [List.take_length, hc]
 refine aK ?_
 refine bC (α := Nat) (fun k => [(3, .o (.s 1)), (6, oi k)]) (fun k => [(1, .row 9 1 ((lnC x ++ (x.fDirs.take k).map drT).map dA) true)]) (fun k => k ≤ x.fDirs.length) (fun k => x.fDirs.length - k) 0 (fun _ => ?_) ?_ ?_ (fun k hk => ?_)
 ·simp only [go_sem]
 ·simp only [go_sem]; simp
 ·simp
 simp only [go_sem]
 refine aK ?_
 refine cnd rfl (fun h => ?_) (fun h => ?_)
 ·simp only [decide_eq_true_eq, Int.ofNat_lt] at h
  have hn := mR drT x.fDirs k h
  have l1 : (lnC x ++ (x.fDirs.take k).map drT).length = x.fStore.fSchema.length + 1 + x.fStore.fFiles.length + k := by rw [List.length_append, lc]; simp; omega
  have hn2 : lnC x ++ (x.fDirs.take (k + 1)).map drT = (lnC x ++ (x.fDirs.take k).map drT) ++ [drT x.fDirs[k]] := by rw [hn, List.append_assoc]
  have c := cd k h
  have hd := hx.dir h
  have zq := zI x.fDirs[k].fQuery hd.2.2
  have z1 : (⟨#[100, 105, 114, 32]⟩ : ByteArray).size = 4 := rfl
  have z2 : (⟨#[32]⟩ : ByteArray).size = 1 := rfl
  have m1 : (⟨#[100, 105, 114, 32]⟩ : ByteArray).size + x.fDirs[k].fName.size ≤ maxLen := by unfold maxLen; omega
  have m2 : ((⟨#[100, 105, 114, 32]⟩ : ByteArray) ++ x.fDirs[k].fName).size + (⟨#[32]⟩ : ByteArray).size ≤ maxLen := by unfold maxLen; simp only [ByteArray.size_append]; omega
  have m3 : ((⟨#[100, 105, 114, 32]⟩ : ByteArray) ++ x.fDirs[k].fName ++ ⟨#[32]⟩).size + (qtx x.fDirs[k].fQuery).size ≤ maxLen := by unfold maxLen; simp only [ByteArray.size_append]; omega
  have ed : drT x.fDirs[k] = (⟨#[100, 105, 114, 32]⟩ : ByteArray) ++ x.fDirs[k].fName ++ ⟨#[32]⟩ ++ qtx x.fDirs[k].fQuery := rfl
  rw [ed] at hn2
  generalize lnC x ++ (x.fDirs.take k).map drT = l at *
  have q1 : l.length + 1 ≤ 140737488355328 := by omega
  have q2 : (l.length + 1) * 16 ≤ 140737488355328 := by omega
  have qH := aI @h (aI @q1 (aI @q2 (aI @m1 (aI @m2 (aI @m3 @pI))))); repeat' (with_reducible first | refine nY ?_ | (refine mX ?_; try simp only [go_sem, qH]) | refine kD ?_ | (apply rE [15,17,18,19] [19] [0,1,2,3,4,5,6,7,8,9,10,11,12,13,14] [0,1,2,3,4,5,6,7,8,9,10,11,12,13,14] ((.c 15 [16] [0,1,2,3,4,5,6,7,8,16] (.c 17 [] [0,1,2,3,4] (.c 18 [] [1,2,3,4] (.c 19 [] [] .n .n) .n) .n) .n)) (by simp only [go_sem]; rfl) (by simp only [go_sem]; rfl) (by simp only [go_sem]; rfl) (by decide +kernel); (focus simp only [go_sem]; done)) | exact iZ | refine fV (uX ?_) ?_ | refine fZ (aX ?_) ?_ | refine gB (aX ?_) ?_ | exact fU | exact oH | exact uB | refine rD ?_ | refine cP c ?_ | refine aO ?_ | fail)
  refine aG (k + 1) ?_ ?_ ?_
  ·simp only [go_sem, hn2]; rw [List.map_append]; simp [dA]
  ·exact h
  ·omega
 simp only [decide_eq_false_iff_not] at h
 have e : k = x.fDirs.length := by omega
 subst e
 rw [List.take_length, fin]
 refine aK ?_
 exact aA ⟨⟨_, rfl, by simp only [go_sem]⟩, trivial⟩
theorem a1J (x : TSnapshot) (hx : SmX x) : (lnX x).length ≤ 1048577 := by
 have hl := hx.lens
 unfold lnX
 split
 ·simp only [lnC, lnB, lnA, List.length_append, List.length_map, List.length_cons, List.length_nil]; omega
 ·simp
theorem wI (x : TSnapshot) (hx : SmX x) : FnC Tryz.prog 11 [dD x] (.o (.d (.sl ((lnX x).map dA)))) := (zG x hx).pu (by simp only [go_sem, and_self])
theorem wJ (x : TSnapshot) (hx : SmX x) : FnC Tryz.prog 10 [dD x] (.o (.d (.sl ((lnX x).map dA)))) := (zH x hx).pu (by simp only [go_sem, and_self])
theorem a5V (x : TSnapshot) (hf : iK x) : FnC Tryz.prog 4 [dD x] (ob true) := by
 refine ent Tryz.func4 rfl Tryz.call4 rfl (fun C => ?_); simp only [go_sem, st0, Tryz.ntmps4]
 have hz := qW x 1048576 (by omega) hf
 by_cases h : bK 1048576 (bD x) < 0
 ·have q0 := @h; refine gG hz ?_
  exact aA ⟨⟨_, rfl, by simp only [go_sem]⟩, trivial⟩
 have hs : bD x ≤ 1048576 := by have := a2F h; omega
 have hx : SmX x := ⟨hf, hs⟩
 have len := a1J x hx
 have hs' := hs
 unfold bD dE aM eZ eX at hs'
 have hc1 := a6g x.fStore.fSchema
 have hc2 := a7E x.fStore.fFiles
 have hc3 := a8D x.fDirs
 have hr := a8C (lnX x)
 have e1 := zH x hx
 have e2 := zG x hx
 have e3 := wJ x hx
 have e4 := wI x hx
 generalize lnX x = nm at *
 have hk1 : ¬ ((1 : Int) + (csum cnField x.fStore.fSchema : Nat) + (csum cnFile x.fStore.fFiles : Nat) + (csum cnDir x.fDirs : Nat) < 0) := by omega
 have hk2 : ¬ ((1 : Int) + (csum cnStr nm : Nat) < 0) := by omega
 have qH := aI @h (aI @hk1 (aI @hk2 @pI)); repeat' (with_reducible first | refine nY ?_ | (refine mX ?_; try simp only [go_sem, qH]) | refine kD ?_ | refine rD ?_ | refine cP hz ?_ | refine vO (jM x hs) ?_ | refine vQ (jM x hs) ?_ | refine vO e1 ?_ | refine vQ e1 ?_ | refine vO e2 ?_ | refine vQ e2 ?_ | refine vO (a0H nm (by omega)) ?_ | refine vQ (a0H nm (by omega)) ?_ | refine vO (lU x (by omega)) ?_ | refine vQ (lU x (by omega)) ?_ | refine vM (wU x _ (by omega)) ?_ | refine vM (zX nm _ (by omega)) ?_ | refine vO (pU nm 1 (by omega)) ?_ | refine vQ (pU nm 1 (by omega)) ?_ | refine cP (pJ x hs) ?_ | refine cP e3 ?_ | refine cP e4 ?_ | refine aO ?_ | fail)
 exact aA ⟨⟨_, rfl, by simp only [go_sem]⟩, trivial⟩
end Go.Proofs.YtdjgfffnaakehaaGreatDoor
end
