/-
  string(b) of a slice of bytes.
-/
import Derived.Test.YteganoldfldlhaaB1Eapp
import Derived.Laws.BytesString
set_option linter.all false
namespace Go.Sx
open Go Go.RowKit

theorem bytesR_flat : ∀ {rows : List (List D)} {ns : List Int}, bytesR rows = some ns → rows.flatten = ns.map (fun n => D.v (.int .u8 n)) ∧ rows.length = ns.length
  | [], ns, h => by simp only [bytesR, Option.some.injEq] at h; subst h; exact ⟨rfl, rfl⟩
  | r :: rs, ns, h => by
    simp only [bytesR] at h
    split at h
    · simp only [Option.map_eq_some_iff] at h
      obtain ⟨ms, h1, rfl⟩ := h
      obtain ⟨e1, e2⟩ := bytesR_flat h1
      exact ⟨by simp [e1], by simp [e2]⟩
    · cases h
theorem foldl_push (ns : List Int) : ∀ s : ByteArray, ns.foldl (fun r n => r.push (UInt8.ofNat n.toNat)) s = ⟨s.data ++ (ns.map fun n => UInt8.ofNat n.toNat).toArray⟩ := by
  induction ns with
  | nil => intro s; simp
  | cons n ns ih =>
    intro s
    rw [List.foldl_cons, ih]
    simp [ByteArray.push]

theorem LayL_bytes {V : View} {ns : List Int} {ys : List Value} {Ss : List (List Nat)} (h : LayL V (ns.map (fun n => D.v (.int .u8 n))) ys Ss) : ys = ns.map (Value.int .u8) := by
  refine List.ext_getElem? fun k => ?_
  rw [List.getElem?_map]
  cases hk : ns[k]? with
  | none =>
    have : ns.length ≤ k := List.getElem?_eq_none_iff.1 hk
    simp [List.getElem?_eq_none_iff, h.1, this]
  | some n =>
    have hlt : k < ns.length := (List.getElem?_eq_some_iff.1 hk).1
    have hy : k < ys.length := by rw [h.1]; simpa using hlt
    have hS : k < Ss.length := by rw [h.2.1]; simpa using hlt
    have hl := h.2.2 k (D.v (.int .u8 n)) ys[k] Ss[k] (by simp [hk]) (List.getElem?_eq_getElem hy) (List.getElem?_eq_getElem hS)
    rw [List.getElem?_eq_getElem hy]
    have key : ∀ (y : Value) (S : List Nat), Lay V (D.v (.int .u8 n)) y S → y = .int .u8 n := fun y S h => by cases h; rfl
    rw [key _ _ hl]
    rfl

section
variable {E : Env} {o : Oper} {st : St} {k : St → SV → Prop} {g : List Gh} {V : View} {a : Act} {w : World} {K : Act → World → Prop} {Q : Exit → Act → World → Prop}

theorem add0 (b j : Nat) : (Addr.add ⟨b, 0, none⟩ j) = ⟨b, j, none⟩ := by
  unfold Addr.add
  split <;> simp_all
theorem rows_load {P : Program} {C : Ctx} {s : SV} {y : Value} {rows : List (List D)} {ns : List Int} (hr : Rel C g V st a w) (h : rowsOf st s = some rows) (hc : cSV g V s y) (hb : bytesR rows = some ns) :
    (y = .slice none 0 0 ∧ ns = []) ∨ ∃ ad cap, y = .slice (some ad) ns.length cap ∧ (loadCells ad ns.length).run P w = .ok (ns.map (Value.int .u8)).toArray w := by
  obtain ⟨f1, f2⟩ := bytesR_flat hb
  have key : ∀ {S : List Nat}, Lay V (.sl rows) y S → (y = .slice none 0 0 ∧ ns = []) ∨ ∃ ad cap, y = .slice (some ad) ns.length cap ∧ (loadCells ad ns.length).run P w = .ok (ns.map (Value.int .u8)).toArray w := by
    intro S hL
    cases hL with
    | nil => exact .inl ⟨rfl, List.eq_nil_of_length_eq_zero (by simpa using f2.symm)⟩
    | sl rows ad cap sz ys Ss hsz hcap hmax hy hS hcc hl =>
      have hys : ys = ns.map (Value.int .u8) := LayL_bytes (V := V) (Ss := Ss) (by rw [← f1]; exact ⟨hy, hS, hl⟩)
      refine .inr ⟨ad, cap, by rw [f2], ?_⟩
      have := run_loadCells_list (P := P) w ad ys (fun j v hj => hr.mod.cell (hcc j v hj))
      rwa [hys, List.length_map] at this
  unfold rowsOf at h
  split at h
  · cases h
    obtain ⟨S, hL⟩ := hc
    exact key hL
  · cases h
    have hc : y = _ := hc
    exact .inl ⟨hc, List.eq_nil_of_length_eq_zero (by simpa using f2.symm)⟩
  · rename_i id
    obtain ⟨gh, hg, hv, _⟩ := hc
    split at h
    · rename_i ty sz rows' lin e
      cases h
      obtain ⟨h0, ys, Ss, q1, q2, q3⟩ := hr.hp.hb id _ gh (nthH_some e (by simp)) hg
      rcases q3 with ⟨e1, ⟨ao, e2⟩, e3⟩ | ⟨b, cap, c, e1, e2, e3, e4, e5, e6, e7⟩
      · subst e3
        have hns := List.eq_nil_of_length_eq_zero (show _ = 0 by simpa using f2.symm)
        cases ao with
        | none => exact .inl ⟨by rw [hv, e2], hns⟩
        | some ad =>
          rw [f1] at q1
          have hys := LayL_bytes q1
          refine .inr ⟨ad, 0, by rw [hv, e2, hns]; rfl, ?_⟩
          have := run_loadCells_list (P := P) w ad [] (fun j v hj => by simp at hj)
          rw [hns]
          simpa using this
      · rw [f1] at q1
        have hys := LayL_bytes q1
        refine .inr ⟨⟨b, 0, none⟩, cap, by rw [hv, e2, f2], ?_⟩
        have := run_loadCells_list (P := P) w ⟨b, 0, none⟩ ys (fun j v hj => by
          rw [add0]
          have h1 := prefix_get e7 hj
          simp only [World.cell?, e5]
          simpa using h1)
        rwa [hys, List.length_map] at this
    · rename_i rows' lin e
      cases h
      obtain ⟨_, S, hL, _⟩ := hr.hp.hb id _ gh (nthH_some e (by simp)) hg
      rw [← hv] at hL
      exact key hL
    · cases h
  · cases h

theorem convS_ok (hT : TyOK E.P E.T) {src dst : Nat} {x : Operand} (ho : o.op = .convert src dst x) (h : vcConvS E src dst (ev st x) st k) (hr : Rel E.C g V st a w) (hK : Next' E o a k K) : o.wp E.P a w K Q := by
  have hx := ev_ok hr.sl x
  obtain ⟨h1, h2, h3, h4, h⟩ := h
  obtain ⟨i, z, u, hs⟩ := hT.good (t := src) (by rw [h1]; decide)
  obtain ⟨i', z', u', hd⟩ := hT.good (t := dst) (by rw [h4]; decide)
  obtain ⟨i2, z2, u2, he⟩ := hT.good (t := (E.T src).elem) (by rw [h2]; decide)
  have us := hs.und
  have ud := hd.und
  have ue := he.und
  rw [hs.slice h1] at us
  rw [hd.string h4] at ud
  rw [he.int h2, h3] at ue
  split at h
  · rename_i rows hrows
    split at h
    · rename_i ns hns
      refine wp_value (w' := w) (y := .string (strOf ns)) ?_ (hK g V st w _ _ hr (scalar_ok g V _ rfl) h)
      simp only [execOp, ho]
      refine execOp_value _ _ _ _ _ ?_
      rcases rows_load (P := E.P) hr hrows hx hns with ⟨e1, e2⟩ | ⟨ad, cap, e1, e2⟩
      · subst e2
        rw [e1, run_convert_bytes_string w src dst _ none 0 0 us ue ud]
        simp [Conv.bytesToString, strOf]
        rfl
      · rw [e1, run_convert_bytes_string w src dst _ (some ad) ns.length cap us ue ud, run_bytesToString w ad ns.length cap ns e2, foldl_push]
        simp [strOf]
    · exact h.elim
  · exact h.elim
end
end Go.Sx
