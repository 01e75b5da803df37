/-
  l04Put, the attributes' names.
-/
import Derived.Test.YtgglopecipbbfaaGreatK2Once
import Derived.Test.YtgglopecipbbfaaGreatC5Get
set_option linter.all false
set_option maxRecDepth 100000
set_option maxHeartbeats 4000000
namespace Go.Proofs.YtgglopecipbbfaaGreat
open Go Go.Sx Go.RowKit Go.Proofs

theorem uniS (l : List ByteArray) : ∀ r ∈ l.map encS, r.length = 1 := by intro r hr; obtain ⟨x, _, rfl⟩ := List.mem_map.1 hr; rfl
theorem l04Put_ok (l : List ByteArray) (s : ByteArray) (hl : l.length ≤ 4300000) : FnC Tryz.prog 195 [.o (.d (.sl (l.map encS))), os s] (.o (.d (.sl ((putS l s).map encS)))) := by
  have hle := fstIx_le (geS s) l
  refine ent Tryz.func195 rfl Tryz.call195 rfl (fun C => ?_); simp only [go_sem, st0, Tryz.ntmps195]
  repeat' (with_reducible first | refine nY ?_ | (refine mX ?_; try simp only [go_sem]) | refine kO ?_ (by decide) | (refine regx (by simp only [bodyX, isStX, Bool.false_eq_true, if_false, if_true]; rfl) (by kernel_rfl) (by kernel_rfl) (by decide) ?_ ?_ ?_; (focus simp only [go_sem]; done); (focus simp only [go_sem]; done)) | refine xE ?_ (by simp only [tailX, isStX, Bool.false_eq_true, if_false, if_true]; rfl) (by simp only [go_sem]; rfl) | refine regd (by kernel_rfl) ?_ | (refine And.intro ?_ ?_; focus omega))
  refine WP_lp (α := Nat) (fun k => [(5, oi k)]) (fun _ => []) (fun k => k ≤ l.length ∧ fstIx (geS s) l = k + fstIx (geS s) (l.drop k)) (fun k => l.length - k) 0 (fun _ => ?_) ?_ ?_ (fun k hk => ?_)
  · simp only [go_sem]
  · simp only [go_sem]; simp
  · simp
  · obtain ⟨hk, hf⟩ := hk
    simp only [go_sem]
    by_cases h1 : k < l.length
    · have hfx := fstIx_at' (geS s) l k h1 hf
      have h1' : ((k : Int) < (l.length : Int)) = True := by simp [h1]
      repeat' (with_reducible first | refine nY ?_ | (refine mX ?_; try simp only [go_sem, h1, h1', decide_true]) | refine kO ?_ (by decide) | (refine regx (by simp only [bodyX, isStX, Bool.false_eq_true, if_false, if_true]; rfl) (by kernel_rfl) (by kernel_rfl) (by decide) ?_ ?_ ?_; (focus simp only [go_sem]; done); (focus simp only [go_sem]; done)) | refine xE ?_ (by simp only [tailX, isStX, Bool.false_eq_true, if_false, if_true]; rfl) (by simp only [go_sem]; rfl) | refine regd (by kernel_rfl) ?_ | (refine And.intro ?_ ?_; focus omega))
      refine cnd (b := strLt l[k] s) rfl (fun h2 => ?_) (fun h2 => ?_)
      · rw [if_neg (by simp [geS, h2])] at hfx
        repeat' (with_reducible first | refine nY ?_ | (refine mX ?_; try simp only [go_sem]) | refine kO ?_ (by decide) | (refine regx (by simp only [bodyX, isStX, Bool.false_eq_true, if_false, if_true]; rfl) (by kernel_rfl) (by kernel_rfl) (by decide) ?_ ?_ ?_; (focus simp only [go_sem]; done); (focus simp only [go_sem]; done)) | refine xE ?_ (by simp only [tailX, isStX, Bool.false_eq_true, if_false, if_true]; rfl) (by simp only [go_sem]; rfl) | refine regd (by kernel_rfl) ?_ | (refine And.intro ?_ ?_; focus omega))
        refine L_next (k + 1) ?_ ?_ ?_
        · simp only [go_sem]; simp
        · exact ⟨by omega, hfx⟩
        · omega
      · rw [if_pos (by simp [geS, h2])] at hfx
        have hd := List.drop_eq_getElem_cons h1
        by_cases h3 : l[k] = s
        · have hput : putS l s = l := by unfold putS; rw [hfx, hd]; simp [h3]
          repeat' (with_reducible first | refine nY ?_ | (refine mX ?_; try simp only [go_sem, h1, h1', h3, decide_true]) | refine kO ?_ (by decide) | (refine regx (by simp only [bodyX, isStX, Bool.false_eq_true, if_false, if_true]; rfl) (by kernel_rfl) (by kernel_rfl) (by decide) ?_ ?_ ?_; (focus simp only [go_sem]; done); (focus simp only [go_sem]; done)) | refine xE ?_ (by simp only [tailX, isStX, Bool.false_eq_true, if_false, if_true]; rfl) (by simp only [go_sem]; rfl) | refine regd (by kernel_rfl) ?_ | (refine And.intro ?_ ?_; focus omega))
          exact retK_ret ⟨⟨_, rfl, by simp only [go_sem, hput]⟩, trivial⟩
        · have hput : putS l s = insAt k s l := by unfold putS; rw [hfx, hd]; exact if_neg (fun h => h3 (Option.some.inj h))
          have hn1 : ((0 : Int) ≤ (k : Int)) := by omega
          repeat' (with_reducible first | refine nY ?_ | (refine mX ?_; try simp only [go_sem, h1, h1', h3, hn1, decide_true, decide_false, take_mapS, drop_mapS, List.length_take, List.length_drop, List.length_append]) | refine kO ?_ (by decide) | (refine regx (by simp only [bodyX, isStX, Bool.false_eq_true, if_false, if_true]; rfl) (by kernel_rfl) (by kernel_rfl) (by decide) ?_ ?_ ?_; (focus simp only [go_sem]; done); (focus simp only [go_sem]; done)) | refine xE ?_ (by simp only [tailX, isStX, Bool.false_eq_true, if_false, if_true]; rfl) (by simp only [go_sem]; rfl) | refine regd (by kernel_rfl) ?_ | (refine And.intro ?_ ?_; focus omega))
          refine ⟨uniS l, by omega, by omega, by omega, ?_⟩
          repeat' (with_reducible first | refine nY ?_ | (refine mX ?_; try simp only [go_sem, take_mapS, drop_mapS, List.length_take, List.length_drop, List.length_append]) | refine kO ?_ (by decide) | (refine regx (by simp only [bodyX, isStX, Bool.false_eq_true, if_false, if_true]; rfl) (by kernel_rfl) (by kernel_rfl) (by decide) ?_ ?_ ?_; (focus simp only [go_sem]; done); (focus simp only [go_sem]; done)) | refine xE ?_ (by simp only [tailX, isStX, Bool.false_eq_true, if_false, if_true]; rfl) (by simp only [go_sem]; rfl) | refine regd (by kernel_rfl) ?_ | (refine And.intro ?_ ?_; focus omega))
          refine ⟨uniS l, by omega, by omega, by omega, ?_⟩
          repeat' (with_reducible first | refine nY ?_ | (refine mX ?_; try simp only [go_sem, take_mapS, drop_mapS, List.length_take, List.length_drop, List.length_append]) | refine kO ?_ (by decide) | (refine regx (by simp only [bodyX, isStX, Bool.false_eq_true, if_false, if_true]; rfl) (by kernel_rfl) (by kernel_rfl) (by decide) ?_ ?_ ?_; (focus simp only [go_sem]; done); (focus simp only [go_sem]; done)) | refine xE ?_ (by simp only [tailX, isStX, Bool.false_eq_true, if_false, if_true]; rfl) (by simp only [go_sem]; rfl) | refine regd (by kernel_rfl) ?_ | (refine And.intro ?_ ?_; focus omega))
          refine retK_sees (Sees.frz 0 rfl) ?_
          simp only [go_sem]
          exact retK_ret ⟨⟨_, rfl, by simp only [go_sem, hput, insAt, List.take_length, List.map_append, List.map_cons, List.append_assoc, List.cons_append, List.nil_append]⟩, trivial⟩
    · have e : k = l.length := by omega
      have hfx : fstIx (geS s) l = k := by rw [hf, e, List.drop_length]; rfl
      have hput : putS l s = insAt k s l := by unfold putS; rw [hfx, e, List.drop_length]; simp
      have h1' : ((k : Int) < (l.length : Int)) = False := by simp [h1]
      repeat' (with_reducible first | refine nY ?_ | (refine mX ?_; try simp only [go_sem, h1, h1', decide_false, take_mapS, drop_mapS, List.length_take, List.length_drop, List.length_append]) | refine kO ?_ (by decide) | (refine regx (by simp only [bodyX, isStX, Bool.false_eq_true, if_false, if_true]; rfl) (by kernel_rfl) (by kernel_rfl) (by decide) ?_ ?_ ?_; (focus simp only [go_sem]; done); (focus simp only [go_sem]; done)) | refine xE ?_ (by simp only [tailX, isStX, Bool.false_eq_true, if_false, if_true]; rfl) (by simp only [go_sem]; rfl) | refine regd (by kernel_rfl) ?_ | (refine And.intro ?_ ?_; focus omega))
      refine ⟨uniS l, by omega, by omega, by omega, ?_⟩
      repeat' (with_reducible first | refine nY ?_ | (refine mX ?_; try simp only [go_sem, take_mapS, drop_mapS, List.length_take, List.length_drop, List.length_append]) | refine kO ?_ (by decide) | (refine regx (by simp only [bodyX, isStX, Bool.false_eq_true, if_false, if_true]; rfl) (by kernel_rfl) (by kernel_rfl) (by decide) ?_ ?_ ?_; (focus simp only [go_sem]; done); (focus simp only [go_sem]; done)) | refine xE ?_ (by simp only [tailX, isStX, Bool.false_eq_true, if_false, if_true]; rfl) (by simp only [go_sem]; rfl) | refine regd (by kernel_rfl) ?_ | (refine And.intro ?_ ?_; focus omega))
      refine ⟨uniS l, by omega, by omega, by omega, ?_⟩
      repeat' (with_reducible first | refine nY ?_ | (refine mX ?_; try simp only [go_sem, take_mapS, drop_mapS, List.length_take, List.length_drop, List.length_append]) | refine kO ?_ (by decide) | (refine regx (by simp only [bodyX, isStX, Bool.false_eq_true, if_false, if_true]; rfl) (by kernel_rfl) (by kernel_rfl) (by decide) ?_ ?_ ?_; (focus simp only [go_sem]; done); (focus simp only [go_sem]; done)) | refine xE ?_ (by simp only [tailX, isStX, Bool.false_eq_true, if_false, if_true]; rfl) (by simp only [go_sem]; rfl) | refine regd (by kernel_rfl) ?_ | (refine And.intro ?_ ?_; focus omega))
      refine retK_sees (Sees.frz 0 rfl) ?_
      simp only [go_sem]
      exact retK_ret ⟨⟨_, rfl, by simp only [go_sem, hput, insAt, List.take_length, List.map_append, List.map_cons, List.append_assoc, List.cons_append, List.nil_append]⟩, trivial⟩
def attrNs (l : List TAttr) : List ByteArray := l.map TAttr.fName
def eqV (x v : TValue) : Bool := decide (x.fKind = v.fKind) && (decide (x.fInt = v.fInt) && decide (x.fStr = v.fStr))
def changed (a b : TFile) (n : ByteArray) : Bool := !(eqV (getAttr n a.fAttrs) (getAttr n b.fAttrs))
def chL (a b : TFile) (l : List ByteArray) : List ByteArray := l.filter (changed a b)
def chg (a b : TFile) : List ByteArray := chL a b (attrNs a.fAttrs ++ attrNs b.fAttrs)
end Go.Proofs.YtgglopecipbbfaaGreat
