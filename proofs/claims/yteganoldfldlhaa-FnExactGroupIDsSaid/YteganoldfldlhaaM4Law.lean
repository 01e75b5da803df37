/-
  Bounds of what mark and held count.
-/
import Derived.Test.YteganoldfldlhaaM3Struct
set_option linter.all false
namespace Go.Proofs.Yteganoldfldlhaa
open Go Go.Sx Go.RowKit Go.Proofs

theorem csum_bound {α : Type} (cn w : α → Nat) (c : Nat) (hx : ∀ x, cn x ≤ c * (1 + w x)) : ∀ l : List α, csum cn l ≤ c * (l.length + wsum w l)
  | [] => by simp [csum]
  | x :: l => by
    have h1 := csum_bound cn w c hx l
    have h2 := hx x
    simp only [csum, wsum, List.length_cons]
    have : c * (l.length + 1 + (w x + wsum w l)) = c * (1 + w x) + c * (l.length + wsum w l) := by rw [← Nat.mul_add]; congr 1; omega
    omega
theorem csum_const {α : Type} (cn : α → Nat) (c : Nat) (hx : ∀ x, cn x = c) : ∀ l : List α, csum cn l = c * l.length
  | [] => by simp [csum]
  | x :: l => by
    have h1 := csum_const cn c hx l
    simp only [csum, List.length_cons, hx, h1, Nat.mul_add]; omega
theorem csumInt (l : List Int) : csum cnInt l = l.length := by rw [csum_const cnInt 1 (fun _ => rfl)]; omega
theorem csumStr (l : List ByteArray) : csum cnStr l = l.length := by rw [csum_const cnStr 1 (fun _ => rfl)]; omega
theorem csumField (l : List TField) : csum cnField l = 2 * l.length := csum_const cnField 2 (fun _ => rfl) l
theorem csumAttr (l : List TAttr) : csum cnAttr l = 4 * l.length := csum_const cnAttr 4 (fun _ => rfl) l
theorem csumNode (l : List TNode) : csum cnNode l = 7 * l.length := csum_const cnNode 7 (fun _ => rfl) l
theorem csumGroup (l : List TGroup) : csum cnGroup l ≤ 3 * (l.length + wsum wGroup l) := csum_bound cnGroup wGroup 3 (fun x => by
  unfold cnGroup wGroup; rw [csumInt]; omega) l
theorem csumFile (l : List TFile) : csum cnFile l ≤ 4 * (l.length + wsum wFile l) := csum_bound cnFile wFile 4 (fun x => by
  unfold cnFile wFile wAttrS; rw [csumAttr]; omega) l
theorem csumDir (l : List TDir) : csum cnDir l ≤ 7 * (l.length + wsum wDir l) := csum_bound cnDir wDir 7 (fun x => by
  unfold cnDir wDir wNodeS; rw [csumNode]; omega) l
theorem csumResult (l : List TResult) : csum cnResult l ≤ 1 * (l.length + wsum wResult l) := csum_bound cnResult wResult 1 (fun x => by
  unfold cnResult wResult; rw [csumInt]; omega) l
theorem csumDiff (l : List TDiff) : csum cnDiff l ≤ 1 * (l.length + wsum wDiff l) := csum_bound cnDiff wDiff 1 (fun x => by
  unfold cnDiff wDiff; rw [csumInt, csumInt]; omega) l
theorem csumChange (l : List TChange) : csum cnChange l ≤ 7 * (l.length + wsum wChange l) := csum_bound cnChange wChange 7 (fun x => by
  unfold cnChange wChange wFile wDir wAttrS wNodeS; rw [csumAttr, csumNode]; omega) l
end Go.Proofs.Yteganoldfldlhaa
