/- Joined texts. -/
import Derived.Test.YtakopfjdmmnjcaaGreatZ04
import Derived.KernelRfl
import Derived.Test.YtakopfjdmmnjcaaGreatProg
import Derived.Test.YtakopfjdmmnjcaaGreatZ03
set_option linter.all false
section
namespace Go.Sx
open Go Go.RowKit
structure Hd (Q : Prop) : Prop where
 out : Q
theorem aD {P Q : Prop} (h : Q) (t : Hd Q → P := by intro h; (repeat' (with_reducible first | refine nY ?_ | (refine mX ?_; try simp only [go_sem]) | refine kD ?_ | refine rD ?_ | refine aO ?_ | fail)); exact h.out) : P := t ⟨h⟩
theorem iZ {C0 : Prop} (c0 : C0) {P Q : Prop} (h : Q) (t : C0 → Hd Q → P := by intro c0 h; (repeat' (with_reducible first | refine nY ?_ | (refine mX ?_; try simp only [go_sem]) | refine kD ?_ | refine rD ?_ | refine cP c0 ?_ | refine aO ?_ | fail)); exact h.out) : P := t c0 ⟨h⟩
theorem b5M {C0 : Prop} (c0 : C0) {C1 : Prop} (c1 : C1) {P Q : Prop} (h : Q) (t : C0 → C1 → Hd Q → P := by intro c0 c1 h; (repeat' (with_reducible first | refine nY ?_ | (refine mX ?_; try simp only [go_sem]) | refine kD ?_ | refine rD ?_ | refine cP c0 ?_ | refine cP c1 ?_ | refine aO ?_ | fail)); exact h.out) : P := t c0 c1 ⟨h⟩
theorem b8i {C0 : Prop} (c0 : C0) {C1 : Prop} (c1 : C1) {C2 : Prop} (c2 : C2) {P Q : Prop} (h : Q) (t : C0 → C1 → C2 → Hd Q → P := by intro c0 c1 c2 h; (repeat' (with_reducible first | refine nY ?_ | (refine mX ?_; try simp only [go_sem]) | refine kD ?_ | refine rD ?_ | refine cP c0 ?_ | refine cP c1 ?_ | refine cP c2 ?_ | refine aO ?_ | fail)); exact h.out) : P := t c0 c1 c2 ⟨h⟩
theorem jW {P Q : Prop} (h : Q) (t : Hd Q → P := by intro h; (repeat' (with_reducible first | refine nY ?_ | (refine mX ?_; try simp only [go_sem, q0]) | refine kD ?_ | refine rD ?_ | refine aO ?_ | fail)); exact h.out) : P := t ⟨h⟩
theorem lK {C0 : Prop} (c0 : C0) {P Q : Prop} (h : Q) (t : C0 → Hd Q → P := by intro c0 h; (repeat' (with_reducible first | refine nY ?_ | (refine mX ?_; try simp only [go_sem, q0]) | refine kD ?_ | refine rD ?_ | refine cP c0 ?_ | refine aO ?_ | fail)); exact h.out) : P := t c0 ⟨h⟩
theorem b0S {C0 : Prop} (c0 : C0) {C1 : Prop} (c1 : C1) {P Q : Prop} (h : Q) (t : C0 → C1 → Hd Q → P := by intro c0 c1 h; (repeat' (with_reducible first | refine nY ?_ | (refine mX ?_; try simp only [go_sem, q0]) | refine kD ?_ | refine rD ?_ | refine cP c0 ?_ | refine cP c1 ?_ | refine aO ?_ | fail)); exact h.out) : P := t c0 c1 ⟨h⟩
theorem b6X {C0 : Prop} (c0 : C0) {C1 : Prop} (c1 : C1) {C2 : Prop} (c2 : C2) {P Q : Prop} (h : Q) (t : C0 → C1 → C2 → Hd Q → P := by intro c0 c1 c2 h; (repeat' (with_reducible first | refine nY ?_ | (refine mX ?_; try simp only [go_sem, q0]) | refine kD ?_ | refine rD ?_ | refine cP c0 ?_ | refine cP c1 ?_ | refine cP c2 ?_ | refine aO ?_ | fail)); exact h.out) : P := t c0 c1 c2 ⟨h⟩
theorem b8j {C0 : Prop} (c0 : C0) {C1 : Prop} (c1 : C1) {C2 : Prop} (c2 : C2) {C3 : Prop} (c3 : C3) {P Q : Prop} (h : Q) (t : C0 → C1 → C2 → C3 → Hd Q → P := by intro c0 c1 c2 c3 h; (repeat' (with_reducible first | refine nY ?_ | (refine mX ?_; try simp only [go_sem, q0]) | refine kD ?_ | refine rD ?_ | refine cP c0 ?_ | refine cP c1 ?_ | refine cP c2 ?_ | refine cP c3 ?_ | refine aO ?_ | fail)); exact h.out) : P := t c0 c1 c2 c3 ⟨h⟩
theorem fM {P Q : Prop} (h : Q) (t : Hd Q → P := by intro h; (repeat' (with_reducible first | refine nY ?_ | (refine mX ?_; try simp only [go_sem, q0, q1]) | refine kD ?_ | refine rD ?_ | refine aO ?_ | fail)); exact h.out) : P := t ⟨h⟩
theorem zS {C0 : Prop} (c0 : C0) {P Q : Prop} (h : Q) (t : C0 → Hd Q → P := by intro c0 h; (repeat' (with_reducible first | refine nY ?_ | (refine mX ?_; try simp only [go_sem, q0, q1]) | refine kD ?_ | refine rD ?_ | refine cP c0 ?_ | refine aO ?_ | fail)); exact h.out) : P := t c0 ⟨h⟩
theorem zT {C0 : Prop} (c0 : C0) {C1 : Prop} (c1 : C1) {P Q : Prop} (h : Q) (t : C0 → C1 → Hd Q → P := by intro c0 c1 h; (repeat' (with_reducible first | refine nY ?_ | (refine mX ?_; try simp only [go_sem, q0, q1]) | refine kD ?_ | refine rD ?_ | refine cP c0 ?_ | refine cP c1 ?_ | refine aO ?_ | fail)); exact h.out) : P := t c0 c1 ⟨h⟩
theorem b4k {C0 : Prop} (c0 : C0) {C1 : Prop} (c1 : C1) {C2 : Prop} (c2 : C2) {C3 : Prop} (c3 : C3) {P Q : Prop} (h : Q) (t : C0 → C1 → C2 → C3 → Hd Q → P := by intro c0 c1 c2 c3 h; (repeat' (with_reducible first | refine nY ?_ | (refine mX ?_; try simp only [go_sem, q0, q1]) | refine kD ?_ | refine rD ?_ | refine cP c0 ?_ | refine cP c1 ?_ | refine cP c2 ?_ | refine cP c3 ?_ | refine aO ?_ | fail)); exact h.out) : P := t c0 c1 c2 c3 ⟨h⟩
theorem jQ {P Q : Prop} (h : Q) (t : Hd Q → P := by intro h; (repeat' (with_reducible first | refine nY ?_ | (refine mX ?_; try simp only [go_sem, q0, q1, q2]) | refine kD ?_ | refine rD ?_ | refine aO ?_ | fail)); exact h.out) : P := t ⟨h⟩
theorem uS {C0 : Prop} (c0 : C0) {P Q : Prop} (h : Q) (t : C0 → Hd Q → P := by intro c0 h; (repeat' (with_reducible first | refine nY ?_ | (refine mX ?_; try simp only [go_sem, q0, q1, q2]) | refine kD ?_ | refine rD ?_ | refine cP c0 ?_ | refine aO ?_ | fail)); exact h.out) : P := t c0 ⟨h⟩
theorem a5E {C0 : Prop} (c0 : C0) {C1 : Prop} (c1 : C1) {P Q : Prop} (h : Q) (t : C0 → C1 → Hd Q → P := by intro c0 c1 h; (repeat' (with_reducible first | refine nY ?_ | (refine mX ?_; try simp only [go_sem, q0, q1, q2]) | refine kD ?_ | refine rD ?_ | refine cP c0 ?_ | refine cP c1 ?_ | refine aO ?_ | fail)); exact h.out) : P := t c0 c1 ⟨h⟩
theorem b8k {C0 : Prop} (c0 : C0) {C1 : Prop} (c1 : C1) {C2 : Prop} (c2 : C2) {P Q : Prop} (h : Q) (t : C0 → C1 → C2 → Hd Q → P := by intro c0 c1 c2 h; (repeat' (with_reducible first | refine nY ?_ | (refine mX ?_; try simp only [go_sem, q0, q1, q2]) | refine kD ?_ | refine rD ?_ | refine cP c0 ?_ | refine cP c1 ?_ | refine cP c2 ?_ | refine aO ?_ | fail)); exact h.out) : P := t c0 c1 c2 ⟨h⟩
theorem b6Y {C0 : Prop} (c0 : C0) {C1 : Prop} (c1 : C1) {C2 : Prop} (c2 : C2) {C3 : Prop} (c3 : C3) {P Q : Prop} (h : Q) (t : C0 → C1 → C2 → C3 → Hd Q → P := by intro c0 c1 c2 c3 h; (repeat' (with_reducible first | refine nY ?_ | (refine mX ?_; try simp only [go_sem, q0, q1, q2]) | refine kD ?_ | refine rD ?_ | refine cP c0 ?_ | refine cP c1 ?_ | refine cP c2 ?_ | refine cP c3 ?_ | refine aO ?_ | fail)); exact h.out) : P := t c0 c1 c2 c3 ⟨h⟩
theorem jX {P Q : Prop} (h : Q) (t : Hd Q → P := by intro h; (repeat' (with_reducible first | refine nY ?_ | (refine mX ?_; try simp only [go_sem, q0, q1, q2, q3]) | refine kD ?_ | refine rD ?_ | refine aO ?_ | fail)); exact h.out) : P := t ⟨h⟩
theorem a2F {C0 : Prop} (c0 : C0) {P Q : Prop} (h : Q) (t : C0 → Hd Q → P := by intro c0 h; (repeat' (with_reducible first | refine nY ?_ | (refine mX ?_; try simp only [go_sem, q0, q1, q2, q3]) | refine kD ?_ | refine rD ?_ | refine cP c0 ?_ | refine aO ?_ | fail)); exact h.out) : P := t c0 ⟨h⟩
theorem a2G {C0 : Prop} (c0 : C0) {C1 : Prop} (c1 : C1) {P Q : Prop} (h : Q) (t : C0 → C1 → Hd Q → P := by intro c0 c1 h; (repeat' (with_reducible first | refine nY ?_ | (refine mX ?_; try simp only [go_sem, q0, q1, q2, q3]) | refine kD ?_ | refine rD ?_ | refine cP c0 ?_ | refine cP c1 ?_ | refine aO ?_ | fail)); exact h.out) : P := t c0 c1 ⟨h⟩
theorem b6Z {C0 : Prop} (c0 : C0) {C1 : Prop} (c1 : C1) {C2 : Prop} (c2 : C2) {C3 : Prop} (c3 : C3) {P Q : Prop} (h : Q) (t : C0 → C1 → C2 → C3 → Hd Q → P := by intro c0 c1 c2 c3 h; (repeat' (with_reducible first | refine nY ?_ | (refine mX ?_; try simp only [go_sem, q0, q1, q2, q3]) | refine kD ?_ | refine rD ?_ | refine cP c0 ?_ | refine cP c1 ?_ | refine cP c2 ?_ | refine cP c3 ?_ | refine aO ?_ | fail)); exact h.out) : P := t c0 c1 c2 c3 ⟨h⟩
theorem tO {P Q : Prop} (h : Q) (t : Hd Q → P := by intro h; (repeat' (with_reducible first | refine nY ?_ | (refine mX ?_; try simp only [go_sem, q0, q1, q2, q3, q4]) | refine kD ?_ | refine rD ?_ | refine aO ?_ | fail)); exact h.out) : P := t ⟨h⟩
theorem a1I {C0 : Prop} (c0 : C0) {P Q : Prop} (h : Q) (t : C0 → Hd Q → P := by intro c0 h; (repeat' (with_reducible first | refine nY ?_ | (refine mX ?_; try simp only [go_sem, q0, q1, q2, q3, q4]) | refine kD ?_ | refine rD ?_ | refine cP c0 ?_ | refine aO ?_ | fail)); exact h.out) : P := t c0 ⟨h⟩
theorem b0T {C0 : Prop} (c0 : C0) {C1 : Prop} (c1 : C1) {P Q : Prop} (h : Q) (t : C0 → C1 → Hd Q → P := by intro c0 c1 h; (repeat' (with_reducible first | refine nY ?_ | (refine mX ?_; try simp only [go_sem, q0, q1, q2, q3, q4]) | refine kD ?_ | refine rD ?_ | refine cP c0 ?_ | refine cP c1 ?_ | refine aO ?_ | fail)); exact h.out) : P := t c0 c1 ⟨h⟩
theorem b7a {C0 : Prop} (c0 : C0) {C1 : Prop} (c1 : C1) {C2 : Prop} (c2 : C2) {C3 : Prop} (c3 : C3) {P Q : Prop} (h : Q) (t : C0 → C1 → C2 → C3 → Hd Q → P := by intro c0 c1 c2 c3 h; (repeat' (with_reducible first | refine nY ?_ | (refine mX ?_; try simp only [go_sem, q0, q1, q2, q3, q4]) | refine kD ?_ | refine rD ?_ | refine cP c0 ?_ | refine cP c1 ?_ | refine cP c2 ?_ | refine cP c3 ?_ | refine aO ?_ | fail)); exact h.out) : P := t c0 c1 c2 c3 ⟨h⟩
theorem a6S {P Q : Prop} (h : Q) (t : Hd Q → P := by intro h; (repeat' (with_reducible first | refine nY ?_ | (refine mX ?_; try simp only [go_sem, q0, q1, q2, q3, q4, q5]) | refine kD ?_ | refine rD ?_ | refine aO ?_ | fail)); exact h.out) : P := t ⟨h⟩
theorem a1J {C0 : Prop} (c0 : C0) {P Q : Prop} (h : Q) (t : C0 → Hd Q → P := by intro c0 h; (repeat' (with_reducible first | refine nY ?_ | (refine mX ?_; try simp only [go_sem, q0, q1, q2, q3, q4, q5]) | refine kD ?_ | refine rD ?_ | refine cP c0 ?_ | refine aO ?_ | fail)); exact h.out) : P := t c0 ⟨h⟩
theorem a3E {C0 : Prop} (c0 : C0) {C1 : Prop} (c1 : C1) {P Q : Prop} (h : Q) (t : C0 → C1 → Hd Q → P := by intro c0 c1 h; (repeat' (with_reducible first | refine nY ?_ | (refine mX ?_; try simp only [go_sem, q0, q1, q2, q3, q4, q5]) | refine kD ?_ | refine rD ?_ | refine cP c0 ?_ | refine cP c1 ?_ | refine aO ?_ | fail)); exact h.out) : P := t c0 c1 ⟨h⟩
theorem a8E {P Q : Prop} (h : Q) (t : Hd Q → P := by intro h; (repeat' (with_reducible first | refine nY ?_ | (refine mX ?_; try simp only [go_sem, q0, q1, q2, q3, q4, q5, q6]) | refine kD ?_ | refine rD ?_ | refine aO ?_ | fail)); exact h.out) : P := t ⟨h⟩
theorem b4l {C0 : Prop} (c0 : C0) {P Q : Prop} (h : Q) (t : C0 → Hd Q → P := by intro c0 h; (repeat' (with_reducible first | refine nY ?_ | (refine mX ?_; try simp only [go_sem, q0, q1, q2, q3, q4, q5, q6]) | refine kD ?_ | refine rD ?_ | refine cP c0 ?_ | refine aO ?_ | fail)); exact h.out) : P := t c0 ⟨h⟩
theorem b5N {C0 : Prop} (c0 : C0) {C1 : Prop} (c1 : C1) {P Q : Prop} (h : Q) (t : C0 → C1 → Hd Q → P := by intro c0 c1 h; (repeat' (with_reducible first | refine nY ?_ | (refine mX ?_; try simp only [go_sem, q0, q1, q2, q3, q4, q5, q6]) | refine kD ?_ | refine rD ?_ | refine cP c0 ?_ | refine cP c1 ?_ | refine aO ?_ | fail)); exact h.out) : P := t c0 c1 ⟨h⟩
theorem a0F {P Q : Prop} (h : Q) (t : Hd Q → P := by intro h; (repeat' (with_reducible first | refine nY ?_ | (refine mX ?_; try simp only [go_sem, q0, q1, q2, q3, q4, q5, q6, q7]) | refine kD ?_ | refine rD ?_ | refine aO ?_ | fail)); exact h.out) : P := t ⟨h⟩
theorem a2H {C0 : Prop} (c0 : C0) {P Q : Prop} (h : Q) (t : C0 → Hd Q → P := by intro c0 h; (repeat' (with_reducible first | refine nY ?_ | (refine mX ?_; try simp only [go_sem, q0, q1, q2, q3, q4, q5, q6, q7]) | refine kD ?_ | refine rD ?_ | refine cP c0 ?_ | refine aO ?_ | fail)); exact h.out) : P := t c0 ⟨h⟩
theorem b2r {C0 : Prop} (c0 : C0) {C1 : Prop} (c1 : C1) {P Q : Prop} (h : Q) (t : C0 → C1 → Hd Q → P := by intro c0 c1 h; (repeat' (with_reducible first | refine nY ?_ | (refine mX ?_; try simp only [go_sem, q0, q1, q2, q3, q4, q5, q6, q7]) | refine kD ?_ | refine rD ?_ | refine cP c0 ?_ | refine cP c1 ?_ | refine aO ?_ | fail)); exact h.out) : P := t c0 c1 ⟨h⟩
theorem a0G {P Q : Prop} (h : Q) (t : Hd Q → P := by intro h; (repeat' (with_reducible first | refine nY ?_ | (refine mX ?_; try simp only [go_sem, q0, q1, q2, q3, q4, q5, q6, q7, q8]) | refine kD ?_ | refine rD ?_ | refine aO ?_ | fail)); exact h.out) : P := t ⟨h⟩
theorem b0U {C0 : Prop} (c0 : C0) {P Q : Prop} (h : Q) (t : C0 → Hd Q → P := by intro c0 h; (repeat' (with_reducible first | refine nY ?_ | (refine mX ?_; try simp only [go_sem, q0, q1, q2, q3, q4, q5, q6, q7, q8]) | refine kD ?_ | refine rD ?_ | refine cP c0 ?_ | refine aO ?_ | fail)); exact h.out) : P := t c0 ⟨h⟩
theorem a6T {C0 : Prop} (c0 : C0) {C1 : Prop} (c1 : C1) {P Q : Prop} (h : Q) (t : C0 → C1 → Hd Q → P := by intro c0 c1 h; (repeat' (with_reducible first | refine nY ?_ | (refine mX ?_; try simp only [go_sem, q0, q1, q2, q3, q4, q5, q6, q7, q8]) | refine kD ?_ | refine rD ?_ | refine cP c0 ?_ | refine cP c1 ?_ | refine aO ?_ | fail)); exact h.out) : P := t c0 c1 ⟨h⟩
theorem rU {P Q : Prop} (h : Q) (t : Hd Q → P := by intro h; (repeat' (with_reducible first | refine nY ?_ | (refine mX ?_; try simp only [go_sem, q0, q1, q2, q3, q4, q5, q6, q7, q8, q9]) | refine kD ?_ | refine rD ?_ | refine aO ?_ | fail)); exact h.out) : P := t ⟨h⟩
theorem a9K {C0 : Prop} (c0 : C0) {P Q : Prop} (h : Q) (t : C0 → Hd Q → P := by intro c0 h; (repeat' (with_reducible first | refine nY ?_ | (refine mX ?_; try simp only [go_sem, q0, q1, q2, q3, q4, q5, q6, q7, q8, q9]) | refine kD ?_ | refine rD ?_ | refine cP c0 ?_ | refine aO ?_ | fail)); exact h.out) : P := t c0 ⟨h⟩
theorem a4s {C0 : Prop} (c0 : C0) {C1 : Prop} (c1 : C1) {P Q : Prop} (h : Q) (t : C0 → C1 → Hd Q → P := by intro c0 c1 h; (repeat' (with_reducible first | refine nY ?_ | (refine mX ?_; try simp only [go_sem, q0, q1, q2, q3, q4, q5, q6, q7, q8, q9]) | refine kD ?_ | refine rD ?_ | refine cP c0 ?_ | refine cP c1 ?_ | refine aO ?_ | fail)); exact h.out) : P := t c0 c1 ⟨h⟩
end Go.Sx
end
section
namespace Go.Proofs.YtakopfjdmmnjcaaGreat
open Go Go.Sx Go.RowKit
noncomputable def ttl : List Ty := [.bad,
 .bad,
 ⟨3, 1, 8, [.d (.v (.int .i64 0))], [], 0, .i64⟩,
 ⟨3, 1, 8, [.d (.v (.int .i64 0))], [], 0, .i64⟩,
 ⟨4, 1, 1, [.d (.v (.bool false))], [], 0, .i64⟩,
 ⟨3, 1, 1, [.d (.v (.int .u8 0))], [], 0, .u8⟩,
 ⟨3, 1, 1, [.d (.v (.int .u8 0))], [], 0, .u8⟩,
 ⟨1, 4, 24, [.d (.v (.int .i64 0)), .d (.v (.int .i64 0)), .d (.v (.bool false)), .d (.v (.int .u8 0))], [(0, 2), (1, 3), (2, 4), (3, 6)], 0, .i64⟩,
 ⟨1, 4, 24, [.d (.v (.int .i64 0)), .d (.v (.int .i64 0)), .d (.v (.bool false)), .d (.v (.int .u8 0))], [(0, 2), (1, 3), (2, 4), (3, 6)], 0, .i64⟩,
 ⟨5, 1, 16, [.d (.v (.string ⟨#[]⟩))], [], 0, .i64⟩,
 ⟨5, 1, 16, [.d (.v (.string ⟨#[]⟩))], [], 0, .i64⟩,
 ⟨5, 1, 16, [.d (.v (.string ⟨#[]⟩))], [], 0, .i64⟩,
 .bad,
 .bad,
 .bad,
 .bad,
 .bad,
 .bad,
 .bad,
 .bad,
 .bad,
 .bad,
 ⟨2, 1, 24, [.z], [], 5, .i64⟩,
 .bad,
 ⟨2, 1, 24, [.z], [], 113, .i64⟩,
 ⟨2, 1, 24, [.z], [], 69, .i64⟩,
 ⟨1, 3, 56, [.z, .z, .d (.v (.int .i64 0))], [(0, 24), (1, 25), (2, 3)], 0, .i64⟩,
 ⟨1, 3, 56, [.z, .z, .d (.v (.int .i64 0))], [(0, 24), (1, 25), (2, 3)], 0, .i64⟩,
 ⟨2, 1, 24, [.z], [], 38, .i64⟩,
 .bad,
 .bad,
 ⟨2, 1, 24, [.z], [], 3, .i64⟩,
 .bad,
 .bad,
 .bad,
 .bad,
 ⟨2, 1, 24, [.z], [], 104, .i64⟩,
 ⟨1, 2, 40, [.d (.v (.string ⟨#[]⟩)), .z], [(0, 9), (1, 36)], 0, .i64⟩,
 ⟨1, 2, 40, [.d (.v (.string ⟨#[]⟩)), .z], [(0, 9), (1, 36)], 0, .i64⟩,
 ⟨2, 1, 24, [.z], [], 9, .i64⟩,
 .bad,
 ⟨2, 1, 24, [.z], [], 75, .i64⟩,
 .bad,
 .bad,
 ⟨2, 1, 24, [.z], [], 128, .i64⟩,
 ⟨2, 1, 24, [.z], [], 132, .i64⟩,
 ⟨1, 3, 56, [.z, .z, .d (.v (.int .i64 0))], [(0, 44), (1, 45), (2, 3)], 0, .i64⟩,
 ⟨1, 3, 56, [.z, .z, .d (.v (.int .i64 0))], [(0, 44), (1, 45), (2, 3)], 0, .i64⟩,
 ⟨2, 1, 24, [.z], [], 84, .i64⟩,
 .bad,
 .bad,
 .bad,
 .bad,
 .bad,
 .bad,
 .bad,
 .bad,
 .bad,
 .bad,
 .bad,
 .bad,
 .bad,
 .bad,
 .bad,
 .bad,
 .bad,
 .bad,
 ⟨2, 1, 24, [.z], [], 110, .i64⟩,
 ⟨1, 5, 56, [.d (.v (.int .i64 0)), .d (.v (.int .i64 0)), .d (.v (.bool false)), .d (.v (.int .i64 0)), .z], [(0, 3), (1, 3), (2, 4), (3, 3), (4, 67)], 0, .i64⟩,
 ⟨1, 5, 56, [.d (.v (.int .i64 0)), .d (.v (.int .i64 0)), .d (.v (.bool false)), .d (.v (.int .i64 0)), .z], [(0, 3), (1, 3), (2, 4), (3, 3), (4, 67)], 0, .i64⟩,
 .bad,
 .bad,
 ⟨1, 3, 32, [.d (.v (.int .i64 0)), .d (.v (.int .i64 0)), .d (.v (.string ⟨#[]⟩))], [(0, 3), (1, 3), (2, 9)], 0, .i64⟩,
 ⟨1, 3, 32, [.d (.v (.int .i64 0)), .d (.v (.int .i64 0)), .d (.v (.string ⟨#[]⟩))], [(0, 3), (1, 3), (2, 9)], 0, .i64⟩,
 ⟨1, 4, 56, [.d (.v (.int .i64 0)), .d (.v (.int .i64 0)), .d (.v (.string ⟨#[]⟩)), .z], [(0, 73), (3, 31)], 0, .i64⟩,
 ⟨1, 4, 56, [.d (.v (.int .i64 0)), .d (.v (.int .i64 0)), .d (.v (.string ⟨#[]⟩)), .z], [(0, 73), (3, 31)], 0, .i64⟩,
 .bad,
 .bad,
 .bad,
 .bad,
 .bad,
 .bad,
 ⟨2, 1, 24, [.z], [], 175, .i64⟩,
 ⟨1, 2, 40, [.d (.v (.string ⟨#[]⟩)), .z], [(0, 9), (1, 82)], 0, .i64⟩,
 ⟨1, 2, 40, [.d (.v (.string ⟨#[]⟩)), .z], [(0, 9), (1, 82)], 0, .i64⟩,
 .bad,
 .bad,
 .bad,
 .bad,
 .bad,
 .bad,
 .bad,
 .bad,
 .bad,
 .bad,
 .bad,
 ⟨1, 3, 40, [.z, .d (.v (.int .i64 0)), .d (.v (.int .i64 0))], [(0, 22), (1, 3), (2, 3)], 0, .i64⟩,
 ⟨1, 3, 40, [.z, .d (.v (.int .i64 0)), .d (.v (.int .i64 0))], [(0, 22), (1, 3), (2, 3)], 0, .i64⟩,
 .bad,
 .bad,
 .bad,
 .bad,
 .bad,
 ⟨1, 7, 72, [.d (.v (.int .i64 0)), .d (.v (.int .i64 0)), .d (.v (.int .i64 0)), .d (.v (.string ⟨#[]⟩)), .d (.v (.int .i64 0)), .d (.v (.int .i64 0)), .d (.v (.string ⟨#[]⟩))], [(0, 3), (1, 3), (2, 3), (3, 9), (4, 73)], 0, .i64⟩,
 ⟨1, 7, 72, [.d (.v (.int .i64 0)), .d (.v (.int .i64 0)), .d (.v (.int .i64 0)), .d (.v (.string ⟨#[]⟩)), .d (.v (.int .i64 0)), .d (.v (.int .i64 0)), .d (.v (.string ⟨#[]⟩))], [(0, 3), (1, 3), (2, 3), (3, 9), (4, 73)], 0, .i64⟩,
 .bad,
 .bad,
 .bad,
 .bad,
 ⟨1, 4, 48, [.d (.v (.string ⟨#[]⟩)), .d (.v (.int .i64 0)), .d (.v (.int .i64 0)), .d (.v (.string ⟨#[]⟩))], [(0, 9), (1, 73)], 0, .i64⟩,
 ⟨1, 4, 48, [.d (.v (.string ⟨#[]⟩)), .d (.v (.int .i64 0)), .d (.v (.int .i64 0)), .d (.v (.string ⟨#[]⟩))], [(0, 9), (1, 73)], 0, .i64⟩,
 .bad,
 ⟨1, 2, 24, [.d (.v (.string ⟨#[]⟩)), .d (.v (.int .i64 0))], [(0, 9), (1, 3)], 0, .i64⟩,
 ⟨1, 2, 24, [.d (.v (.string ⟨#[]⟩)), .d (.v (.int .i64 0))], [(0, 9), (1, 3)], 0, .i64⟩,
 .bad,
 .bad,
 .bad,
 .bad,
 .bad,
 .bad,
 .bad,
 .bad,
 .bad,
 ⟨2, 1, 24, [.z], [], 169, .i64⟩,
 .bad,
 .bad,
 .bad,
 .bad,
 ⟨1, 2, 24, [.d (.v (.string ⟨#[]⟩)), .d (.v (.int .i64 0))], [(0, 9), (1, 3)], 0, .i64⟩,
 .bad,
 ⟨2, 1, 24, [.z], [], 197, .i64⟩,
 ⟨1, 5, 56, [.d (.v (.int .i64 0)), .d (.v (.int .i64 0)), .d (.v (.bool false)), .d (.v (.int .i64 0)), .z], [(0, 3), (1, 3), (2, 4), (3, 3), (4, 130)], 0, .i64⟩,
 ⟨1, 5, 56, [.d (.v (.int .i64 0)), .d (.v (.int .i64 0)), .d (.v (.bool false)), .d (.v (.int .i64 0)), .z], [(0, 3), (1, 3), (2, 4), (3, 3), (4, 130)], 0, .i64⟩,
 .bad,
 .bad,
 .bad,
 .bad,
 .bad,
 .bad,
 .bad,
 .bad,
 .bad,
 .bad,
 .bad,
 .bad,
 .bad,
 .bad,
 .bad,
 .bad,
 .bad,
 .bad,
 .bad,
 .bad,
 .bad,
 .bad,
 .bad,
 .bad,
 .bad,
 .bad,
 .bad,
 .bad,
 .bad,
 .bad,
 .bad,
 .bad,
 .bad,
 .bad,
 .bad,
 ⟨1, 2, 40, [.d (.v (.string ⟨#[]⟩)), .z], [(0, 9), (1, 31)], 0, .i64⟩,
 ⟨1, 2, 40, [.d (.v (.string ⟨#[]⟩)), .z], [(0, 9), (1, 31)], 0, .i64⟩,
 .bad,
 .bad,
 .bad,
 ⟨1, 3, 32, [.d (.v (.int .i64 0)), .d (.v (.int .i64 0)), .d (.v (.string ⟨#[]⟩))], [(0, 3), (1, 3), (2, 9)], 0, .i64⟩,
 ⟨1, 7, 72, [.d (.v (.int .i64 0)), .d (.v (.int .i64 0)), .d (.v (.int .i64 0)), .d (.v (.string ⟨#[]⟩)), .d (.v (.int .i64 0)), .d (.v (.int .i64 0)), .d (.v (.string ⟨#[]⟩))], [(0, 3), (1, 3), (2, 3), (3, 9), (4, 173)], 0, .i64⟩,
 ⟨1, 7, 72, [.d (.v (.int .i64 0)), .d (.v (.int .i64 0)), .d (.v (.int .i64 0)), .d (.v (.string ⟨#[]⟩)), .d (.v (.int .i64 0)), .d (.v (.int .i64 0)), .d (.v (.string ⟨#[]⟩))], [(0, 3), (1, 3), (2, 3), (3, 9), (4, 173)], 0, .i64⟩,
 .bad,
 .bad,
 .bad,
 .bad,
 .bad,
 .bad,
 .bad,
 .bad,
 .bad,
 .bad,
 .bad,
 .bad,
 .bad,
 .bad,
 .bad,
 .bad,
 .bad,
 .bad,
 .bad,
 .bad,
 ⟨1, 4, 48, [.d (.v (.string ⟨#[]⟩)), .d (.v (.int .i64 0)), .d (.v (.int .i64 0)), .d (.v (.string ⟨#[]⟩))], [(0, 9), (1, 173)], 0, .i64⟩,
 ⟨1, 4, 48, [.d (.v (.string ⟨#[]⟩)), .d (.v (.int .i64 0)), .d (.v (.int .i64 0)), .d (.v (.string ⟨#[]⟩))], [(0, 9), (1, 173)], 0, .i64⟩,
 .bad,
 .bad,
 .bad,
 .bad,
 .bad,
 .bad,
 .bad,
 .bad,
 .bad,
 .bad,
 .bad,
 .bad,
 .bad,
 .bad,
 .bad,
 .bad,
 .bad,
 ⟨2, 1, 24, [.z], [], 4, .i64⟩,
 .bad,
 .bad,
 .bad,
 .bad,
 .bad,
 .bad,
 .bad,
 .bad,
 .bad,
 .bad,
 .bad,
 .bad,
 .bad,
 .bad,
 ⟨3, 1, 8, [.d (.v (.int .i64 0))], [], 0, .i64⟩,
 .bad,
 .bad,
 .bad,
 .bad,
 .bad,
 .bad,
 .bad,
 .bad,
 .bad,
 .bad,
 .bad,
 .bad,
 .bad,
 .bad,
 .bad,
 .bad,
 .bad,
 .bad,
 .bad,
 .bad,
 .bad,
 .bad,
 .bad,
 .bad,
 .bad,
 .bad,
 ⟨3, 1, 1, [.d (.v (.int .u8 0))], [], 0, .u8⟩,
 ⟨3, 1, 1, [.d (.v (.int .u8 0))], [], 0, .u8⟩,
 .bad,
 .bad,
 .bad,
 .bad,
 .bad,
 .bad,
 .bad]
noncomputable def tt : Nat → Ty := fun t => ttl.getD t .bad
theorem ttOK : TyOK Tryz.prog tt := TyOK.of_list (by kernel_rfl)
theorem tts : tt 2 = ⟨3, 1, 8, [.d (.v (.int .i64 0))], [], 0, .i64⟩ ∧ tt 3 = ⟨3, 1, 8, [.d (.v (.int .i64 0))], [], 0, .i64⟩ ∧ tt 4 = ⟨4, 1, 1, [.d (.v (.bool false))], [], 0, .i64⟩ ∧ tt 5 = ⟨3, 1, 1, [.d (.v (.int .u8 0))], [], 0, .u8⟩ ∧ tt 6 = ⟨3, 1, 1, [.d (.v (.int .u8 0))], [], 0, .u8⟩ ∧ tt 7 = ⟨1, 4, 24, [.d (.v (.int .i64 0)), .d (.v (.int .i64 0)), .d (.v (.bool false)), .d (.v (.int .u8 0))], [(0, 2), (1, 3), (2, 4), (3, 6)], 0, .i64⟩ ∧ tt 8 = ⟨1, 4, 24, [.d (.v (.int .i64 0)), .d (.v (.int .i64 0)), .d (.v (.bool false)), .d (.v (.int .u8 0))], [(0, 2), (1, 3), (2, 4), (3, 6)], 0, .i64⟩ ∧ tt 9 = ⟨5, 1, 16, [.d (.v (.string ⟨#[]⟩))], [], 0, .i64⟩ ∧ tt 10 = ⟨5, 1, 16, [.d (.v (.string ⟨#[]⟩))], [], 0, .i64⟩ ∧ tt 11 = ⟨5, 1, 16, [.d (.v (.string ⟨#[]⟩))], [], 0, .i64⟩ ∧ tt 22 = ⟨2, 1, 24, [.z], [], 5, .i64⟩ ∧ tt 24 = ⟨2, 1, 24, [.z], [], 113, .i64⟩ ∧ tt 25 = ⟨2, 1, 24, [.z], [], 69, .i64⟩ ∧ tt 26 = ⟨1, 3, 56, [.z, .z, .d (.v (.int .i64 0))], [(0, 24), (1, 25), (2, 3)], 0, .i64⟩ ∧ tt 27 = ⟨1, 3, 56, [.z, .z, .d (.v (.int .i64 0))], [(0, 24), (1, 25), (2, 3)], 0, .i64⟩ ∧ tt 28 = ⟨2, 1, 24, [.z], [], 38, .i64⟩ ∧ tt 31 = ⟨2, 1, 24, [.z], [], 3, .i64⟩ ∧ tt 36 = ⟨2, 1, 24, [.z], [], 104, .i64⟩ ∧ tt 37 = ⟨1, 2, 40, [.d (.v (.string ⟨#[]⟩)), .z], [(0, 9), (1, 36)], 0, .i64⟩ ∧ tt 38 = ⟨1, 2, 40, [.d (.v (.string ⟨#[]⟩)), .z], [(0, 9), (1, 36)], 0, .i64⟩ ∧ tt 39 = ⟨2, 1, 24, [.z], [], 9, .i64⟩ ∧ tt 41 = ⟨2, 1, 24, [.z], [], 75, .i64⟩ ∧ tt 44 = ⟨2, 1, 24, [.z], [], 128, .i64⟩ ∧ tt 45 = ⟨2, 1, 24, [.z], [], 132, .i64⟩ ∧ tt 46 = ⟨1, 3, 56, [.z, .z, .d (.v (.int .i64 0))], [(0, 44), (1, 45), (2, 3)], 0, .i64⟩ ∧ tt 47 = ⟨1, 3, 56, [.z, .z, .d (.v (.int .i64 0))], [(0, 44), (1, 45), (2, 3)], 0, .i64⟩ ∧ tt 48 = ⟨2, 1, 24, [.z], [], 84, .i64⟩ ∧ tt 67 = ⟨2, 1, 24, [.z], [], 110, .i64⟩ ∧ tt 68 = ⟨1, 5, 56, [.d (.v (.int .i64 0)), .d (.v (.int .i64 0)), .d (.v (.bool false)), .d (.v (.int .i64 0)), .z], [(0, 3), (1, 3), (2, 4), (3, 3), (4, 67)], 0, .i64⟩ ∧ tt 69 = ⟨1, 5, 56, [.d (.v (.int .i64 0)), .d (.v (.int .i64 0)), .d (.v (.bool false)), .d (.v (.int .i64 0)), .z], [(0, 3), (1, 3), (2, 4), (3, 3), (4, 67)], 0, .i64⟩ ∧ tt 72 = ⟨1, 3, 32, [.d (.v (.int .i64 0)), .d (.v (.int .i64 0)), .d (.v (.string ⟨#[]⟩))], [(0, 3), (1, 3), (2, 9)], 0, .i64⟩ ∧ tt 73 = ⟨1, 3, 32, [.d (.v (.int .i64 0)), .d (.v (.int .i64 0)), .d (.v (.string ⟨#[]⟩))], [(0, 3), (1, 3), (2, 9)], 0, .i64⟩ ∧ tt 74 = ⟨1, 4, 56, [.d (.v (.int .i64 0)), .d (.v (.int .i64 0)), .d (.v (.string ⟨#[]⟩)), .z], [(0, 73), (3, 31)], 0, .i64⟩ ∧ tt 75 = ⟨1, 4, 56, [.d (.v (.int .i64 0)), .d (.v (.int .i64 0)), .d (.v (.string ⟨#[]⟩)), .z], [(0, 73), (3, 31)], 0, .i64⟩ ∧ tt 82 = ⟨2, 1, 24, [.z], [], 175, .i64⟩ ∧ tt 83 = ⟨1, 2, 40, [.d (.v (.string ⟨#[]⟩)), .z], [(0, 9), (1, 82)], 0, .i64⟩ ∧ tt 84 = ⟨1, 2, 40, [.d (.v (.string ⟨#[]⟩)), .z], [(0, 9), (1, 82)], 0, .i64⟩ ∧ tt 96 = ⟨1, 3, 40, [.z, .d (.v (.int .i64 0)), .d (.v (.int .i64 0))], [(0, 22), (1, 3), (2, 3)], 0, .i64⟩ ∧ tt 97 = ⟨1, 3, 40, [.z, .d (.v (.int .i64 0)), .d (.v (.int .i64 0))], [(0, 22), (1, 3), (2, 3)], 0, .i64⟩ ∧ tt 103 = ⟨1, 7, 72, [.d (.v (.int .i64 0)), .d (.v (.int .i64 0)), .d (.v (.int .i64 0)), .d (.v (.string ⟨#[]⟩)), .d (.v (.int .i64 0)), .d (.v (.int .i64 0)), .d (.v (.string ⟨#[]⟩))], [(0, 3), (1, 3), (2, 3), (3, 9), (4, 73)], 0, .i64⟩ ∧ tt 104 = ⟨1, 7, 72, [.d (.v (.int .i64 0)), .d (.v (.int .i64 0)), .d (.v (.int .i64 0)), .d (.v (.string ⟨#[]⟩)), .d (.v (.int .i64 0)), .d (.v (.int .i64 0)), .d (.v (.string ⟨#[]⟩))], [(0, 3), (1, 3), (2, 3), (3, 9), (4, 73)], 0, .i64⟩ ∧ tt 109 = ⟨1, 4, 48, [.d (.v (.string ⟨#[]⟩)), .d (.v (.int .i64 0)), .d (.v (.int .i64 0)), .d (.v (.string ⟨#[]⟩))], [(0, 9), (1, 73)], 0, .i64⟩ ∧ tt 110 = ⟨1, 4, 48, [.d (.v (.string ⟨#[]⟩)), .d (.v (.int .i64 0)), .d (.v (.int .i64 0)), .d (.v (.string ⟨#[]⟩))], [(0, 9), (1, 73)], 0, .i64⟩ ∧ tt 112 = ⟨1, 2, 24, [.d (.v (.string ⟨#[]⟩)), .d (.v (.int .i64 0))], [(0, 9), (1, 3)], 0, .i64⟩ ∧ tt 113 = ⟨1, 2, 24, [.d (.v (.string ⟨#[]⟩)), .d (.v (.int .i64 0))], [(0, 9), (1, 3)], 0, .i64⟩ ∧ tt 123 = ⟨2, 1, 24, [.z], [], 169, .i64⟩ ∧ tt 128 = ⟨1, 2, 24, [.d (.v (.string ⟨#[]⟩)), .d (.v (.int .i64 0))], [(0, 9), (1, 3)], 0, .i64⟩ ∧ tt 130 = ⟨2, 1, 24, [.z], [], 197, .i64⟩ ∧ tt 131 = ⟨1, 5, 56, [.d (.v (.int .i64 0)), .d (.v (.int .i64 0)), .d (.v (.bool false)), .d (.v (.int .i64 0)), .z], [(0, 3), (1, 3), (2, 4), (3, 3), (4, 130)], 0, .i64⟩ ∧ tt 132 = ⟨1, 5, 56, [.d (.v (.int .i64 0)), .d (.v (.int .i64 0)), .d (.v (.bool false)), .d (.v (.int .i64 0)), .z], [(0, 3), (1, 3), (2, 4), (3, 3), (4, 130)], 0, .i64⟩ ∧ tt 168 = ⟨1, 2, 40, [.d (.v (.string ⟨#[]⟩)), .z], [(0, 9), (1, 31)], 0, .i64⟩ ∧ tt 169 = ⟨1, 2, 40, [.d (.v (.string ⟨#[]⟩)), .z], [(0, 9), (1, 31)], 0, .i64⟩ ∧ tt 173 = ⟨1, 3, 32, [.d (.v (.int .i64 0)), .d (.v (.int .i64 0)), .d (.v (.string ⟨#[]⟩))], [(0, 3), (1, 3), (2, 9)], 0, .i64⟩ ∧ tt 174 = ⟨1, 7, 72, [.d (.v (.int .i64 0)), .d (.v (.int .i64 0)), .d (.v (.int .i64 0)), .d (.v (.string ⟨#[]⟩)), .d (.v (.int .i64 0)), .d (.v (.int .i64 0)), .d (.v (.string ⟨#[]⟩))], [(0, 3), (1, 3), (2, 3), (3, 9), (4, 173)], 0, .i64⟩ ∧ tt 175 = ⟨1, 7, 72, [.d (.v (.int .i64 0)), .d (.v (.int .i64 0)), .d (.v (.int .i64 0)), .d (.v (.string ⟨#[]⟩)), .d (.v (.int .i64 0)), .d (.v (.int .i64 0)), .d (.v (.string ⟨#[]⟩))], [(0, 3), (1, 3), (2, 3), (3, 9), (4, 173)], 0, .i64⟩ ∧ tt 196 = ⟨1, 4, 48, [.d (.v (.string ⟨#[]⟩)), .d (.v (.int .i64 0)), .d (.v (.int .i64 0)), .d (.v (.string ⟨#[]⟩))], [(0, 9), (1, 173)], 0, .i64⟩ ∧ tt 197 = ⟨1, 4, 48, [.d (.v (.string ⟨#[]⟩)), .d (.v (.int .i64 0)), .d (.v (.int .i64 0)), .d (.v (.string ⟨#[]⟩))], [(0, 9), (1, 173)], 0, .i64⟩ ∧ tt 215 = ⟨2, 1, 24, [.z], [], 4, .i64⟩ ∧ tt 230 = ⟨3, 1, 8, [.d (.v (.int .i64 0))], [], 0, .i64⟩ ∧ tt 257 = ⟨3, 1, 1, [.d (.v (.int .u8 0))], [], 0, .u8⟩ ∧ tt 258 = ⟨3, 1, 1, [.d (.v (.int .u8 0))], [], 0, .u8⟩ :=
 ⟨rfl, rfl, rfl, rfl, rfl, rfl, rfl, rfl, rfl, rfl, rfl, rfl, rfl, rfl, rfl, rfl, rfl, rfl, rfl, rfl, rfl, rfl, rfl, rfl, rfl, rfl, rfl, rfl, rfl, rfl, rfl, rfl, rfl, rfl, rfl, rfl, rfl, rfl, rfl, rfl, rfl, rfl, rfl, rfl, rfl, rfl, rfl, rfl, rfl, rfl, rfl, rfl, rfl, rfl, rfl, rfl, rfl, rfl, rfl, rfl, rfl⟩
def eqk : Nat → List Nat := fun t => if t = 73 then [1, 1, 3] else if t = 104 then [1, 1, 1, 3, 1, 1, 3] else if t = 110 then [3, 1, 1, 3] else if t = 113 then [3, 1] else if t = 128 then [3, 1] else if t = 173 then [1, 1, 3] else if t = 175 then [1, 1, 1, 3, 1, 1, 3] else if t = 197 then [3, 1, 1, 3] else []
theorem dQ {v : Value} (h : iR v = 1) : ∃ x : Int, v = .int .i64 x := by
 cases v with
 | int k n => cases k <;> simp_all [iR]
 | _ => simp_all [iR]
theorem gI {v : Value} (h : iR v = 3) : ∃ x : ByteArray, v = .string x := by
 cases v with
 | int k n => cases k <;> simp_all [iR]
 | _ => simp_all [iR]
theorem a1X {xs : List Value} (h : xs.map iR = [1, 1, 3]) : ∃ (x0 : Int) (x1 : Int) (x2 : ByteArray), xs = [.int .i64 x0, .int .i64 x1, .string x2] := by
 obtain ⟨v0, xs, rfl⟩ : ∃ v l, xs = v :: l := by cases xs with
  | nil => simp at h
  | cons v l => exact ⟨v, l, rfl⟩
 simp only [List.map_cons, List.cons.injEq] at h
 obtain ⟨h0, h⟩ := h
 obtain ⟨v1, xs, rfl⟩ : ∃ v l, xs = v :: l := by cases xs with
  | nil => simp at h
  | cons v l => exact ⟨v, l, rfl⟩
 simp only [List.map_cons, List.cons.injEq] at h
 obtain ⟨h1, h⟩ := h
 obtain ⟨v2, xs, rfl⟩ : ∃ v l, xs = v :: l := by cases xs with
  | nil => simp at h
  | cons v l => exact ⟨v, l, rfl⟩
 simp only [List.map_cons, List.cons.injEq] at h
 obtain ⟨h2, h⟩ := h
 have : xs = [] := by simpa using h
 subst this
 obtain ⟨x0, rfl⟩ := dQ h0
 obtain ⟨x1, rfl⟩ := dQ h1
 obtain ⟨x2, rfl⟩ := gI h2
 exact ⟨x0, x1, x2, rfl⟩
theorem zL {xs : List Value} (h : xs.map iR = [1, 1, 1, 3, 1, 1, 3]) : ∃ (x0 : Int) (x1 : Int) (x2 : Int) (x3 : ByteArray) (x4 : Int) (x5 : Int) (x6 : ByteArray), xs = [.int .i64 x0, .int .i64 x1, .int .i64 x2, .string x3, .int .i64 x4, .int .i64 x5, .string x6] := by
 obtain ⟨v0, xs, rfl⟩ : ∃ v l, xs = v :: l := by cases xs with
  | nil => simp at h
  | cons v l => exact ⟨v, l, rfl⟩
 simp only [List.map_cons, List.cons.injEq] at h
 obtain ⟨h0, h⟩ := h
 obtain ⟨v1, xs, rfl⟩ : ∃ v l, xs = v :: l := by cases xs with
  | nil => simp at h
  | cons v l => exact ⟨v, l, rfl⟩
 simp only [List.map_cons, List.cons.injEq] at h
 obtain ⟨h1, h⟩ := h
 obtain ⟨v2, xs, rfl⟩ : ∃ v l, xs = v :: l := by cases xs with
  | nil => simp at h
  | cons v l => exact ⟨v, l, rfl⟩
 simp only [List.map_cons, List.cons.injEq] at h
 obtain ⟨h2, h⟩ := h
 obtain ⟨v3, xs, rfl⟩ : ∃ v l, xs = v :: l := by cases xs with
  | nil => simp at h
  | cons v l => exact ⟨v, l, rfl⟩
 simp only [List.map_cons, List.cons.injEq] at h
 obtain ⟨h3, h⟩ := h
 obtain ⟨v4, xs, rfl⟩ : ∃ v l, xs = v :: l := by cases xs with
  | nil => simp at h
  | cons v l => exact ⟨v, l, rfl⟩
 simp only [List.map_cons, List.cons.injEq] at h
 obtain ⟨h4, h⟩ := h
 obtain ⟨v5, xs, rfl⟩ : ∃ v l, xs = v :: l := by cases xs with
  | nil => simp at h
  | cons v l => exact ⟨v, l, rfl⟩
 simp only [List.map_cons, List.cons.injEq] at h
 obtain ⟨h5, h⟩ := h
 obtain ⟨v6, xs, rfl⟩ : ∃ v l, xs = v :: l := by cases xs with
  | nil => simp at h
  | cons v l => exact ⟨v, l, rfl⟩
 simp only [List.map_cons, List.cons.injEq] at h
 obtain ⟨h6, h⟩ := h
 have : xs = [] := by simpa using h
 subst this
 obtain ⟨x0, rfl⟩ := dQ h0
 obtain ⟨x1, rfl⟩ := dQ h1
 obtain ⟨x2, rfl⟩ := dQ h2
 obtain ⟨x3, rfl⟩ := gI h3
 obtain ⟨x4, rfl⟩ := dQ h4
 obtain ⟨x5, rfl⟩ := dQ h5
 obtain ⟨x6, rfl⟩ := gI h6
 exact ⟨x0, x1, x2, x3, x4, x5, x6, rfl⟩
theorem zM {xs : List Value} (h : xs.map iR = [3, 1, 1, 3]) : ∃ (x0 : ByteArray) (x1 : Int) (x2 : Int) (x3 : ByteArray), xs = [.string x0, .int .i64 x1, .int .i64 x2, .string x3] := by
 obtain ⟨v0, xs, rfl⟩ : ∃ v l, xs = v :: l := by cases xs with
  | nil => simp at h
  | cons v l => exact ⟨v, l, rfl⟩
 simp only [List.map_cons, List.cons.injEq] at h
 obtain ⟨h0, h⟩ := h
 obtain ⟨v1, xs, rfl⟩ : ∃ v l, xs = v :: l := by cases xs with
  | nil => simp at h
  | cons v l => exact ⟨v, l, rfl⟩
 simp only [List.map_cons, List.cons.injEq] at h
 obtain ⟨h1, h⟩ := h
 obtain ⟨v2, xs, rfl⟩ : ∃ v l, xs = v :: l := by cases xs with
  | nil => simp at h
  | cons v l => exact ⟨v, l, rfl⟩
 simp only [List.map_cons, List.cons.injEq] at h
 obtain ⟨h2, h⟩ := h
 obtain ⟨v3, xs, rfl⟩ : ∃ v l, xs = v :: l := by cases xs with
  | nil => simp at h
  | cons v l => exact ⟨v, l, rfl⟩
 simp only [List.map_cons, List.cons.injEq] at h
 obtain ⟨h3, h⟩ := h
 have : xs = [] := by simpa using h
 subst this
 obtain ⟨x0, rfl⟩ := gI h0
 obtain ⟨x1, rfl⟩ := dQ h1
 obtain ⟨x2, rfl⟩ := dQ h2
 obtain ⟨x3, rfl⟩ := gI h3
 exact ⟨x0, x1, x2, x3, rfl⟩
theorem zN {xs : List Value} (h : xs.map iR = [3, 1]) : ∃ (x0 : ByteArray) (x1 : Int), xs = [.string x0, .int .i64 x1] := by
 obtain ⟨v0, xs, rfl⟩ : ∃ v l, xs = v :: l := by cases xs with
  | nil => simp at h
  | cons v l => exact ⟨v, l, rfl⟩
 simp only [List.map_cons, List.cons.injEq] at h
 obtain ⟨h0, h⟩ := h
 obtain ⟨v1, xs, rfl⟩ : ∃ v l, xs = v :: l := by cases xs with
  | nil => simp at h
  | cons v l => exact ⟨v, l, rfl⟩
 simp only [List.map_cons, List.cons.injEq] at h
 obtain ⟨h1, h⟩ := h
 have : xs = [] := by simpa using h
 subst this
 obtain ⟨x0, rfl⟩ := gI h0
 obtain ⟨x1, rfl⟩ := dQ h1
 exact ⟨x0, x1, rfl⟩
theorem zO {xs : List Value} (h : xs.map iR = [3, 1]) : ∃ (x0 : ByteArray) (x1 : Int), xs = [.string x0, .int .i64 x1] := by
 obtain ⟨v0, xs, rfl⟩ : ∃ v l, xs = v :: l := by cases xs with
  | nil => simp at h
  | cons v l => exact ⟨v, l, rfl⟩
 simp only [List.map_cons, List.cons.injEq] at h
 obtain ⟨h0, h⟩ := h
 obtain ⟨v1, xs, rfl⟩ : ∃ v l, xs = v :: l := by cases xs with
  | nil => simp at h
  | cons v l => exact ⟨v, l, rfl⟩
 simp only [List.map_cons, List.cons.injEq] at h
 obtain ⟨h1, h⟩ := h
 have : xs = [] := by simpa using h
 subst this
 obtain ⟨x0, rfl⟩ := gI h0
 obtain ⟨x1, rfl⟩ := dQ h1
 exact ⟨x0, x1, rfl⟩
theorem zP {xs : List Value} (h : xs.map iR = [1, 1, 3]) : ∃ (x0 : Int) (x1 : Int) (x2 : ByteArray), xs = [.int .i64 x0, .int .i64 x1, .string x2] := by
 obtain ⟨v0, xs, rfl⟩ : ∃ v l, xs = v :: l := by cases xs with
  | nil => simp at h
  | cons v l => exact ⟨v, l, rfl⟩
 simp only [List.map_cons, List.cons.injEq] at h
 obtain ⟨h0, h⟩ := h
 obtain ⟨v1, xs, rfl⟩ : ∃ v l, xs = v :: l := by cases xs with
  | nil => simp at h
  | cons v l => exact ⟨v, l, rfl⟩
 simp only [List.map_cons, List.cons.injEq] at h
 obtain ⟨h1, h⟩ := h
 obtain ⟨v2, xs, rfl⟩ : ∃ v l, xs = v :: l := by cases xs with
  | nil => simp at h
  | cons v l => exact ⟨v, l, rfl⟩
 simp only [List.map_cons, List.cons.injEq] at h
 obtain ⟨h2, h⟩ := h
 have : xs = [] := by simpa using h
 subst this
 obtain ⟨x0, rfl⟩ := dQ h0
 obtain ⟨x1, rfl⟩ := dQ h1
 obtain ⟨x2, rfl⟩ := gI h2
 exact ⟨x0, x1, x2, rfl⟩
theorem zQ {xs : List Value} (h : xs.map iR = [1, 1, 1, 3, 1, 1, 3]) : ∃ (x0 : Int) (x1 : Int) (x2 : Int) (x3 : ByteArray) (x4 : Int) (x5 : Int) (x6 : ByteArray), xs = [.int .i64 x0, .int .i64 x1, .int .i64 x2, .string x3, .int .i64 x4, .int .i64 x5, .string x6] := by
 obtain ⟨v0, xs, rfl⟩ : ∃ v l, xs = v :: l := by cases xs with
  | nil => simp at h
  | cons v l => exact ⟨v, l, rfl⟩
 simp only [List.map_cons, List.cons.injEq] at h
 obtain ⟨h0, h⟩ := h
 obtain ⟨v1, xs, rfl⟩ : ∃ v l, xs = v :: l := by cases xs with
  | nil => simp at h
  | cons v l => exact ⟨v, l, rfl⟩
 simp only [List.map_cons, List.cons.injEq] at h
 obtain ⟨h1, h⟩ := h
 obtain ⟨v2, xs, rfl⟩ : ∃ v l, xs = v :: l := by cases xs with
  | nil => simp at h
  | cons v l => exact ⟨v, l, rfl⟩
 simp only [List.map_cons, List.cons.injEq] at h
 obtain ⟨h2, h⟩ := h
 obtain ⟨v3, xs, rfl⟩ : ∃ v l, xs = v :: l := by cases xs with
  | nil => simp at h
  | cons v l => exact ⟨v, l, rfl⟩
 simp only [List.map_cons, List.cons.injEq] at h
 obtain ⟨h3, h⟩ := h
 obtain ⟨v4, xs, rfl⟩ : ∃ v l, xs = v :: l := by cases xs with
  | nil => simp at h
  | cons v l => exact ⟨v, l, rfl⟩
 simp only [List.map_cons, List.cons.injEq] at h
 obtain ⟨h4, h⟩ := h
 obtain ⟨v5, xs, rfl⟩ : ∃ v l, xs = v :: l := by cases xs with
  | nil => simp at h
  | cons v l => exact ⟨v, l, rfl⟩
 simp only [List.map_cons, List.cons.injEq] at h
 obtain ⟨h5, h⟩ := h
 obtain ⟨v6, xs, rfl⟩ : ∃ v l, xs = v :: l := by cases xs with
  | nil => simp at h
  | cons v l => exact ⟨v, l, rfl⟩
 simp only [List.map_cons, List.cons.injEq] at h
 obtain ⟨h6, h⟩ := h
 have : xs = [] := by simpa using h
 subst this
 obtain ⟨x0, rfl⟩ := dQ h0
 obtain ⟨x1, rfl⟩ := dQ h1
 obtain ⟨x2, rfl⟩ := dQ h2
 obtain ⟨x3, rfl⟩ := gI h3
 obtain ⟨x4, rfl⟩ := dQ h4
 obtain ⟨x5, rfl⟩ := dQ h5
 obtain ⟨x6, rfl⟩ := gI h6
 exact ⟨x0, x1, x2, x3, x4, x5, x6, rfl⟩
theorem zR {xs : List Value} (h : xs.map iR = [3, 1, 1, 3]) : ∃ (x0 : ByteArray) (x1 : Int) (x2 : Int) (x3 : ByteArray), xs = [.string x0, .int .i64 x1, .int .i64 x2, .string x3] := by
 obtain ⟨v0, xs, rfl⟩ : ∃ v l, xs = v :: l := by cases xs with
  | nil => simp at h
  | cons v l => exact ⟨v, l, rfl⟩
 simp only [List.map_cons, List.cons.injEq] at h
 obtain ⟨h0, h⟩ := h
 obtain ⟨v1, xs, rfl⟩ : ∃ v l, xs = v :: l := by cases xs with
  | nil => simp at h
  | cons v l => exact ⟨v, l, rfl⟩
 simp only [List.map_cons, List.cons.injEq] at h
 obtain ⟨h1, h⟩ := h
 obtain ⟨v2, xs, rfl⟩ : ∃ v l, xs = v :: l := by cases xs with
  | nil => simp at h
  | cons v l => exact ⟨v, l, rfl⟩
 simp only [List.map_cons, List.cons.injEq] at h
 obtain ⟨h2, h⟩ := h
 obtain ⟨v3, xs, rfl⟩ : ∃ v l, xs = v :: l := by cases xs with
  | nil => simp at h
  | cons v l => exact ⟨v, l, rfl⟩
 simp only [List.map_cons, List.cons.injEq] at h
 obtain ⟨h3, h⟩ := h
 have : xs = [] := by simpa using h
 subst this
 obtain ⟨x0, rfl⟩ := gI h0
 obtain ⟨x1, rfl⟩ := dQ h1
 obtain ⟨x2, rfl⟩ := dQ h2
 obtain ⟨x3, rfl⟩ := gI h3
 exact ⟨x0, x1, x2, x3, rfl⟩
set_option maxHeartbeats 1000000 in
theorem b6V : EqT Tryz.prog 73 [1, 1, 3] := by
 refine ⟨by decide, fun w xs ys hx hy => ?_, fun w xs ys hx hy => ?_, fun op x y xs ys w => run_eqGuard_agg w op 73 x y xs ys Tryz.eqGuardType73⟩
 ·obtain ⟨x0, x1, x2, hx⟩ := a1X hx
  obtain ⟨y0, y1, y2, hy⟩ := a1X hy
  subst hx; subst hy
  simp [go_sem, pV, eqV, gB, dP]
  (repeat' split) <;> simp_all
 ·obtain ⟨x0, x1, x2, hx⟩ := a1X hx
  obtain ⟨y0, y1, y2, hy⟩ := a1X hy
  subst hx; subst hy
  simp [go_sem, pV, eqV, gB, dP]
  (repeat' split) <;> simp_all
set_option maxHeartbeats 1000000 in
theorem b5C : EqT Tryz.prog 104 [1, 1, 1, 3, 1, 1, 3] := by
 refine ⟨by decide, fun w xs ys hx hy => ?_, fun w xs ys hx hy => ?_, fun op x y xs ys w => run_eqGuard_agg w op 104 x y xs ys Tryz.eqGuardType104⟩
 ·obtain ⟨x0, x1, x2, x3, x4, x5, x6, hx⟩ := zL hx
  obtain ⟨y0, y1, y2, y3, y4, y5, y6, hy⟩ := zL hy
  subst hx; subst hy
  simp [go_sem, pV, eqV, gB, dP]
  (repeat' split) <;> simp_all
 ·obtain ⟨x0, x1, x2, x3, x4, x5, x6, hx⟩ := zL hx
  obtain ⟨y0, y1, y2, y3, y4, y5, y6, hy⟩ := zL hy
  subst hx; subst hy
  simp [go_sem, pV, eqV, gB, dP]
  (repeat' split) <;> simp_all
set_option maxHeartbeats 1000000 in
theorem b5D : EqT Tryz.prog 110 [3, 1, 1, 3] := by
 refine ⟨by decide, fun w xs ys hx hy => ?_, fun w xs ys hx hy => ?_, fun op x y xs ys w => run_eqGuard_agg w op 110 x y xs ys Tryz.eqGuardType110⟩
 ·obtain ⟨x0, x1, x2, x3, hx⟩ := zM hx
  obtain ⟨y0, y1, y2, y3, hy⟩ := zM hy
  subst hx; subst hy
  simp [go_sem, pV, eqV, gB, dP]
  (repeat' split) <;> simp_all
 ·obtain ⟨x0, x1, x2, x3, hx⟩ := zM hx
  obtain ⟨y0, y1, y2, y3, hy⟩ := zM hy
  subst hx; subst hy
  simp [go_sem, pV, eqV, gB, dP]
  (repeat' split) <;> simp_all
set_option maxHeartbeats 1000000 in
theorem b5E : EqT Tryz.prog 113 [3, 1] := by
 refine ⟨by decide, fun w xs ys hx hy => ?_, fun w xs ys hx hy => ?_, fun op x y xs ys w => run_eqGuard_agg w op 113 x y xs ys Tryz.eqGuardType113⟩
 ·obtain ⟨x0, x1, hx⟩ := zN hx
  obtain ⟨y0, y1, hy⟩ := zN hy
  subst hx; subst hy
  simp [go_sem, pV, eqV, gB, dP]
  (repeat' split) <;> simp_all
 ·obtain ⟨x0, x1, hx⟩ := zN hx
  obtain ⟨y0, y1, hy⟩ := zN hy
  subst hx; subst hy
  simp [go_sem, pV, eqV, gB, dP]
  (repeat' split) <;> simp_all
set_option maxHeartbeats 1000000 in
theorem b5F : EqT Tryz.prog 128 [3, 1] := by
 refine ⟨by decide, fun w xs ys hx hy => ?_, fun w xs ys hx hy => ?_, fun op x y xs ys w => run_eqGuard_agg w op 128 x y xs ys Tryz.eqGuardType128⟩
 ·obtain ⟨x0, x1, hx⟩ := zO hx
  obtain ⟨y0, y1, hy⟩ := zO hy
  subst hx; subst hy
  simp [go_sem, pV, eqV, gB, dP]
  (repeat' split) <;> simp_all
 ·obtain ⟨x0, x1, hx⟩ := zO hx
  obtain ⟨y0, y1, hy⟩ := zO hy
  subst hx; subst hy
  simp [go_sem, pV, eqV, gB, dP]
  (repeat' split) <;> simp_all
set_option maxHeartbeats 1000000 in
theorem b5G : EqT Tryz.prog 173 [1, 1, 3] := by
 refine ⟨by decide, fun w xs ys hx hy => ?_, fun w xs ys hx hy => ?_, fun op x y xs ys w => run_eqGuard_agg w op 173 x y xs ys Tryz.eqGuardType173⟩
 ·obtain ⟨x0, x1, x2, hx⟩ := zP hx
  obtain ⟨y0, y1, y2, hy⟩ := zP hy
  subst hx; subst hy
  simp [go_sem, pV, eqV, gB, dP]
  (repeat' split) <;> simp_all
 ·obtain ⟨x0, x1, x2, hx⟩ := zP hx
  obtain ⟨y0, y1, y2, hy⟩ := zP hy
  subst hx; subst hy
  simp [go_sem, pV, eqV, gB, dP]
  (repeat' split) <;> simp_all
set_option maxHeartbeats 1000000 in
theorem b5H : EqT Tryz.prog 175 [1, 1, 1, 3, 1, 1, 3] := by
 refine ⟨by decide, fun w xs ys hx hy => ?_, fun w xs ys hx hy => ?_, fun op x y xs ys w => run_eqGuard_agg w op 175 x y xs ys Tryz.eqGuardType175⟩
 ·obtain ⟨x0, x1, x2, x3, x4, x5, x6, hx⟩ := zQ hx
  obtain ⟨y0, y1, y2, y3, y4, y5, y6, hy⟩ := zQ hy
  subst hx; subst hy
  simp [go_sem, pV, eqV, gB, dP]
  (repeat' split) <;> simp_all
 ·obtain ⟨x0, x1, x2, x3, x4, x5, x6, hx⟩ := zQ hx
  obtain ⟨y0, y1, y2, y3, y4, y5, y6, hy⟩ := zQ hy
  subst hx; subst hy
  simp [go_sem, pV, eqV, gB, dP]
  (repeat' split) <;> simp_all
set_option maxHeartbeats 1000000 in
theorem b5I : EqT Tryz.prog 197 [3, 1, 1, 3] := by
 refine ⟨by decide, fun w xs ys hx hy => ?_, fun w xs ys hx hy => ?_, fun op x y xs ys w => run_eqGuard_agg w op 197 x y xs ys Tryz.eqGuardType197⟩
 ·obtain ⟨x0, x1, x2, x3, hx⟩ := zR hx
  obtain ⟨y0, y1, y2, y3, hy⟩ := zR hy
  subst hx; subst hy
  simp [go_sem, pV, eqV, gB, dP]
  (repeat' split) <;> simp_all
 ·obtain ⟨x0, x1, x2, x3, hx⟩ := zR hx
  obtain ⟨y0, y1, y2, y3, hy⟩ := zR hy
  subst hx; subst hy
  simp [go_sem, pV, eqV, gB, dP]
  (repeat' split) <;> simp_all
theorem a2C : ∀ t, eqk t ≠ [] → EqT Tryz.prog t (eqk t) := by
 intro t h
 unfold eqk at h ⊢
 by_cases e73 : t = 73
 ·subst e73; exact b6V
 simp only [e73, if_false] at h ⊢
 by_cases e104 : t = 104
 ·subst e104; exact b5C
 simp only [e104, if_false] at h ⊢
 by_cases e110 : t = 110
 ·subst e110; exact b5D
 simp only [e110, if_false] at h ⊢
 by_cases e113 : t = 113
 ·subst e113; exact b5E
 simp only [e113, if_false] at h ⊢
 by_cases e128 : t = 128
 ·subst e128; exact b5F
 simp only [e128, if_false] at h ⊢
 by_cases e173 : t = 173
 ·subst e173; exact b5G
 simp only [e173, if_false] at h ⊢
 by_cases e175 : t = 175
 ·subst e175; exact b5H
 simp only [e175, if_false] at h ⊢
 by_cases e197 : t = 197
 ·subst e197; exact b5I
 simp only [e197, if_false] at h ⊢
 exact (h rfl).elim
noncomputable def EV (C : Ctx) : Env := ⟨Tryz.prog, tt, C, eqk⟩
theorem EV_T (C : Ctx) : (EV C).T = tt := rfl
theorem EV_q (C : Ctx) : (EV C).eqk = eqk := rfl
attribute [go_sem] tts EV_T EV_q eqk
theorem reg {C : Ctx} {id : Nat} {ops : List Oper} {F : Ex → St → Prop} {st : St} (h : vcRun (EV C) ops ops st (F .normal) ⟨⟩) : WP Tryz.prog C (.region id ops.toArray false) F st := a3Y (E := EV C) ttOK a2C h.out
instance nReg {C : Ctx} {id : Nat} {ops : List Oper} {F : Ex → St → Prop} {st : St} : Ny (WP Tryz.prog C (.region id ops.toArray false) F st) (vcRun (EV C) ops ops st (F .normal) ⟨⟩) := ⟨reg⟩
instance nCond {C : Ctx} {c : Operand} {x y : Code} {F : Ex → St → Prop} {st : St} : Ny (WP Tryz.prog C (.cond c x y) F st) (Nm (cndK (ev st c) (WP Tryz.prog C x F st) (WP Tryz.prog C y F st) ⟨⟩)) := ⟨fun h => by obtain ⟨b, hs, h1, h2⟩ := h; exact b3J (E := EV C) hs h1 h2⟩
instance clT {C : Ctx} {f : Nat} {args args' : List SV} {res : SV} {st : St} {K : St → SV → Prop} : Cy Tryz.prog f args' res (CallT (EV C) f args st K ⟨⟩) (args.map (eB (aW st.h (dE args))) = args' ∧ args'.all bL = true) (Nm (K ⟨st.t, aW st.h (dE args) ++ adH res.all⟩ (adS (aW st.h (dE args)).length res))) := ⟨fun h o k => ⟨CallS.frz (E := EV C) h o.1 o.2 k⟩⟩
instance clD {C : Ctx} {f : Nat} {args args' : List SV} {res : SV} {h : List HB} {k : SV → Prop} : Cy Tryz.prog f args' res (CallD (EV C) f args h k ⟨⟩) ((args.map (eB h) = args' ∧ args'.all bL = true) ∧ res.all.all isD = true) (Nm (k res)) := ⟨fun hf o hk => CallD.of_fn (E := EV C) hf o.1.1 o.1.2 o.2 hk⟩
instance clG {C : Ctx} {f : Nat} {args args' : List SV} {res : SV} {h : List HB} {k : List HB → SV → Prop} : Cy Tryz.prog f args' res (CallG (EV C) f args h k ⟨⟩) (args.map (eB (aW h (dE args))) = args' ∧ args'.all bL = true) (Nm (k (aW h (dE args) ++ adH res.all) (adS (aW h (dE args)).length res))) := ⟨fun hf o hk => CallG.frz (E := EV C) hf o.1 o.2 hk⟩
theorem fol : Tryz.prog.follows .mixedOrders = true := by kernel_rfl
theorem regd {C : Ctx} {id : Nat} {ops : List Oper} {F : Ex → St → Prop} {st : St} (hB : Region.lexB .any ops.toArray = true) (h : vcDRun (EV C) ops ops st (F .normal) ⟨⟩) : WP Tryz.prog C (.region id ops.toArray true) F st := a9v (E := EV C) ttOK a2C fol hB h.out
theorem ent {f : Nat} {fn : Func} {c : Code} {rs : List ResultVar} {args : List SV} {res : SV} (hf : Tryz.prog.funcs[f]? = some fn) (hb : fn.body = some c) (hcall : ∀ x w, (callFunc f x).run Tryz.prog w = .ok (.enter f x) w) (hres : fn.results = rs.toArray)
    (h : ∀ C : Ctx, WP Tryz.prog C c (bZ Tryz.prog C [] (a8d (EV C) rs res)) (st0 args fn.ntmps)) : FnC Tryz.prog f args res := FnC.of_wp (eqk := eqk) ttOK hf hb hcall hres fun C _ => h C
theorem caldo {C : Ctx} {f : Nat} {args args' : List SV} {res : SV} {h : List HB} {k : SV → Prop} (hf : FnC Tryz.prog f args' res) (h1 : args.map (dB h) = args') (h2 : args'.all bL = true) (h3 : res.all.all isD = true) (h4 : res.all.all iE = true) (hk : k res) : CallD (EV C) f args h k ⟨⟩ := CallD.of_own (E := EV C) hf h1 h2 h3 h4 hk
theorem calo {C : Ctx} {f : Nat} {args args' : List SV} {res : SV} {st : St} {K : St → SV → Prop} (h : FnC Tryz.prog f args' res) (he : args.map (dB (aW st.h (dE args))) = args') (hfree : args'.all bL = true) (hres : res.all.all iE = true) (k : K ⟨st.t, aW st.h (dE args) ++ adG (fun _ => none) 0 res.all⟩ (adS (aW st.h (dE args)).length res)) : CallT (EV C) f args st K ⟨⟩ := ⟨CallS.lendF (E := EV C) h he hfree hres k⟩
theorem cali {C : Ctx} {f ty sz id : Nat} {rows rows' : List (List D)} {args' rest : List SV} {st : St} {K : St → SV → Prop} (h : FnI Tryz.prog f ty sz rows args' false rows') (hid : bO (aW st.h (dE rest)) id = .row ty sz rows true) (he : rest.map (eB (aW st.h (dE rest))) = args') (hfree : args'.all bL = true) (k : K ⟨st.t.map (xJ id), setH ((aW st.h (dE rest)).map (qC id)) id (.row ty sz rows' true)⟩ (.o (.s id))) : CallT (EV C) f (.o (.s id) :: rest) st K ⟨⟩ := ⟨CallS.give (E := EV C) h hid he hfree (by simpa using k)⟩
theorem calj {C : Ctx} {f ty sz id : Nat} {rows rows' : List (List D)} {args' rest : List SV} {st : St} {K : St → SV → Prop} (h : FnI Tryz.prog f ty sz rows args' true rows') (hid : bO (aW st.h (dE rest)) id = .row ty sz rows true) (he : rest.map (eB (aW st.h (dE rest))) = args') (hfree : args'.all bL = true) (k : K ⟨st.t, setH (aW st.h (dE rest)) id (.row ty sz rows' true)⟩ (.t [])) : CallT (EV C) f (.o (.s id) :: rest) st K ⟨⟩ := ⟨CallS.give (E := EV C) h hid he hfree (by simpa using k)⟩
theorem cale {C : Ctx} {f : Nat} {args args' : List SV} {res : SV} {st : St} {K : St → SV → Prop} (h : FnC Tryz.prog f args' res) (he : args.map (dB st.h) = args') (hfree : args'.all bL = true) (hres : res.all.all iE = true) (k : K ⟨st.t, st.h ++ adG (fun _ => none) 0 res.all⟩ (adS st.h.length res)) : CallT (EV C) f args st K ⟨⟩ := ⟨CallS.lend (E := EV C) h he hfree hres k⟩
theorem calr {C : Ctx} {f : Nat} {args args' : List SV} {res : SV} {st : St} {K : St → SV → Prop} (h : FnC Tryz.prog f args' res) (he : args.map (dB st.h) = args') (hfree : args'.all bL = true) (hres : res.all.all iE = true) (k : K ⟨st.t, st.h ++ adH res.all⟩ (adS st.h.length res)) : CallT (EV C) f args st K ⟨⟩ := ⟨CallS.lendW (E := EV C) h he hfree hres k⟩
theorem rS {C : Ctx} {id : Nat} {ops l m : List Oper} {F : Ex → St → Prop} {st : St} (ps ds : List Nat) (hl : rdX ds ops = l) (hm : a2D ops = m) (hok : (a4o ops ps ds && a6J ps ops && ps.all fun i => decide (i < ops.length)) = true) (hb : st.okB = true) (h : vcGRun (EV C) ds ops m st (fun st1 => vcStT (EV C) ops l ds ps ⟨st1.t, st.h⟩ (F .normal) ⟨⟩) ⟨⟩) : WP Tryz.prog C (.region id ops.toArray true) F st := by
 subst hl hm
 have e : (fun st1 : St => vcStT (EV C) ops (rdX ds ops) ds ps ⟨st1.t, st.h⟩ (F .normal) ⟨⟩) = (fun st1 => xK (EV C) ops ds ps ⟨st1.t, st.h⟩ (F .normal)) := funext fun s => propext ⟨fun h => h.out rfl, fun h => ⟨fun _ => h⟩⟩
 rw [e] at h
 simp only [Bool.and_eq_true] at hok
 exact a4q (E := EV C) ttOK a2C fol ps ds hok.1.1 hok.1.2 hok.2 hb h.out
theorem cGo {C : Ctx} {f : Nat} {args args' : List SV} {res : SV} {h : List HB} {k : List HB → SV → Prop} (hf : FnC Tryz.prog f args' res) (he : args.map (dB h) = args') (hfree : args'.all bL = true) (hres : res.all.all iE = true) (hk : k (h ++ adG (fun _ => none) 0 res.all) (adS h.length res)) : CallG (EV C) f args h k ⟨⟩ := CallG.lend (E := EV C) hf he hfree hres hk
theorem cGr {C : Ctx} {f : Nat} {args args' : List SV} {res : SV} {h : List HB} {k : List HB → SV → Prop} (hf : FnC Tryz.prog f args' res) (he : args.map (dB h) = args') (hfree : args'.all bL = true) (hres : res.all.all iE = true) (hk : k (h ++ adH res.all) (adS h.length res)) : CallG (EV C) f args h k ⟨⟩ := CallG.lendW (E := EV C) hf he hfree hres hk
theorem cDr {C : Ctx} {f ty sz : Nat} {rows : List (List D)} {args args' : List SV} {h : List HB} {k : SV → Prop} (hf : FnC Tryz.prog f args' (.o (.w ty sz rows))) (h1 : args.map (dB h) = args') (h2 : args'.all bL = true) (h3 : fV rows = true) (hk : k (.o (.d (.sl rows)))) : CallD (EV C) f args h k ⟨⟩ := CallD.of_lend (E := EV C) hf h1 h2 h3 hk
theorem vO {C : Ctx} {f : Nat} {args args' : List SV} {res : SV} {st : St} {K : St → SV → Prop} (h : FnC Tryz.prog f args' res) (k : Nm (K ⟨st.t, aW st.h (dE args) ++ adG (fun _ => none) 0 res.all⟩ (adS (aW st.h (dE args)).length res))) (he : args.map (dB (aW st.h (dE args))) = args' := by simp only [go_sem, qH] <;> fail) (hfree : args'.all bL = true := by simp only [go_sem, qH] <;> fail) (hres : res.all.all iE = true := by simp only [go_sem, qH] <;> fail) : CallT (EV C) f args st K ⟨⟩ := calo h he hfree hres k
theorem vQ {C : Ctx} {f : Nat} {args args' : List SV} {res : SV} {h : List HB} {k : SV → Prop} (hf : FnC Tryz.prog f args' res) (hk : Nm (k res)) (h1 : args.map (dB h) = args' := by simp only [go_sem, qH] <;> fail) (h2 : args'.all bL = true := by simp only [go_sem, qH] <;> fail) (h3 : res.all.all isD = true := by simp only [go_sem, qH] <;> fail) (h4 : res.all.all iE = true := by simp only [go_sem, qH] <;> fail) : CallD (EV C) f args h k ⟨⟩ := caldo hf h1 h2 h3 h4 hk
theorem vI {C : Ctx} {f ty sz id : Nat} {rows rows' : List (List D)} {args' rest : List SV} {st : St} {K : St → SV → Prop} (h : FnI Tryz.prog f ty sz rows args' false rows') (k : Nm (K ⟨st.t.map (xJ id), setH ((aW st.h (dE rest)).map (qC id)) id (.row ty sz rows' true)⟩ (.o (.s id)))) (hid : bO (aW st.h (dE rest)) id = .row ty sz rows true := by simp only [go_sem, qH] <;> fail) (he : rest.map (eB (aW st.h (dE rest))) = args' := by simp only [go_sem, qH] <;> fail) (hfree : args'.all bL = true := by simp only [go_sem, qH] <;> fail) : CallT (EV C) f (.o (.s id) :: rest) st K ⟨⟩ := cali h hid he hfree k
theorem vJ {C : Ctx} {f ty sz id : Nat} {rows rows' : List (List D)} {args' rest : List SV} {st : St} {K : St → SV → Prop} (h : FnI Tryz.prog f ty sz rows args' true rows') (k : Nm (K ⟨st.t, setH (aW st.h (dE rest)) id (.row ty sz rows' true)⟩ (.t []))) (hid : bO (aW st.h (dE rest)) id = .row ty sz rows true := by simp only [go_sem, qH] <;> fail) (he : rest.map (eB (aW st.h (dE rest))) = args' := by simp only [go_sem, qH] <;> fail) (hfree : args'.all bL = true := by simp only [go_sem, qH] <;> fail) : CallT (EV C) f (.o (.s id) :: rest) st K ⟨⟩ := calj h hid he hfree k
theorem vL {C : Ctx} {f : Nat} {args args' : List SV} {res : SV} {st : St} {K : St → SV → Prop} (h : FnC Tryz.prog f args' res) (k : Nm (K ⟨st.t, st.h ++ adG (fun _ => none) 0 res.all⟩ (adS st.h.length res))) (he : args.map (dB st.h) = args' := by simp only [go_sem, qH] <;> fail) (hfree : args'.all bL = true := by simp only [go_sem, qH] <;> fail) (hres : res.all.all iE = true := by simp only [go_sem, qH] <;> fail) : CallT (EV C) f args st K ⟨⟩ := cale h he hfree hres k
theorem vR {C : Ctx} {f : Nat} {args args' : List SV} {res : SV} {st : St} {K : St → SV → Prop} (h : FnC Tryz.prog f args' res) (k : Nm (K ⟨st.t, st.h ++ adH res.all⟩ (adS st.h.length res))) (he : args.map (dB st.h) = args' := by simp only [go_sem, qH] <;> fail) (hfree : args'.all bL = true := by simp only [go_sem, qH] <;> fail) (hres : res.all.all iE = true := by simp only [go_sem, qH] <;> fail) : CallT (EV C) f args st K ⟨⟩ := calr h he hfree hres k
theorem vG {C : Ctx} {f : Nat} {args args' : List SV} {res : SV} {h : List HB} {k : List HB → SV → Prop} (hf : FnC Tryz.prog f args' res) (hk : Nm (k (h ++ adH res.all) (adS h.length res))) (he : args.map (dB h) = args' := by simp only [go_sem, qH] <;> fail) (hfree : args'.all bL = true := by simp only [go_sem, qH] <;> fail) (hres : res.all.all iE = true := by simp only [go_sem, qH] <;> fail) : CallG (EV C) f args h k ⟨⟩ := cGr hf he hfree hres hk
theorem vD {C : Ctx} {f ty sz : Nat} {rows : List (List D)} {args args' : List SV} {h : List HB} {k : SV → Prop} (hf : FnC Tryz.prog f args' (.o (.w ty sz rows))) (hk : Nm (k (.o (.d (.sl rows))))) (h1 : args.map (dB h) = args' := by simp only [go_sem, qH] <;> fail) (h2 : args'.all bL = true := by simp only [go_sem, qH] <;> fail) (h3 : fV rows = true := by simp only [go_sem, qH] <;> fail) : CallD (EV C) f args h k ⟨⟩ := cDr hf h1 h2 h3 hk
theorem rD {C : Ctx} {id : Nat} {ops : List Oper} {F : Ex → St → Prop} {st : St} (h : vcDRun (EV C) ops ops st (F .normal) ⟨⟩) (hB : Region.lexB .any ops.toArray = true := by kernel_rfl) : WP Tryz.prog C (.region id ops.toArray true) F st := regd hB h
theorem rT {C : Ctx} {id : Nat} {ops l m : List Oper} {F : Ex → St → Prop} {st : St} (ps : List Nat) (ds : List Nat) (h : vcGRun (EV C) ds ops m st (fun st1 => vcStT (EV C) ops l ds ps ⟨st1.t, st.h⟩ (F .normal) ⟨⟩) ⟨⟩) (hl : rdX ds ops = l := by simp only [go_sem]; rfl) (hm : a2D ops = m := by simp only [go_sem]; rfl) (hok : (a4o ops ps ds && a6J ps ops && ps.all fun i => decide (i < ops.length)) = true := by decide +kernel) (hb : st.okB = true := by simp only [go_sem] <;> fail) : WP Tryz.prog C (.region id ops.toArray true) F st := rS ps ds hl hm hok hb h
end Go.Proofs.YtakopfjdmmnjcaaGreat
end
