/- Joined texts. -/
import Derived.Test.YtgpoopjfkplilaaGreatDoorZ05
import Derived.KernelRfl
import Derived.Test.YtgpoopjfkplilaaGreatDoorProg
import Derived.Test.YtgpoopjfkplilaaGreatDoorZ04
set_option linter.all false
section
namespace Go.Sx
open Go Go.RowKit
structure Hd (Q : Prop) : Prop where
 out : Q
theorem aH {P Q : Prop} (h : Q) (t : Hd Q → P := by intro h; (repeat' (with_reducible first | refine nY ?_ | (refine mX ?_; try simp only [go_sem]) | refine kD ?_ | refine rD ?_ | refine aO ?_ | fail)); exact h.out) : P := t ⟨h⟩
theorem lC {C0 : Prop} (c0 : C0) {P Q : Prop} (h : Q) (t : C0 → Hd Q → P := by intro c0 h; (repeat' (with_reducible first | refine nY ?_ | (refine mX ?_; try simp only [go_sem]) | refine kD ?_ | refine rD ?_ | refine cP c0 ?_ | refine aO ?_ | fail)); exact h.out) : P := t c0 ⟨h⟩
theorem b3h {C0 : Prop} (c0 : C0) {C1 : Prop} (c1 : C1) {P Q : Prop} (h : Q) (t : C0 → C1 → Hd Q → P := by intro c0 c1 h; (repeat' (with_reducible first | refine nY ?_ | (refine mX ?_; try simp only [go_sem]) | refine kD ?_ | refine rD ?_ | refine cP c0 ?_ | refine cP c1 ?_ | refine aO ?_ | fail)); exact h.out) : P := t c0 c1 ⟨h⟩
theorem iG {P Q : Prop} (h : Q) (t : Hd Q → P := by intro h; (repeat' (with_reducible first | refine nY ?_ | (refine mX ?_; try simp only [go_sem, q0]) | refine kD ?_ | refine rD ?_ | refine aO ?_ | fail)); exact h.out) : P := t ⟨h⟩
theorem iX {C0 : Prop} (c0 : C0) {P Q : Prop} (h : Q) (t : C0 → Hd Q → P := by intro c0 h; (repeat' (with_reducible first | refine nY ?_ | (refine mX ?_; try simp only [go_sem, q0]) | refine kD ?_ | refine rD ?_ | refine cP c0 ?_ | refine aO ?_ | fail)); exact h.out) : P := t c0 ⟨h⟩
theorem a3A {C0 : Prop} (c0 : C0) {C1 : Prop} (c1 : C1) {P Q : Prop} (h : Q) (t : C0 → C1 → Hd Q → P := by intro c0 c1 h; (repeat' (with_reducible first | refine nY ?_ | (refine mX ?_; try simp only [go_sem, q0]) | refine kD ?_ | refine rD ?_ | refine cP c0 ?_ | refine cP c1 ?_ | refine aO ?_ | fail)); exact h.out) : P := t c0 c1 ⟨h⟩
theorem b7t {C0 : Prop} (c0 : C0) {C1 : Prop} (c1 : C1) {C2 : Prop} (c2 : C2) {P Q : Prop} (h : Q) (t : C0 → C1 → C2 → Hd Q → P := by intro c0 c1 c2 h; (repeat' (with_reducible first | refine nY ?_ | (refine mX ?_; try simp only [go_sem, q0]) | refine kD ?_ | refine rD ?_ | refine cP c0 ?_ | refine cP c1 ?_ | refine cP c2 ?_ | refine aO ?_ | fail)); exact h.out) : P := t c0 c1 c2 ⟨h⟩
theorem kC {P Q : Prop} (h : Q) (t : Hd Q → P := by intro h; (repeat' (with_reducible first | refine nY ?_ | (refine mX ?_; try simp only [go_sem, q0, q1]) | refine kD ?_ | refine rD ?_ | refine aO ?_ | fail)); exact h.out) : P := t ⟨h⟩
theorem uR {C0 : Prop} (c0 : C0) {P Q : Prop} (h : Q) (t : C0 → Hd Q → P := by intro c0 h; (repeat' (with_reducible first | refine nY ?_ | (refine mX ?_; try simp only [go_sem, q0, q1]) | refine kD ?_ | refine rD ?_ | refine cP c0 ?_ | refine aO ?_ | fail)); exact h.out) : P := t c0 ⟨h⟩
theorem uS {C0 : Prop} (c0 : C0) {C1 : Prop} (c1 : C1) {P Q : Prop} (h : Q) (t : C0 → C1 → Hd Q → P := by intro c0 c1 h; (repeat' (with_reducible first | refine nY ?_ | (refine mX ?_; try simp only [go_sem, q0, q1]) | refine kD ?_ | refine rD ?_ | refine cP c0 ?_ | refine cP c1 ?_ | refine aO ?_ | fail)); exact h.out) : P := t c0 c1 ⟨h⟩
theorem b7u {C0 : Prop} (c0 : C0) {C1 : Prop} (c1 : C1) {C2 : Prop} (c2 : C2) {C3 : Prop} (c3 : C3) {P Q : Prop} (h : Q) (t : C0 → C1 → C2 → C3 → Hd Q → P := by intro c0 c1 c2 c3 h; (repeat' (with_reducible first | refine nY ?_ | (refine mX ?_; try simp only [go_sem, q0, q1]) | refine kD ?_ | refine rD ?_ | refine cP c0 ?_ | refine cP c1 ?_ | refine cP c2 ?_ | refine cP c3 ?_ | refine aO ?_ | fail)); exact h.out) : P := t c0 c1 c2 c3 ⟨h⟩
theorem lQ {P Q : Prop} (h : Q) (t : Hd Q → P := by intro h; (repeat' (with_reducible first | refine nY ?_ | (refine mX ?_; try simp only [go_sem, q0, q1, q2]) | refine kD ?_ | refine rD ?_ | refine aO ?_ | fail)); exact h.out) : P := t ⟨h⟩
theorem gX {C0 : Prop} (c0 : C0) {P Q : Prop} (h : Q) (t : C0 → Hd Q → P := by intro c0 h; (repeat' (with_reducible first | refine nY ?_ | (refine mX ?_; try simp only [go_sem, q0, q1, q2]) | refine kD ?_ | refine rD ?_ | refine cP c0 ?_ | refine aO ?_ | fail)); exact h.out) : P := t c0 ⟨h⟩
theorem a7n {C0 : Prop} (c0 : C0) {C1 : Prop} (c1 : C1) {P Q : Prop} (h : Q) (t : C0 → C1 → Hd Q → P := by intro c0 c1 h; (repeat' (with_reducible first | refine nY ?_ | (refine mX ?_; try simp only [go_sem, q0, q1, q2]) | refine kD ?_ | refine rD ?_ | refine cP c0 ?_ | refine cP c1 ?_ | refine aO ?_ | fail)); exact h.out) : P := t c0 c1 ⟨h⟩
theorem b8y {C0 : Prop} (c0 : C0) {C1 : Prop} (c1 : C1) {C2 : Prop} (c2 : C2) {P Q : Prop} (h : Q) (t : C0 → C1 → C2 → Hd Q → P := by intro c0 c1 c2 h; (repeat' (with_reducible first | refine nY ?_ | (refine mX ?_; try simp only [go_sem, q0, q1, q2]) | refine kD ?_ | refine rD ?_ | refine cP c0 ?_ | refine cP c1 ?_ | refine cP c2 ?_ | refine aO ?_ | fail)); exact h.out) : P := t c0 c1 c2 ⟨h⟩
theorem b7v {C0 : Prop} (c0 : C0) {C1 : Prop} (c1 : C1) {C2 : Prop} (c2 : C2) {C3 : Prop} (c3 : C3) {P Q : Prop} (h : Q) (t : C0 → C1 → C2 → C3 → Hd Q → P := by intro c0 c1 c2 c3 h; (repeat' (with_reducible first | refine nY ?_ | (refine mX ?_; try simp only [go_sem, q0, q1, q2]) | refine kD ?_ | refine rD ?_ | refine cP c0 ?_ | refine cP c1 ?_ | refine cP c2 ?_ | refine cP c3 ?_ | refine aO ?_ | fail)); exact h.out) : P := t c0 c1 c2 c3 ⟨h⟩
theorem iW {P Q : Prop} (h : Q) (t : Hd Q → P := by intro h; (repeat' (with_reducible first | refine nY ?_ | (refine mX ?_; try simp only [go_sem, q0, q1, q2, q3]) | refine kD ?_ | refine rD ?_ | refine aO ?_ | fail)); exact h.out) : P := t ⟨h⟩
theorem tQ {C0 : Prop} (c0 : C0) {P Q : Prop} (h : Q) (t : C0 → Hd Q → P := by intro c0 h; (repeat' (with_reducible first | refine nY ?_ | (refine mX ?_; try simp only [go_sem, q0, q1, q2, q3]) | refine kD ?_ | refine rD ?_ | refine cP c0 ?_ | refine aO ?_ | fail)); exact h.out) : P := t c0 ⟨h⟩
theorem xM {C0 : Prop} (c0 : C0) {C1 : Prop} (c1 : C1) {P Q : Prop} (h : Q) (t : C0 → C1 → Hd Q → P := by intro c0 c1 h; (repeat' (with_reducible first | refine nY ?_ | (refine mX ?_; try simp only [go_sem, q0, q1, q2, q3]) | refine kD ?_ | refine rD ?_ | refine cP c0 ?_ | refine cP c1 ?_ | refine aO ?_ | fail)); exact h.out) : P := t c0 c1 ⟨h⟩
theorem b6t {C0 : Prop} (c0 : C0) {C1 : Prop} (c1 : C1) {C2 : Prop} (c2 : C2) {P Q : Prop} (h : Q) (t : C0 → C1 → C2 → Hd Q → P := by intro c0 c1 c2 h; (repeat' (with_reducible first | refine nY ?_ | (refine mX ?_; try simp only [go_sem, q0, q1, q2, q3]) | refine kD ?_ | refine rD ?_ | refine cP c0 ?_ | refine cP c1 ?_ | refine cP c2 ?_ | refine aO ?_ | fail)); exact h.out) : P := t c0 c1 c2 ⟨h⟩
theorem a8Y {C0 : Prop} (c0 : C0) {C1 : Prop} (c1 : C1) {C2 : Prop} (c2 : C2) {C3 : Prop} (c3 : C3) {P Q : Prop} (h : Q) (t : C0 → C1 → C2 → C3 → Hd Q → P := by intro c0 c1 c2 c3 h; (repeat' (with_reducible first | refine nY ?_ | (refine mX ?_; try simp only [go_sem, q0, q1, q2, q3]) | refine kD ?_ | refine rD ?_ | refine cP c0 ?_ | refine cP c1 ?_ | refine cP c2 ?_ | refine cP c3 ?_ | refine aO ?_ | fail)); exact h.out) : P := t c0 c1 c2 c3 ⟨h⟩
theorem b8z {C0 : Prop} (c0 : C0) {C1 : Prop} (c1 : C1) {C2 : Prop} (c2 : C2) {C3 : Prop} (c3 : C3) {C4 : Prop} (c4 : C4) {C5 : Prop} (c5 : C5) {P Q : Prop} (h : Q) (t : C0 → C1 → C2 → C3 → C4 → C5 → Hd Q → P := by intro c0 c1 c2 c3 c4 c5 h; (repeat' (with_reducible first | refine nY ?_ | (refine mX ?_; try simp only [go_sem, q0, q1, q2, q3]) | refine kD ?_ | refine rD ?_ | refine cP c0 ?_ | refine cP c1 ?_ | refine cP c2 ?_ | refine cP c3 ?_ | refine cP c4 ?_ | refine cP c5 ?_ | refine aO ?_ | fail)); exact h.out) : P := t c0 c1 c2 c3 c4 c5 ⟨h⟩
theorem tT {P Q : Prop} (h : Q) (t : Hd Q → P := by intro h; (repeat' (with_reducible first | refine nY ?_ | (refine mX ?_; try simp only [go_sem, q0, q1, q2, q3, q4]) | refine kD ?_ | refine rD ?_ | refine aO ?_ | fail)); exact h.out) : P := t ⟨h⟩
theorem qD {C0 : Prop} (c0 : C0) {P Q : Prop} (h : Q) (t : C0 → Hd Q → P := by intro c0 h; (repeat' (with_reducible first | refine nY ?_ | (refine mX ?_; try simp only [go_sem, q0, q1, q2, q3, q4]) | refine kD ?_ | refine rD ?_ | refine cP c0 ?_ | refine aO ?_ | fail)); exact h.out) : P := t c0 ⟨h⟩
theorem a8Z {C0 : Prop} (c0 : C0) {C1 : Prop} (c1 : C1) {P Q : Prop} (h : Q) (t : C0 → C1 → Hd Q → P := by intro c0 c1 h; (repeat' (with_reducible first | refine nY ?_ | (refine mX ?_; try simp only [go_sem, q0, q1, q2, q3, q4]) | refine kD ?_ | refine rD ?_ | refine cP c0 ?_ | refine cP c1 ?_ | refine aO ?_ | fail)); exact h.out) : P := t c0 c1 ⟨h⟩
theorem b6u {C0 : Prop} (c0 : C0) {C1 : Prop} (c1 : C1) {C2 : Prop} (c2 : C2) {P Q : Prop} (h : Q) (t : C0 → C1 → C2 → Hd Q → P := by intro c0 c1 c2 h; (repeat' (with_reducible first | refine nY ?_ | (refine mX ?_; try simp only [go_sem, q0, q1, q2, q3, q4]) | refine kD ?_ | refine rD ?_ | refine cP c0 ?_ | refine cP c1 ?_ | refine cP c2 ?_ | refine aO ?_ | fail)); exact h.out) : P := t c0 c1 c2 ⟨h⟩
theorem b7w {C0 : Prop} (c0 : C0) {C1 : Prop} (c1 : C1) {C2 : Prop} (c2 : C2) {C3 : Prop} (c3 : C3) {P Q : Prop} (h : Q) (t : C0 → C1 → C2 → C3 → Hd Q → P := by intro c0 c1 c2 c3 h; (repeat' (with_reducible first | refine nY ?_ | (refine mX ?_; try simp only [go_sem, q0, q1, q2, q3, q4]) | refine kD ?_ | refine rD ?_ | refine cP c0 ?_ | refine cP c1 ?_ | refine cP c2 ?_ | refine cP c3 ?_ | refine aO ?_ | fail)); exact h.out) : P := t c0 c1 c2 c3 ⟨h⟩
theorem a9a {P Q : Prop} (h : Q) (t : Hd Q → P := by intro h; (repeat' (with_reducible first | refine nY ?_ | (refine mX ?_; try simp only [go_sem, q0, q1, q2, q3, q4, q5]) | refine kD ?_ | refine rD ?_ | refine aO ?_ | fail)); exact h.out) : P := t ⟨h⟩
theorem tV {C0 : Prop} (c0 : C0) {P Q : Prop} (h : Q) (t : C0 → Hd Q → P := by intro c0 h; (repeat' (with_reducible first | refine nY ?_ | (refine mX ?_; try simp only [go_sem, q0, q1, q2, q3, q4, q5]) | refine kD ?_ | refine rD ?_ | refine cP c0 ?_ | refine aO ?_ | fail)); exact h.out) : P := t c0 ⟨h⟩
theorem a2H {C0 : Prop} (c0 : C0) {C1 : Prop} (c1 : C1) {P Q : Prop} (h : Q) (t : C0 → C1 → Hd Q → P := by intro c0 c1 h; (repeat' (with_reducible first | refine nY ?_ | (refine mX ?_; try simp only [go_sem, q0, q1, q2, q3, q4, q5]) | refine kD ?_ | refine rD ?_ | refine cP c0 ?_ | refine cP c1 ?_ | refine aO ?_ | fail)); exact h.out) : P := t c0 c1 ⟨h⟩
theorem b8A {C0 : Prop} (c0 : C0) {C1 : Prop} (c1 : C1) {C2 : Prop} (c2 : C2) {C3 : Prop} (c3 : C3) {P Q : Prop} (h : Q) (t : C0 → C1 → C2 → C3 → Hd Q → P := by intro c0 c1 c2 c3 h; (repeat' (with_reducible first | refine nY ?_ | (refine mX ?_; try simp only [go_sem, q0, q1, q2, q3, q4, q5]) | refine kD ?_ | refine rD ?_ | refine cP c0 ?_ | refine cP c1 ?_ | refine cP c2 ?_ | refine cP c3 ?_ | refine aO ?_ | fail)); exact h.out) : P := t c0 c1 c2 c3 ⟨h⟩
theorem b8B {C0 : Prop} (c0 : C0) {C1 : Prop} (c1 : C1) {C2 : Prop} (c2 : C2) {C3 : Prop} (c3 : C3) {C4 : Prop} (c4 : C4) {P Q : Prop} (h : Q) (t : C0 → C1 → C2 → C3 → C4 → Hd Q → P := by intro c0 c1 c2 c3 c4 h; (repeat' (with_reducible first | refine nY ?_ | (refine mX ?_; try simp only [go_sem, q0, q1, q2, q3, q4, q5]) | refine kD ?_ | refine rD ?_ | refine cP c0 ?_ | refine cP c1 ?_ | refine cP c2 ?_ | refine cP c3 ?_ | refine cP c4 ?_ | refine aO ?_ | fail)); exact h.out) : P := t c0 c1 c2 c3 c4 ⟨h⟩
theorem a9b {P Q : Prop} (h : Q) (t : Hd Q → P := by intro h; (repeat' (with_reducible first | refine nY ?_ | (refine mX ?_; try simp only [go_sem, q0, q1, q2, q3, q4, q5, q6]) | refine kD ?_ | refine rD ?_ | refine aO ?_ | fail)); exact h.out) : P := t ⟨h⟩
theorem a5V {C0 : Prop} (c0 : C0) {P Q : Prop} (h : Q) (t : C0 → Hd Q → P := by intro c0 h; (repeat' (with_reducible first | refine nY ?_ | (refine mX ?_; try simp only [go_sem, q0, q1, q2, q3, q4, q5, q6]) | refine kD ?_ | refine rD ?_ | refine cP c0 ?_ | refine aO ?_ | fail)); exact h.out) : P := t c0 ⟨h⟩
theorem b4W {C0 : Prop} (c0 : C0) {C1 : Prop} (c1 : C1) {P Q : Prop} (h : Q) (t : C0 → C1 → Hd Q → P := by intro c0 c1 h; (repeat' (with_reducible first | refine nY ?_ | (refine mX ?_; try simp only [go_sem, q0, q1, q2, q3, q4, q5, q6]) | refine kD ?_ | refine rD ?_ | refine cP c0 ?_ | refine cP c1 ?_ | refine aO ?_ | fail)); exact h.out) : P := t c0 c1 ⟨h⟩
theorem b8C {C0 : Prop} (c0 : C0) {C1 : Prop} (c1 : C1) {C2 : Prop} (c2 : C2) {P Q : Prop} (h : Q) (t : C0 → C1 → C2 → Hd Q → P := by intro c0 c1 c2 h; (repeat' (with_reducible first | refine nY ?_ | (refine mX ?_; try simp only [go_sem, q0, q1, q2, q3, q4, q5, q6]) | refine kD ?_ | refine rD ?_ | refine cP c0 ?_ | refine cP c1 ?_ | refine cP c2 ?_ | refine aO ?_ | fail)); exact h.out) : P := t c0 c1 c2 ⟨h⟩
theorem a0z {P Q : Prop} (h : Q) (t : Hd Q → P := by intro h; (repeat' (with_reducible first | refine nY ?_ | (refine mX ?_; try simp only [go_sem, q0, q1, q2, q3, q4, q5, q6, q7]) | refine kD ?_ | refine rD ?_ | refine aO ?_ | fail)); exact h.out) : P := t ⟨h⟩
theorem a9c {C0 : Prop} (c0 : C0) {P Q : Prop} (h : Q) (t : C0 → Hd Q → P := by intro c0 h; (repeat' (with_reducible first | refine nY ?_ | (refine mX ?_; try simp only [go_sem, q0, q1, q2, q3, q4, q5, q6, q7]) | refine kD ?_ | refine rD ?_ | refine cP c0 ?_ | refine aO ?_ | fail)); exact h.out) : P := t c0 ⟨h⟩
theorem b3i {C0 : Prop} (c0 : C0) {C1 : Prop} (c1 : C1) {P Q : Prop} (h : Q) (t : C0 → C1 → Hd Q → P := by intro c0 c1 h; (repeat' (with_reducible first | refine nY ?_ | (refine mX ?_; try simp only [go_sem, q0, q1, q2, q3, q4, q5, q6, q7]) | refine kD ?_ | refine rD ?_ | refine cP c0 ?_ | refine cP c1 ?_ | refine aO ?_ | fail)); exact h.out) : P := t c0 c1 ⟨h⟩
theorem a0A {P Q : Prop} (h : Q) (t : Hd Q → P := by intro h; (repeat' (with_reducible first | refine nY ?_ | (refine mX ?_; try simp only [go_sem, q0, q1, q2, q3, q4, q5, q6, q7, q8]) | refine kD ?_ | refine rD ?_ | refine aO ?_ | fail)); exact h.out) : P := t ⟨h⟩
theorem b1I {C0 : Prop} (c0 : C0) {P Q : Prop} (h : Q) (t : C0 → Hd Q → P := by intro c0 h; (repeat' (with_reducible first | refine nY ?_ | (refine mX ?_; try simp only [go_sem, q0, q1, q2, q3, q4, q5, q6, q7, q8]) | refine kD ?_ | refine rD ?_ | refine cP c0 ?_ | refine aO ?_ | fail)); exact h.out) : P := t c0 ⟨h⟩
theorem a9d {C0 : Prop} (c0 : C0) {C1 : Prop} (c1 : C1) {P Q : Prop} (h : Q) (t : C0 → C1 → Hd Q → P := by intro c0 c1 h; (repeat' (with_reducible first | refine nY ?_ | (refine mX ?_; try simp only [go_sem, q0, q1, q2, q3, q4, q5, q6, q7, q8]) | refine kD ?_ | refine rD ?_ | refine cP c0 ?_ | refine cP c1 ?_ | refine aO ?_ | fail)); exact h.out) : P := t c0 c1 ⟨h⟩
theorem oI {P Q : Prop} (h : Q) (t : Hd Q → P := by intro h; (repeat' (with_reducible first | refine nY ?_ | (refine mX ?_; try simp only [go_sem, q0, q1, q2, q3, q4, q5, q6, q7, q8, q9]) | refine kD ?_ | refine rD ?_ | refine aO ?_ | fail)); exact h.out) : P := t ⟨h⟩
theorem b0o {C0 : Prop} (c0 : C0) {P Q : Prop} (h : Q) (t : C0 → Hd Q → P := by intro c0 h; (repeat' (with_reducible first | refine nY ?_ | (refine mX ?_; try simp only [go_sem, q0, q1, q2, q3, q4, q5, q6, q7, q8, q9]) | refine kD ?_ | refine rD ?_ | refine cP c0 ?_ | refine aO ?_ | fail)); exact h.out) : P := t c0 ⟨h⟩
theorem a7o {C0 : Prop} (c0 : C0) {C1 : Prop} (c1 : C1) {P Q : Prop} (h : Q) (t : C0 → C1 → Hd Q → P := by intro c0 c1 h; (repeat' (with_reducible first | refine nY ?_ | (refine mX ?_; try simp only [go_sem, q0, q1, q2, q3, q4, q5, q6, q7, q8, q9]) | refine kD ?_ | refine rD ?_ | refine cP c0 ?_ | refine cP c1 ?_ | refine aO ?_ | fail)); exact h.out) : P := t c0 c1 ⟨h⟩
end Go.Sx
end
section
namespace Go.Proofs.YtgpoopjfkplilaaGreatDoor
open Go Go.Sx Go.RowKit
noncomputable def ttl : List Ty := [.bad,
 .bad,
 ⟨3, 1, 8, [.d (.v (.int .i64 0))], [], 0, .i64⟩,
 ⟨3, 1, 8, [.d (.v (.int .i64 0))], [], 0, .i64⟩,
 ⟨4, 1, 1, [.d (.v (.bool false))], [], 0, .i64⟩,
 ⟨3, 1, 1, [.d (.v (.int .u8 0))], [], 0, .u8⟩,
 ⟨3, 1, 1, [.d (.v (.int .u8 0))], [], 0, .u8⟩,
 ⟨1, 4, 24, [.d (.v (.int .i64 0)), .d (.v (.int .i64 0)), .d (.v (.bool false)), .d (.v (.int .u8 0))], [(0, 2), (1, 3), (2, 4), (3, 6)], 0, .i64⟩,
 ⟨1, 4, 24, [.d (.v (.int .i64 0)), .d (.v (.int .i64 0)), .d (.v (.bool false)), .d (.v (.int .u8 0))], [(0, 2), (1, 3), (2, 4), (3, 6)], 0, .i64⟩,
 ⟨5, 1, 16, [.d (.v (.string ⟨#[]⟩))], [], 0, .i64⟩,
 ⟨5, 1, 16, [.d (.v (.string ⟨#[]⟩))], [], 0, .i64⟩,
 ⟨5, 1, 16, [.d (.v (.string ⟨#[]⟩))], [], 0, .i64⟩,
 .bad,
 .bad,
 .bad,
 .bad,
 .bad,
 .bad,
 .bad,
 .bad,
 .bad,
 .bad,
 ⟨1, 2, 32, [.d (.v (.string ⟨#[]⟩)), .d (.v (.string ⟨#[]⟩))], [(0, 9), (1, 9)], 0, .i64⟩,
 ⟨1, 2, 32, [.d (.v (.string ⟨#[]⟩)), .d (.v (.string ⟨#[]⟩))], [(0, 9), (1, 9)], 0, .i64⟩,
 .bad,
 ⟨2, 1, 24, [.z], [], 81, .i64⟩,
 ⟨2, 1, 24, [.z], [], 86, .i64⟩,
 ⟨1, 3, 56, [.z, .z, .d (.v (.int .i64 0))], [(0, 25), (1, 26), (2, 3)], 0, .i64⟩,
 ⟨1, 3, 56, [.z, .z, .d (.v (.int .i64 0))], [(0, 25), (1, 26), (2, 3)], 0, .i64⟩,
 ⟨2, 1, 24, [.z], [], 90, .i64⟩,
 ⟨1, 4, 80, [.z, .z, .d (.v (.int .i64 0)), .z], [(0, 28), (3, 29)], 0, .i64⟩,
 ⟨1, 4, 80, [.z, .z, .d (.v (.int .i64 0)), .z], [(0, 28), (3, 29)], 0, .i64⟩,
 .bad,
 .bad,
 ⟨1, 2, 32, [.d (.v (.string ⟨#[]⟩)), .d (.v (.string ⟨#[]⟩))], [(0, 9), (1, 9)], 0, .i64⟩,
 .bad,
 .bad,
 .bad,
 .bad,
 ⟨2, 1, 24, [.z], [], 157, .i64⟩,
 ⟨2, 1, 24, [.z], [], 161, .i64⟩,
 ⟨1, 3, 56, [.z, .z, .d (.v (.int .i64 0))], [(0, 39), (1, 40), (2, 3)], 0, .i64⟩,
 ⟨1, 3, 56, [.z, .z, .d (.v (.int .i64 0))], [(0, 39), (1, 40), (2, 3)], 0, .i64⟩,
 ⟨2, 1, 24, [.z], [], 110, .i64⟩,
 ⟨1, 4, 80, [.z, .z, .d (.v (.int .i64 0)), .z], [(0, 42), (3, 43)], 0, .i64⟩,
 ⟨1, 4, 80, [.z, .z, .d (.v (.int .i64 0)), .z], [(0, 42), (3, 43)], 0, .i64⟩,
 .bad,
 .bad,
 .bad,
 .bad,
 ⟨2, 1, 24, [.z], [], 5, .i64⟩,
 .bad,
 .bad,
 ⟨2, 1, 24, [.z], [], 9, .i64⟩,
 .bad,
 .bad,
 .bad,
 .bad,
 .bad,
 .bad,
 .bad,
 .bad,
 .bad,
 .bad,
 .bad,
 .bad,
 .bad,
 .bad,
 .bad,
 .bad,
 .bad,
 .bad,
 .bad,
 .bad,
 .bad,
 .bad,
 .bad,
 .bad,
 .bad,
 .bad,
 ⟨1, 2, 24, [.d (.v (.string ⟨#[]⟩)), .d (.v (.int .i64 0))], [(0, 9), (1, 3)], 0, .i64⟩,
 ⟨1, 2, 24, [.d (.v (.string ⟨#[]⟩)), .d (.v (.int .i64 0))], [(0, 9), (1, 3)], 0, .i64⟩,
 .bad,
 .bad,
 ⟨2, 1, 24, [.z], [], 124, .i64⟩,
 ⟨1, 5, 56, [.d (.v (.int .i64 0)), .d (.v (.int .i64 0)), .d (.v (.bool false)), .d (.v (.int .i64 0)), .z], [(0, 3), (1, 3), (2, 4), (3, 3), (4, 84)], 0, .i64⟩,
 ⟨1, 5, 56, [.d (.v (.int .i64 0)), .d (.v (.int .i64 0)), .d (.v (.bool false)), .d (.v (.int .i64 0)), .z], [(0, 3), (1, 3), (2, 4), (3, 3), (4, 84)], 0, .i64⟩,
 .bad,
 ⟨2, 1, 24, [.z], [], 155, .i64⟩,
 ⟨1, 2, 40, [.d (.v (.string ⟨#[]⟩)), .z], [(0, 9), (1, 88)], 0, .i64⟩,
 ⟨1, 2, 40, [.d (.v (.string ⟨#[]⟩)), .z], [(0, 9), (1, 88)], 0, .i64⟩,
 .bad,
 .bad,
 .bad,
 .bad,
 .bad,
 .bad,
 .bad,
 .bad,
 .bad,
 .bad,
 .bad,
 .bad,
 .bad,
 .bad,
 .bad,
 .bad,
 .bad,
 ⟨2, 1, 24, [.z], [], 203, .i64⟩,
 ⟨1, 2, 40, [.d (.v (.string ⟨#[]⟩)), .z], [(0, 9), (1, 108)], 0, .i64⟩,
 ⟨1, 2, 40, [.d (.v (.string ⟨#[]⟩)), .z], [(0, 9), (1, 108)], 0, .i64⟩,
 .bad,
 .bad,
 .bad,
 .bad,
 .bad,
 .bad,
 .bad,
 .bad,
 ⟨1, 3, 40, [.z, .d (.v (.int .i64 0)), .d (.v (.int .i64 0))], [(0, 50), (1, 3), (2, 3)], 0, .i64⟩,
 ⟨1, 3, 40, [.z, .d (.v (.int .i64 0)), .d (.v (.int .i64 0))], [(0, 50), (1, 3), (2, 3)], 0, .i64⟩,
 ⟨1, 3, 32, [.d (.v (.int .i64 0)), .d (.v (.int .i64 0)), .d (.v (.string ⟨#[]⟩))], [(0, 3), (1, 3), (2, 9)], 0, .i64⟩,
 ⟨1, 3, 32, [.d (.v (.int .i64 0)), .d (.v (.int .i64 0)), .d (.v (.string ⟨#[]⟩))], [(0, 3), (1, 3), (2, 9)], 0, .i64⟩,
 ⟨1, 4, 48, [.d (.v (.string ⟨#[]⟩)), .d (.v (.int .i64 0)), .d (.v (.int .i64 0)), .d (.v (.string ⟨#[]⟩))], [(0, 9), (1, 122)], 0, .i64⟩,
 ⟨1, 4, 48, [.d (.v (.string ⟨#[]⟩)), .d (.v (.int .i64 0)), .d (.v (.int .i64 0)), .d (.v (.string ⟨#[]⟩))], [(0, 9), (1, 122)], 0, .i64⟩,
 .bad,
 .bad,
 .bad,
 .bad,
 .bad,
 .bad,
 .bad,
 .bad,
 .bad,
 .bad,
 .bad,
 ⟨2, 1, 24, [.z], [], 3, .i64⟩,
 .bad,
 .bad,
 .bad,
 .bad,
 .bad,
 .bad,
 .bad,
 .bad,
 .bad,
 .bad,
 .bad,
 .bad,
 .bad,
 .bad,
 .bad,
 .bad,
 .bad,
 ⟨1, 7, 72, [.d (.v (.int .i64 0)), .d (.v (.int .i64 0)), .d (.v (.int .i64 0)), .d (.v (.string ⟨#[]⟩)), .d (.v (.int .i64 0)), .d (.v (.int .i64 0)), .d (.v (.string ⟨#[]⟩))], [(0, 3), (1, 3), (2, 3), (3, 9), (4, 122)], 0, .i64⟩,
 ⟨1, 7, 72, [.d (.v (.int .i64 0)), .d (.v (.int .i64 0)), .d (.v (.int .i64 0)), .d (.v (.string ⟨#[]⟩)), .d (.v (.int .i64 0)), .d (.v (.int .i64 0)), .d (.v (.string ⟨#[]⟩))], [(0, 3), (1, 3), (2, 3), (3, 9), (4, 122)], 0, .i64⟩,
 .bad,
 ⟨1, 2, 24, [.d (.v (.string ⟨#[]⟩)), .d (.v (.int .i64 0))], [(0, 9), (1, 3)], 0, .i64⟩,
 .bad,
 ⟨2, 1, 24, [.z], [], 240, .i64⟩,
 ⟨1, 5, 56, [.d (.v (.int .i64 0)), .d (.v (.int .i64 0)), .d (.v (.bool false)), .d (.v (.int .i64 0)), .z], [(0, 3), (1, 3), (2, 4), (3, 3), (4, 159)], 0, .i64⟩,
 ⟨1, 5, 56, [.d (.v (.int .i64 0)), .d (.v (.int .i64 0)), .d (.v (.bool false)), .d (.v (.int .i64 0)), .z], [(0, 3), (1, 3), (2, 4), (3, 3), (4, 159)], 0, .i64⟩,
 .bad,
 .bad,
 .bad,
 .bad,
 .bad,
 .bad,
 .bad,
 .bad,
 .bad,
 .bad,
 .bad,
 .bad,
 .bad,
 .bad,
 .bad,
 .bad,
 .bad,
 .bad,
 .bad,
 .bad,
 .bad,
 .bad,
 ⟨1, 2, 48, [.z, .z], [(0, 53), (1, 88)], 0, .i64⟩,
 ⟨1, 2, 48, [.z, .z], [(0, 53), (1, 88)], 0, .i64⟩,
 .bad,
 .bad,
 .bad,
 .bad,
 .bad,
 .bad,
 .bad,
 .bad,
 .bad,
 .bad,
 .bad,
 .bad,
 .bad,
 .bad,
 .bad,
 ⟨1, 3, 32, [.d (.v (.int .i64 0)), .d (.v (.int .i64 0)), .d (.v (.string ⟨#[]⟩))], [(0, 3), (1, 3), (2, 9)], 0, .i64⟩,
 ⟨1, 7, 72, [.d (.v (.int .i64 0)), .d (.v (.int .i64 0)), .d (.v (.int .i64 0)), .d (.v (.string ⟨#[]⟩)), .d (.v (.int .i64 0)), .d (.v (.int .i64 0)), .d (.v (.string ⟨#[]⟩))], [(0, 3), (1, 3), (2, 3), (3, 9), (4, 201)], 0, .i64⟩,
 ⟨1, 7, 72, [.d (.v (.int .i64 0)), .d (.v (.int .i64 0)), .d (.v (.int .i64 0)), .d (.v (.string ⟨#[]⟩)), .d (.v (.int .i64 0)), .d (.v (.int .i64 0)), .d (.v (.string ⟨#[]⟩))], [(0, 3), (1, 3), (2, 3), (3, 9), (4, 201)], 0, .i64⟩,
 .bad,
 .bad,
 .bad,
 .bad,
 .bad,
 .bad,
 .bad,
 .bad,
 .bad,
 .bad,
 .bad,
 .bad,
 .bad,
 .bad,
 .bad,
 .bad,
 .bad,
 .bad,
 .bad,
 .bad,
 .bad,
 .bad,
 .bad,
 .bad,
 .bad,
 .bad,
 ⟨3, 1, 8, [.d (.v (.int .i64 0))], [], 0, .i64⟩,
 .bad,
 .bad,
 .bad,
 .bad,
 .bad,
 .bad,
 .bad,
 .bad,
 ⟨1, 4, 48, [.d (.v (.string ⟨#[]⟩)), .d (.v (.int .i64 0)), .d (.v (.int .i64 0)), .d (.v (.string ⟨#[]⟩))], [(0, 9), (1, 201)], 0, .i64⟩,
 ⟨1, 4, 48, [.d (.v (.string ⟨#[]⟩)), .d (.v (.int .i64 0)), .d (.v (.int .i64 0)), .d (.v (.string ⟨#[]⟩))], [(0, 9), (1, 201)], 0, .i64⟩,
 .bad,
 .bad,
 .bad,
 .bad,
 .bad,
 .bad,
 .bad,
 .bad,
 .bad,
 .bad,
 .bad,
 .bad,
 .bad,
 .bad,
 .bad,
 .bad,
 .bad,
 .bad,
 .bad,
 .bad,
 .bad,
 .bad,
 .bad,
 .bad,
 .bad,
 ⟨2, 1, 24, [.z], [], 4, .i64⟩,
 .bad,
 .bad,
 .bad,
 .bad,
 .bad,
 .bad,
 .bad,
 ⟨2, 1, 24, [.z], [], 276, .i64⟩,
 ⟨1, 2, 16, [.d (.v (.int .i64 0)), .d (.v (.int .i64 0))], [(0, 3), (1, 3)], 0, .i64⟩,
 ⟨1, 2, 16, [.d (.v (.int .i64 0)), .d (.v (.int .i64 0))], [(0, 3), (1, 3)], 0, .i64⟩,
 .bad,
 .bad,
 .bad,
 ⟨1, 2, 2, [.d (.v (.int .u8 0)), .d (.v (.int .u8 0))], [(0, 5), (1, 5)], 0, .i64⟩,
 ⟨1, 2, 2, [.d (.v (.int .u8 0)), .d (.v (.int .u8 0))], [(0, 5), (1, 5)], 0, .i64⟩,
 .bad,
 .bad,
 .bad,
 .bad,
 .bad,
 ⟨1, 1, 16, [.d (.v (.string ⟨#[]⟩))], [(0, 9)], 0, .i64⟩,
 ⟨1, 1, 16, [.d (.v (.string ⟨#[]⟩))], [(0, 9)], 0, .i64⟩,
 .bad,
 .bad,
 .bad,
 .bad,
 .bad,
 .bad,
 .bad,
 .bad,
 .bad,
 .bad,
 .bad,
 .bad,
 .bad,
 .bad,
 .bad,
 .bad,
 .bad,
 .bad,
 .bad,
 ⟨3, 1, 8, [.d (.v (.int .i64 0))], [], 0, .i64⟩,
 .bad,
 .bad,
 .bad,
 .bad,
 .bad,
 .bad,
 .bad,
 .bad,
 .bad,
 .bad,
 .bad,
 .bad,
 .bad,
 .bad,
 .bad,
 .bad,
 .bad,
 .bad,
 .bad,
 .bad,
 .bad,
 .bad,
 .bad,
 ⟨3, 1, 1, [.d (.v (.int .u8 0))], [], 0, .u8⟩,
 ⟨3, 1, 1, [.d (.v (.int .u8 0))], [], 0, .u8⟩,
 .bad,
 .bad,
 .bad,
 .bad,
 .bad,
 .bad,
 .bad,
 .bad,
 .bad,
 .bad]
noncomputable def tt : Nat → Ty := fun t => ttl.getD t .bad
theorem a2h : TyOK Tryz.prog tt := TyOK.of_list (by kernel_rfl)
theorem tts : tt 2 = ⟨3, 1, 8, [.d (.v (.int .i64 0))], [], 0, .i64⟩ ∧ tt 3 = ⟨3, 1, 8, [.d (.v (.int .i64 0))], [], 0, .i64⟩ ∧ tt 4 = ⟨4, 1, 1, [.d (.v (.bool false))], [], 0, .i64⟩ ∧ tt 5 = ⟨3, 1, 1, [.d (.v (.int .u8 0))], [], 0, .u8⟩ ∧ tt 6 = ⟨3, 1, 1, [.d (.v (.int .u8 0))], [], 0, .u8⟩ ∧ tt 7 = ⟨1, 4, 24, [.d (.v (.int .i64 0)), .d (.v (.int .i64 0)), .d (.v (.bool false)), .d (.v (.int .u8 0))], [(0, 2), (1, 3), (2, 4), (3, 6)], 0, .i64⟩ ∧ tt 8 = ⟨1, 4, 24, [.d (.v (.int .i64 0)), .d (.v (.int .i64 0)), .d (.v (.bool false)), .d (.v (.int .u8 0))], [(0, 2), (1, 3), (2, 4), (3, 6)], 0, .i64⟩ ∧ tt 9 = ⟨5, 1, 16, [.d (.v (.string ⟨#[]⟩))], [], 0, .i64⟩ ∧ tt 10 = ⟨5, 1, 16, [.d (.v (.string ⟨#[]⟩))], [], 0, .i64⟩ ∧ tt 11 = ⟨5, 1, 16, [.d (.v (.string ⟨#[]⟩))], [], 0, .i64⟩ ∧ tt 22 = ⟨1, 2, 32, [.d (.v (.string ⟨#[]⟩)), .d (.v (.string ⟨#[]⟩))], [(0, 9), (1, 9)], 0, .i64⟩ ∧ tt 23 = ⟨1, 2, 32, [.d (.v (.string ⟨#[]⟩)), .d (.v (.string ⟨#[]⟩))], [(0, 9), (1, 9)], 0, .i64⟩ ∧ tt 25 = ⟨2, 1, 24, [.z], [], 81, .i64⟩ ∧ tt 26 = ⟨2, 1, 24, [.z], [], 86, .i64⟩ ∧ tt 27 = ⟨1, 3, 56, [.z, .z, .d (.v (.int .i64 0))], [(0, 25), (1, 26), (2, 3)], 0, .i64⟩ ∧ tt 28 = ⟨1, 3, 56, [.z, .z, .d (.v (.int .i64 0))], [(0, 25), (1, 26), (2, 3)], 0, .i64⟩ ∧ tt 29 = ⟨2, 1, 24, [.z], [], 90, .i64⟩ ∧ tt 30 = ⟨1, 4, 80, [.z, .z, .d (.v (.int .i64 0)), .z], [(0, 28), (3, 29)], 0, .i64⟩ ∧ tt 31 = ⟨1, 4, 80, [.z, .z, .d (.v (.int .i64 0)), .z], [(0, 28), (3, 29)], 0, .i64⟩ ∧ tt 34 = ⟨1, 2, 32, [.d (.v (.string ⟨#[]⟩)), .d (.v (.string ⟨#[]⟩))], [(0, 9), (1, 9)], 0, .i64⟩ ∧ tt 39 = ⟨2, 1, 24, [.z], [], 157, .i64⟩ ∧ tt 40 = ⟨2, 1, 24, [.z], [], 161, .i64⟩ ∧ tt 41 = ⟨1, 3, 56, [.z, .z, .d (.v (.int .i64 0))], [(0, 39), (1, 40), (2, 3)], 0, .i64⟩ ∧ tt 42 = ⟨1, 3, 56, [.z, .z, .d (.v (.int .i64 0))], [(0, 39), (1, 40), (2, 3)], 0, .i64⟩ ∧ tt 43 = ⟨2, 1, 24, [.z], [], 110, .i64⟩ ∧ tt 44 = ⟨1, 4, 80, [.z, .z, .d (.v (.int .i64 0)), .z], [(0, 42), (3, 43)], 0, .i64⟩ ∧ tt 45 = ⟨1, 4, 80, [.z, .z, .d (.v (.int .i64 0)), .z], [(0, 42), (3, 43)], 0, .i64⟩ ∧ tt 50 = ⟨2, 1, 24, [.z], [], 5, .i64⟩ ∧ tt 53 = ⟨2, 1, 24, [.z], [], 9, .i64⟩ ∧ tt 80 = ⟨1, 2, 24, [.d (.v (.string ⟨#[]⟩)), .d (.v (.int .i64 0))], [(0, 9), (1, 3)], 0, .i64⟩ ∧ tt 81 = ⟨1, 2, 24, [.d (.v (.string ⟨#[]⟩)), .d (.v (.int .i64 0))], [(0, 9), (1, 3)], 0, .i64⟩ ∧ tt 84 = ⟨2, 1, 24, [.z], [], 124, .i64⟩ ∧ tt 85 = ⟨1, 5, 56, [.d (.v (.int .i64 0)), .d (.v (.int .i64 0)), .d (.v (.bool false)), .d (.v (.int .i64 0)), .z], [(0, 3), (1, 3), (2, 4), (3, 3), (4, 84)], 0, .i64⟩ ∧ tt 86 = ⟨1, 5, 56, [.d (.v (.int .i64 0)), .d (.v (.int .i64 0)), .d (.v (.bool false)), .d (.v (.int .i64 0)), .z], [(0, 3), (1, 3), (2, 4), (3, 3), (4, 84)], 0, .i64⟩ ∧ tt 88 = ⟨2, 1, 24, [.z], [], 155, .i64⟩ ∧ tt 89 = ⟨1, 2, 40, [.d (.v (.string ⟨#[]⟩)), .z], [(0, 9), (1, 88)], 0, .i64⟩ ∧ tt 90 = ⟨1, 2, 40, [.d (.v (.string ⟨#[]⟩)), .z], [(0, 9), (1, 88)], 0, .i64⟩ ∧ tt 108 = ⟨2, 1, 24, [.z], [], 203, .i64⟩ ∧ tt 109 = ⟨1, 2, 40, [.d (.v (.string ⟨#[]⟩)), .z], [(0, 9), (1, 108)], 0, .i64⟩ ∧ tt 110 = ⟨1, 2, 40, [.d (.v (.string ⟨#[]⟩)), .z], [(0, 9), (1, 108)], 0, .i64⟩ ∧ tt 119 = ⟨1, 3, 40, [.z, .d (.v (.int .i64 0)), .d (.v (.int .i64 0))], [(0, 50), (1, 3), (2, 3)], 0, .i64⟩ ∧ tt 120 = ⟨1, 3, 40, [.z, .d (.v (.int .i64 0)), .d (.v (.int .i64 0))], [(0, 50), (1, 3), (2, 3)], 0, .i64⟩ ∧ tt 121 = ⟨1, 3, 32, [.d (.v (.int .i64 0)), .d (.v (.int .i64 0)), .d (.v (.string ⟨#[]⟩))], [(0, 3), (1, 3), (2, 9)], 0, .i64⟩ ∧ tt 122 = ⟨1, 3, 32, [.d (.v (.int .i64 0)), .d (.v (.int .i64 0)), .d (.v (.string ⟨#[]⟩))], [(0, 3), (1, 3), (2, 9)], 0, .i64⟩ ∧ tt 123 = ⟨1, 4, 48, [.d (.v (.string ⟨#[]⟩)), .d (.v (.int .i64 0)), .d (.v (.int .i64 0)), .d (.v (.string ⟨#[]⟩))], [(0, 9), (1, 122)], 0, .i64⟩ ∧ tt 124 = ⟨1, 4, 48, [.d (.v (.string ⟨#[]⟩)), .d (.v (.int .i64 0)), .d (.v (.int .i64 0)), .d (.v (.string ⟨#[]⟩))], [(0, 9), (1, 122)], 0, .i64⟩ ∧ tt 136 = ⟨2, 1, 24, [.z], [], 3, .i64⟩ ∧ tt 154 = ⟨1, 7, 72, [.d (.v (.int .i64 0)), .d (.v (.int .i64 0)), .d (.v (.int .i64 0)), .d (.v (.string ⟨#[]⟩)), .d (.v (.int .i64 0)), .d (.v (.int .i64 0)), .d (.v (.string ⟨#[]⟩))], [(0, 3), (1, 3), (2, 3), (3, 9), (4, 122)], 0, .i64⟩ ∧ tt 155 = ⟨1, 7, 72, [.d (.v (.int .i64 0)), .d (.v (.int .i64 0)), .d (.v (.int .i64 0)), .d (.v (.string ⟨#[]⟩)), .d (.v (.int .i64 0)), .d (.v (.int .i64 0)), .d (.v (.string ⟨#[]⟩))], [(0, 3), (1, 3), (2, 3), (3, 9), (4, 122)], 0, .i64⟩ ∧ tt 157 = ⟨1, 2, 24, [.d (.v (.string ⟨#[]⟩)), .d (.v (.int .i64 0))], [(0, 9), (1, 3)], 0, .i64⟩ ∧ tt 159 = ⟨2, 1, 24, [.z], [], 240, .i64⟩ ∧ tt 160 = ⟨1, 5, 56, [.d (.v (.int .i64 0)), .d (.v (.int .i64 0)), .d (.v (.bool false)), .d (.v (.int .i64 0)), .z], [(0, 3), (1, 3), (2, 4), (3, 3), (4, 159)], 0, .i64⟩ ∧ tt 161 = ⟨1, 5, 56, [.d (.v (.int .i64 0)), .d (.v (.int .i64 0)), .d (.v (.bool false)), .d (.v (.int .i64 0)), .z], [(0, 3), (1, 3), (2, 4), (3, 3), (4, 159)], 0, .i64⟩ ∧ tt 184 = ⟨1, 2, 48, [.z, .z], [(0, 53), (1, 88)], 0, .i64⟩ ∧ tt 185 = ⟨1, 2, 48, [.z, .z], [(0, 53), (1, 88)], 0, .i64⟩ ∧ tt 201 = ⟨1, 3, 32, [.d (.v (.int .i64 0)), .d (.v (.int .i64 0)), .d (.v (.string ⟨#[]⟩))], [(0, 3), (1, 3), (2, 9)], 0, .i64⟩ ∧ tt 202 = ⟨1, 7, 72, [.d (.v (.int .i64 0)), .d (.v (.int .i64 0)), .d (.v (.int .i64 0)), .d (.v (.string ⟨#[]⟩)), .d (.v (.int .i64 0)), .d (.v (.int .i64 0)), .d (.v (.string ⟨#[]⟩))], [(0, 3), (1, 3), (2, 3), (3, 9), (4, 201)], 0, .i64⟩ ∧ tt 203 = ⟨1, 7, 72, [.d (.v (.int .i64 0)), .d (.v (.int .i64 0)), .d (.v (.int .i64 0)), .d (.v (.string ⟨#[]⟩)), .d (.v (.int .i64 0)), .d (.v (.int .i64 0)), .d (.v (.string ⟨#[]⟩))], [(0, 3), (1, 3), (2, 3), (3, 9), (4, 201)], 0, .i64⟩ ∧ tt 230 = ⟨3, 1, 8, [.d (.v (.int .i64 0))], [], 0, .i64⟩ ∧ tt 239 = ⟨1, 4, 48, [.d (.v (.string ⟨#[]⟩)), .d (.v (.int .i64 0)), .d (.v (.int .i64 0)), .d (.v (.string ⟨#[]⟩))], [(0, 9), (1, 201)], 0, .i64⟩ ∧ tt 240 = ⟨1, 4, 48, [.d (.v (.string ⟨#[]⟩)), .d (.v (.int .i64 0)), .d (.v (.int .i64 0)), .d (.v (.string ⟨#[]⟩))], [(0, 9), (1, 201)], 0, .i64⟩ ∧ tt 266 = ⟨2, 1, 24, [.z], [], 4, .i64⟩ ∧ tt 274 = ⟨2, 1, 24, [.z], [], 276, .i64⟩ ∧ tt 275 = ⟨1, 2, 16, [.d (.v (.int .i64 0)), .d (.v (.int .i64 0))], [(0, 3), (1, 3)], 0, .i64⟩ ∧ tt 276 = ⟨1, 2, 16, [.d (.v (.int .i64 0)), .d (.v (.int .i64 0))], [(0, 3), (1, 3)], 0, .i64⟩ ∧ tt 280 = ⟨1, 2, 2, [.d (.v (.int .u8 0)), .d (.v (.int .u8 0))], [(0, 5), (1, 5)], 0, .i64⟩ ∧ tt 281 = ⟨1, 2, 2, [.d (.v (.int .u8 0)), .d (.v (.int .u8 0))], [(0, 5), (1, 5)], 0, .i64⟩ ∧ tt 287 = ⟨1, 1, 16, [.d (.v (.string ⟨#[]⟩))], [(0, 9)], 0, .i64⟩ ∧ tt 288 = ⟨1, 1, 16, [.d (.v (.string ⟨#[]⟩))], [(0, 9)], 0, .i64⟩ ∧ tt 308 = ⟨3, 1, 8, [.d (.v (.int .i64 0))], [], 0, .i64⟩ ∧ tt 332 = ⟨3, 1, 1, [.d (.v (.int .u8 0))], [], 0, .u8⟩ ∧ tt 333 = ⟨3, 1, 1, [.d (.v (.int .u8 0))], [], 0, .u8⟩ :=
 ⟨rfl, rfl, rfl, rfl, rfl, rfl, rfl, rfl, rfl, rfl, rfl, rfl, rfl, rfl, rfl, rfl, rfl, rfl, rfl, rfl, rfl, rfl, rfl, rfl, rfl, rfl, rfl, rfl, rfl, rfl, rfl, rfl, rfl, rfl, rfl, rfl, rfl, rfl, rfl, rfl, rfl, rfl, rfl, rfl, rfl, rfl, rfl, rfl, rfl, rfl, rfl, rfl, rfl, rfl, rfl, rfl, rfl, rfl, rfl, rfl, rfl, rfl, rfl, rfl, rfl, rfl, rfl, rfl, rfl, rfl, rfl, rfl⟩
def eqk : Nat → List Nat := fun t => if t = 23 then [3, 3] else if t = 34 then [3, 3] else if t = 81 then [3, 1] else if t = 122 then [1, 1, 3] else if t = 124 then [3, 1, 1, 3] else if t = 155 then [1, 1, 1, 3, 1, 1, 3] else if t = 157 then [3, 1] else if t = 201 then [1, 1, 3] else if t = 203 then [1, 1, 1, 3, 1, 1, 3] else if t = 240 then [3, 1, 1, 3] else []
theorem dK {v : Value} (h : iH v = 1) : ∃ x : Int, v = .int .i64 x := by
 cases v with
 | int k n => cases k <;> simp_all [iH]
 | _ => simp_all [iH]
theorem fD {v : Value} (h : iH v = 3) : ∃ x : ByteArray, v = .string x := by
 cases v with
 | int k n => cases k <;> simp_all [iH]
 | _ => simp_all [iH]
theorem a1A {xs : List Value} (h : xs.map iH = [3, 3]) : ∃ (x0 : ByteArray) (x1 : ByteArray), xs = [.string x0, .string x1] := by
 obtain ⟨v0, xs, rfl⟩ : ∃ v l, xs = v :: l := by cases xs with
  | nil => simp at h
  | cons v l => exact ⟨v, l, rfl⟩
 simp only [List.map_cons, List.cons.injEq] at h
 obtain ⟨h0, h⟩ := h
 obtain ⟨v1, xs, rfl⟩ : ∃ v l, xs = v :: l := by cases xs with
  | nil => simp at h
  | cons v l => exact ⟨v, l, rfl⟩
 simp only [List.map_cons, List.cons.injEq] at h
 obtain ⟨h1, h⟩ := h
 have : xs = [] := by simpa using h
 subst this
 obtain ⟨x0, rfl⟩ := fD h0
 obtain ⟨x1, rfl⟩ := fD h1
 exact ⟨x0, x1, rfl⟩
theorem a1B {xs : List Value} (h : xs.map iH = [3, 3]) : ∃ (x0 : ByteArray) (x1 : ByteArray), xs = [.string x0, .string x1] := by
 obtain ⟨v0, xs, rfl⟩ : ∃ v l, xs = v :: l := by cases xs with
  | nil => simp at h
  | cons v l => exact ⟨v, l, rfl⟩
 simp only [List.map_cons, List.cons.injEq] at h
 obtain ⟨h0, h⟩ := h
 obtain ⟨v1, xs, rfl⟩ : ∃ v l, xs = v :: l := by cases xs with
  | nil => simp at h
  | cons v l => exact ⟨v, l, rfl⟩
 simp only [List.map_cons, List.cons.injEq] at h
 obtain ⟨h1, h⟩ := h
 have : xs = [] := by simpa using h
 subst this
 obtain ⟨x0, rfl⟩ := fD h0
 obtain ⟨x1, rfl⟩ := fD h1
 exact ⟨x0, x1, rfl⟩
theorem a1C {xs : List Value} (h : xs.map iH = [3, 1]) : ∃ (x0 : ByteArray) (x1 : Int), xs = [.string x0, .int .i64 x1] := by
 obtain ⟨v0, xs, rfl⟩ : ∃ v l, xs = v :: l := by cases xs with
  | nil => simp at h
  | cons v l => exact ⟨v, l, rfl⟩
 simp only [List.map_cons, List.cons.injEq] at h
 obtain ⟨h0, h⟩ := h
 obtain ⟨v1, xs, rfl⟩ : ∃ v l, xs = v :: l := by cases xs with
  | nil => simp at h
  | cons v l => exact ⟨v, l, rfl⟩
 simp only [List.map_cons, List.cons.injEq] at h
 obtain ⟨h1, h⟩ := h
 have : xs = [] := by simpa using h
 subst this
 obtain ⟨x0, rfl⟩ := fD h0
 obtain ⟨x1, rfl⟩ := dK h1
 exact ⟨x0, x1, rfl⟩
theorem yM {xs : List Value} (h : xs.map iH = [1, 1, 3]) : ∃ (x0 : Int) (x1 : Int) (x2 : ByteArray), xs = [.int .i64 x0, .int .i64 x1, .string x2] := by
 obtain ⟨v0, xs, rfl⟩ : ∃ v l, xs = v :: l := by cases xs with
  | nil => simp at h
  | cons v l => exact ⟨v, l, rfl⟩
 simp only [List.map_cons, List.cons.injEq] at h
 obtain ⟨h0, h⟩ := h
 obtain ⟨v1, xs, rfl⟩ : ∃ v l, xs = v :: l := by cases xs with
  | nil => simp at h
  | cons v l => exact ⟨v, l, rfl⟩
 simp only [List.map_cons, List.cons.injEq] at h
 obtain ⟨h1, h⟩ := h
 obtain ⟨v2, xs, rfl⟩ : ∃ v l, xs = v :: l := by cases xs with
  | nil => simp at h
  | cons v l => exact ⟨v, l, rfl⟩
 simp only [List.map_cons, List.cons.injEq] at h
 obtain ⟨h2, h⟩ := h
 have : xs = [] := by simpa using h
 subst this
 obtain ⟨x0, rfl⟩ := dK h0
 obtain ⟨x1, rfl⟩ := dK h1
 obtain ⟨x2, rfl⟩ := fD h2
 exact ⟨x0, x1, x2, rfl⟩
theorem yN {xs : List Value} (h : xs.map iH = [3, 1, 1, 3]) : ∃ (x0 : ByteArray) (x1 : Int) (x2 : Int) (x3 : ByteArray), xs = [.string x0, .int .i64 x1, .int .i64 x2, .string x3] := by
 obtain ⟨v0, xs, rfl⟩ : ∃ v l, xs = v :: l := by cases xs with
  | nil => simp at h
  | cons v l => exact ⟨v, l, rfl⟩
 simp only [List.map_cons, List.cons.injEq] at h
 obtain ⟨h0, h⟩ := h
 obtain ⟨v1, xs, rfl⟩ : ∃ v l, xs = v :: l := by cases xs with
  | nil => simp at h
  | cons v l => exact ⟨v, l, rfl⟩
 simp only [List.map_cons, List.cons.injEq] at h
 obtain ⟨h1, h⟩ := h
 obtain ⟨v2, xs, rfl⟩ : ∃ v l, xs = v :: l := by cases xs with
  | nil => simp at h
  | cons v l => exact ⟨v, l, rfl⟩
 simp only [List.map_cons, List.cons.injEq] at h
 obtain ⟨h2, h⟩ := h
 obtain ⟨v3, xs, rfl⟩ : ∃ v l, xs = v :: l := by cases xs with
  | nil => simp at h
  | cons v l => exact ⟨v, l, rfl⟩
 simp only [List.map_cons, List.cons.injEq] at h
 obtain ⟨h3, h⟩ := h
 have : xs = [] := by simpa using h
 subst this
 obtain ⟨x0, rfl⟩ := fD h0
 obtain ⟨x1, rfl⟩ := dK h1
 obtain ⟨x2, rfl⟩ := dK h2
 obtain ⟨x3, rfl⟩ := fD h3
 exact ⟨x0, x1, x2, x3, rfl⟩
theorem yO {xs : List Value} (h : xs.map iH = [1, 1, 1, 3, 1, 1, 3]) : ∃ (x0 : Int) (x1 : Int) (x2 : Int) (x3 : ByteArray) (x4 : Int) (x5 : Int) (x6 : ByteArray), xs = [.int .i64 x0, .int .i64 x1, .int .i64 x2, .string x3, .int .i64 x4, .int .i64 x5, .string x6] := by
 obtain ⟨v0, xs, rfl⟩ : ∃ v l, xs = v :: l := by cases xs with
  | nil => simp at h
  | cons v l => exact ⟨v, l, rfl⟩
 simp only [List.map_cons, List.cons.injEq] at h
 obtain ⟨h0, h⟩ := h
 obtain ⟨v1, xs, rfl⟩ : ∃ v l, xs = v :: l := by cases xs with
  | nil => simp at h
  | cons v l => exact ⟨v, l, rfl⟩
 simp only [List.map_cons, List.cons.injEq] at h
 obtain ⟨h1, h⟩ := h
 obtain ⟨v2, xs, rfl⟩ : ∃ v l, xs = v :: l := by cases xs with
  | nil => simp at h
  | cons v l => exact ⟨v, l, rfl⟩
 simp only [List.map_cons, List.cons.injEq] at h
 obtain ⟨h2, h⟩ := h
 obtain ⟨v3, xs, rfl⟩ : ∃ v l, xs = v :: l := by cases xs with
  | nil => simp at h
  | cons v l => exact ⟨v, l, rfl⟩
 simp only [List.map_cons, List.cons.injEq] at h
 obtain ⟨h3, h⟩ := h
 obtain ⟨v4, xs, rfl⟩ : ∃ v l, xs = v :: l := by cases xs with
  | nil => simp at h
  | cons v l => exact ⟨v, l, rfl⟩
 simp only [List.map_cons, List.cons.injEq] at h
 obtain ⟨h4, h⟩ := h
 obtain ⟨v5, xs, rfl⟩ : ∃ v l, xs = v :: l := by cases xs with
  | nil => simp at h
  | cons v l => exact ⟨v, l, rfl⟩
 simp only [List.map_cons, List.cons.injEq] at h
 obtain ⟨h5, h⟩ := h
 obtain ⟨v6, xs, rfl⟩ : ∃ v l, xs = v :: l := by cases xs with
  | nil => simp at h
  | cons v l => exact ⟨v, l, rfl⟩
 simp only [List.map_cons, List.cons.injEq] at h
 obtain ⟨h6, h⟩ := h
 have : xs = [] := by simpa using h
 subst this
 obtain ⟨x0, rfl⟩ := dK h0
 obtain ⟨x1, rfl⟩ := dK h1
 obtain ⟨x2, rfl⟩ := dK h2
 obtain ⟨x3, rfl⟩ := fD h3
 obtain ⟨x4, rfl⟩ := dK h4
 obtain ⟨x5, rfl⟩ := dK h5
 obtain ⟨x6, rfl⟩ := fD h6
 exact ⟨x0, x1, x2, x3, x4, x5, x6, rfl⟩
theorem yP {xs : List Value} (h : xs.map iH = [3, 1]) : ∃ (x0 : ByteArray) (x1 : Int), xs = [.string x0, .int .i64 x1] := by
 obtain ⟨v0, xs, rfl⟩ : ∃ v l, xs = v :: l := by cases xs with
  | nil => simp at h
  | cons v l => exact ⟨v, l, rfl⟩
 simp only [List.map_cons, List.cons.injEq] at h
 obtain ⟨h0, h⟩ := h
 obtain ⟨v1, xs, rfl⟩ : ∃ v l, xs = v :: l := by cases xs with
  | nil => simp at h
  | cons v l => exact ⟨v, l, rfl⟩
 simp only [List.map_cons, List.cons.injEq] at h
 obtain ⟨h1, h⟩ := h
 have : xs = [] := by simpa using h
 subst this
 obtain ⟨x0, rfl⟩ := fD h0
 obtain ⟨x1, rfl⟩ := dK h1
 exact ⟨x0, x1, rfl⟩
theorem yQ {xs : List Value} (h : xs.map iH = [1, 1, 3]) : ∃ (x0 : Int) (x1 : Int) (x2 : ByteArray), xs = [.int .i64 x0, .int .i64 x1, .string x2] := by
 obtain ⟨v0, xs, rfl⟩ : ∃ v l, xs = v :: l := by cases xs with
  | nil => simp at h
  | cons v l => exact ⟨v, l, rfl⟩
 simp only [List.map_cons, List.cons.injEq] at h
 obtain ⟨h0, h⟩ := h
 obtain ⟨v1, xs, rfl⟩ : ∃ v l, xs = v :: l := by cases xs with
  | nil => simp at h
  | cons v l => exact ⟨v, l, rfl⟩
 simp only [List.map_cons, List.cons.injEq] at h
 obtain ⟨h1, h⟩ := h
 obtain ⟨v2, xs, rfl⟩ : ∃ v l, xs = v :: l := by cases xs with
  | nil => simp at h
  | cons v l => exact ⟨v, l, rfl⟩
 simp only [List.map_cons, List.cons.injEq] at h
 obtain ⟨h2, h⟩ := h
 have : xs = [] := by simpa using h
 subst this
 obtain ⟨x0, rfl⟩ := dK h0
 obtain ⟨x1, rfl⟩ := dK h1
 obtain ⟨x2, rfl⟩ := fD h2
 exact ⟨x0, x1, x2, rfl⟩
theorem yR {xs : List Value} (h : xs.map iH = [1, 1, 1, 3, 1, 1, 3]) : ∃ (x0 : Int) (x1 : Int) (x2 : Int) (x3 : ByteArray) (x4 : Int) (x5 : Int) (x6 : ByteArray), xs = [.int .i64 x0, .int .i64 x1, .int .i64 x2, .string x3, .int .i64 x4, .int .i64 x5, .string x6] := by
 obtain ⟨v0, xs, rfl⟩ : ∃ v l, xs = v :: l := by cases xs with
  | nil => simp at h
  | cons v l => exact ⟨v, l, rfl⟩
 simp only [List.map_cons, List.cons.injEq] at h
 obtain ⟨h0, h⟩ := h
 obtain ⟨v1, xs, rfl⟩ : ∃ v l, xs = v :: l := by cases xs with
  | nil => simp at h
  | cons v l => exact ⟨v, l, rfl⟩
 simp only [List.map_cons, List.cons.injEq] at h
 obtain ⟨h1, h⟩ := h
 obtain ⟨v2, xs, rfl⟩ : ∃ v l, xs = v :: l := by cases xs with
  | nil => simp at h
  | cons v l => exact ⟨v, l, rfl⟩
 simp only [List.map_cons, List.cons.injEq] at h
 obtain ⟨h2, h⟩ := h
 obtain ⟨v3, xs, rfl⟩ : ∃ v l, xs = v :: l := by cases xs with
  | nil => simp at h
  | cons v l => exact ⟨v, l, rfl⟩
 simp only [List.map_cons, List.cons.injEq] at h
 obtain ⟨h3, h⟩ := h
 obtain ⟨v4, xs, rfl⟩ : ∃ v l, xs = v :: l := by cases xs with
  | nil => simp at h
  | cons v l => exact ⟨v, l, rfl⟩
 simp only [List.map_cons, List.cons.injEq] at h
 obtain ⟨h4, h⟩ := h
 obtain ⟨v5, xs, rfl⟩ : ∃ v l, xs = v :: l := by cases xs with
  | nil => simp at h
  | cons v l => exact ⟨v, l, rfl⟩
 simp only [List.map_cons, List.cons.injEq] at h
 obtain ⟨h5, h⟩ := h
 obtain ⟨v6, xs, rfl⟩ : ∃ v l, xs = v :: l := by cases xs with
  | nil => simp at h
  | cons v l => exact ⟨v, l, rfl⟩
 simp only [List.map_cons, List.cons.injEq] at h
 obtain ⟨h6, h⟩ := h
 have : xs = [] := by simpa using h
 subst this
 obtain ⟨x0, rfl⟩ := dK h0
 obtain ⟨x1, rfl⟩ := dK h1
 obtain ⟨x2, rfl⟩ := dK h2
 obtain ⟨x3, rfl⟩ := fD h3
 obtain ⟨x4, rfl⟩ := dK h4
 obtain ⟨x5, rfl⟩ := dK h5
 obtain ⟨x6, rfl⟩ := fD h6
 exact ⟨x0, x1, x2, x3, x4, x5, x6, rfl⟩
theorem yS {xs : List Value} (h : xs.map iH = [3, 1, 1, 3]) : ∃ (x0 : ByteArray) (x1 : Int) (x2 : Int) (x3 : ByteArray), xs = [.string x0, .int .i64 x1, .int .i64 x2, .string x3] := by
 obtain ⟨v0, xs, rfl⟩ : ∃ v l, xs = v :: l := by cases xs with
  | nil => simp at h
  | cons v l => exact ⟨v, l, rfl⟩
 simp only [List.map_cons, List.cons.injEq] at h
 obtain ⟨h0, h⟩ := h
 obtain ⟨v1, xs, rfl⟩ : ∃ v l, xs = v :: l := by cases xs with
  | nil => simp at h
  | cons v l => exact ⟨v, l, rfl⟩
 simp only [List.map_cons, List.cons.injEq] at h
 obtain ⟨h1, h⟩ := h
 obtain ⟨v2, xs, rfl⟩ : ∃ v l, xs = v :: l := by cases xs with
  | nil => simp at h
  | cons v l => exact ⟨v, l, rfl⟩
 simp only [List.map_cons, List.cons.injEq] at h
 obtain ⟨h2, h⟩ := h
 obtain ⟨v3, xs, rfl⟩ : ∃ v l, xs = v :: l := by cases xs with
  | nil => simp at h
  | cons v l => exact ⟨v, l, rfl⟩
 simp only [List.map_cons, List.cons.injEq] at h
 obtain ⟨h3, h⟩ := h
 have : xs = [] := by simpa using h
 subst this
 obtain ⟨x0, rfl⟩ := fD h0
 obtain ⟨x1, rfl⟩ := dK h1
 obtain ⟨x2, rfl⟩ := dK h2
 obtain ⟨x3, rfl⟩ := fD h3
 exact ⟨x0, x1, x2, x3, rfl⟩
set_option maxHeartbeats 1000000 in
theorem b7e : EqT Tryz.prog 23 [3, 3] := by
 refine ⟨by decide, fun w xs ys hx hy => ?_, fun w xs ys hx hy => ?_, fun op x y xs ys w => run_eqGuard_agg w op 23 x y xs ys Tryz.eqGuardType23⟩
 ·obtain ⟨x0, x1, hx⟩ := a1A hx
  obtain ⟨y0, y1, hy⟩ := a1A hy
  subst hx; subst hy
  simp [go_sem, mJ, eqV, fG, bW]
  (repeat' split) <;> simp_all
 ·obtain ⟨x0, x1, hx⟩ := a1A hx
  obtain ⟨y0, y1, hy⟩ := a1A hy
  subst hx; subst hy
  simp [go_sem, mJ, eqV, fG, bW]
  (repeat' split) <;> simp_all
set_option maxHeartbeats 1000000 in
theorem b7f : EqT Tryz.prog 34 [3, 3] := by
 refine ⟨by decide, fun w xs ys hx hy => ?_, fun w xs ys hx hy => ?_, fun op x y xs ys w => run_eqGuard_agg w op 34 x y xs ys Tryz.eqGuardType34⟩
 ·obtain ⟨x0, x1, hx⟩ := a1B hx
  obtain ⟨y0, y1, hy⟩ := a1B hy
  subst hx; subst hy
  simp [go_sem, mJ, eqV, fG, bW]
  (repeat' split) <;> simp_all
 ·obtain ⟨x0, x1, hx⟩ := a1B hx
  obtain ⟨y0, y1, hy⟩ := a1B hy
  subst hx; subst hy
  simp [go_sem, mJ, eqV, fG, bW]
  (repeat' split) <;> simp_all
set_option maxHeartbeats 1000000 in
theorem b7g : EqT Tryz.prog 81 [3, 1] := by
 refine ⟨by decide, fun w xs ys hx hy => ?_, fun w xs ys hx hy => ?_, fun op x y xs ys w => run_eqGuard_agg w op 81 x y xs ys Tryz.eqGuardType81⟩
 ·obtain ⟨x0, x1, hx⟩ := a1C hx
  obtain ⟨y0, y1, hy⟩ := a1C hy
  subst hx; subst hy
  simp [go_sem, mJ, eqV, fG, bW]
  (repeat' split) <;> simp_all
 ·obtain ⟨x0, x1, hx⟩ := a1C hx
  obtain ⟨y0, y1, hy⟩ := a1C hy
  subst hx; subst hy
  simp [go_sem, mJ, eqV, fG, bW]
  (repeat' split) <;> simp_all
set_option maxHeartbeats 1000000 in
theorem b5S : EqT Tryz.prog 122 [1, 1, 3] := by
 refine ⟨by decide, fun w xs ys hx hy => ?_, fun w xs ys hx hy => ?_, fun op x y xs ys w => run_eqGuard_agg w op 122 x y xs ys Tryz.eqGuardType122⟩
 ·obtain ⟨x0, x1, x2, hx⟩ := yM hx
  obtain ⟨y0, y1, y2, hy⟩ := yM hy
  subst hx; subst hy
  simp [go_sem, mJ, eqV, fG, bW]
  (repeat' split) <;> simp_all
 ·obtain ⟨x0, x1, x2, hx⟩ := yM hx
  obtain ⟨y0, y1, y2, hy⟩ := yM hy
  subst hx; subst hy
  simp [go_sem, mJ, eqV, fG, bW]
  (repeat' split) <;> simp_all
set_option maxHeartbeats 1000000 in
theorem b5T : EqT Tryz.prog 124 [3, 1, 1, 3] := by
 refine ⟨by decide, fun w xs ys hx hy => ?_, fun w xs ys hx hy => ?_, fun op x y xs ys w => run_eqGuard_agg w op 124 x y xs ys Tryz.eqGuardType124⟩
 ·obtain ⟨x0, x1, x2, x3, hx⟩ := yN hx
  obtain ⟨y0, y1, y2, y3, hy⟩ := yN hy
  subst hx; subst hy
  simp [go_sem, mJ, eqV, fG, bW]
  (repeat' split) <;> simp_all
 ·obtain ⟨x0, x1, x2, x3, hx⟩ := yN hx
  obtain ⟨y0, y1, y2, y3, hy⟩ := yN hy
  subst hx; subst hy
  simp [go_sem, mJ, eqV, fG, bW]
  (repeat' split) <;> simp_all
set_option maxHeartbeats 1000000 in
theorem b5U : EqT Tryz.prog 155 [1, 1, 1, 3, 1, 1, 3] := by
 refine ⟨by decide, fun w xs ys hx hy => ?_, fun w xs ys hx hy => ?_, fun op x y xs ys w => run_eqGuard_agg w op 155 x y xs ys Tryz.eqGuardType155⟩
 ·obtain ⟨x0, x1, x2, x3, x4, x5, x6, hx⟩ := yO hx
  obtain ⟨y0, y1, y2, y3, y4, y5, y6, hy⟩ := yO hy
  subst hx; subst hy
  simp [go_sem, mJ, eqV, fG, bW]
  (repeat' split) <;> simp_all
 ·obtain ⟨x0, x1, x2, x3, x4, x5, x6, hx⟩ := yO hx
  obtain ⟨y0, y1, y2, y3, y4, y5, y6, hy⟩ := yO hy
  subst hx; subst hy
  simp [go_sem, mJ, eqV, fG, bW]
  (repeat' split) <;> simp_all
set_option maxHeartbeats 1000000 in
theorem b5V : EqT Tryz.prog 157 [3, 1] := by
 refine ⟨by decide, fun w xs ys hx hy => ?_, fun w xs ys hx hy => ?_, fun op x y xs ys w => run_eqGuard_agg w op 157 x y xs ys Tryz.eqGuardType157⟩
 ·obtain ⟨x0, x1, hx⟩ := yP hx
  obtain ⟨y0, y1, hy⟩ := yP hy
  subst hx; subst hy
  simp [go_sem, mJ, eqV, fG, bW]
  (repeat' split) <;> simp_all
 ·obtain ⟨x0, x1, hx⟩ := yP hx
  obtain ⟨y0, y1, hy⟩ := yP hy
  subst hx; subst hy
  simp [go_sem, mJ, eqV, fG, bW]
  (repeat' split) <;> simp_all
set_option maxHeartbeats 1000000 in
theorem b5W : EqT Tryz.prog 201 [1, 1, 3] := by
 refine ⟨by decide, fun w xs ys hx hy => ?_, fun w xs ys hx hy => ?_, fun op x y xs ys w => run_eqGuard_agg w op 201 x y xs ys Tryz.eqGuardType201⟩
 ·obtain ⟨x0, x1, x2, hx⟩ := yQ hx
  obtain ⟨y0, y1, y2, hy⟩ := yQ hy
  subst hx; subst hy
  simp [go_sem, mJ, eqV, fG, bW]
  (repeat' split) <;> simp_all
 ·obtain ⟨x0, x1, x2, hx⟩ := yQ hx
  obtain ⟨y0, y1, y2, hy⟩ := yQ hy
  subst hx; subst hy
  simp [go_sem, mJ, eqV, fG, bW]
  (repeat' split) <;> simp_all
set_option maxHeartbeats 1000000 in
theorem b5X : EqT Tryz.prog 203 [1, 1, 1, 3, 1, 1, 3] := by
 refine ⟨by decide, fun w xs ys hx hy => ?_, fun w xs ys hx hy => ?_, fun op x y xs ys w => run_eqGuard_agg w op 203 x y xs ys Tryz.eqGuardType203⟩
 ·obtain ⟨x0, x1, x2, x3, x4, x5, x6, hx⟩ := yR hx
  obtain ⟨y0, y1, y2, y3, y4, y5, y6, hy⟩ := yR hy
  subst hx; subst hy
  simp [go_sem, mJ, eqV, fG, bW]
  (repeat' split) <;> simp_all
 ·obtain ⟨x0, x1, x2, x3, x4, x5, x6, hx⟩ := yR hx
  obtain ⟨y0, y1, y2, y3, y4, y5, y6, hy⟩ := yR hy
  subst hx; subst hy
  simp [go_sem, mJ, eqV, fG, bW]
  (repeat' split) <;> simp_all
set_option maxHeartbeats 1000000 in
theorem b5Y : EqT Tryz.prog 240 [3, 1, 1, 3] := by
 refine ⟨by decide, fun w xs ys hx hy => ?_, fun w xs ys hx hy => ?_, fun op x y xs ys w => run_eqGuard_agg w op 240 x y xs ys Tryz.eqGuardType240⟩
 ·obtain ⟨x0, x1, x2, x3, hx⟩ := yS hx
  obtain ⟨y0, y1, y2, y3, hy⟩ := yS hy
  subst hx; subst hy
  simp [go_sem, mJ, eqV, fG, bW]
  (repeat' split) <;> simp_all
 ·obtain ⟨x0, x1, x2, x3, hx⟩ := yS hx
  obtain ⟨y0, y1, y2, y3, hy⟩ := yS hy
  subst hx; subst hy
  simp [go_sem, mJ, eqV, fG, bW]
  (repeat' split) <;> simp_all
theorem b2y : ∀ t, eqk t ≠ [] → EqT Tryz.prog t (eqk t) := by
 intro t h
 unfold eqk at h ⊢
 by_cases e23 : t = 23
 ·subst e23; exact b7e
 simp only [e23, if_false] at h ⊢
 by_cases e34 : t = 34
 ·subst e34; exact b7f
 simp only [e34, if_false] at h ⊢
 by_cases e81 : t = 81
 ·subst e81; exact b7g
 simp only [e81, if_false] at h ⊢
 by_cases e122 : t = 122
 ·subst e122; exact b5S
 simp only [e122, if_false] at h ⊢
 by_cases e124 : t = 124
 ·subst e124; exact b5T
 simp only [e124, if_false] at h ⊢
 by_cases e155 : t = 155
 ·subst e155; exact b5U
 simp only [e155, if_false] at h ⊢
 by_cases e157 : t = 157
 ·subst e157; exact b5V
 simp only [e157, if_false] at h ⊢
 by_cases e201 : t = 201
 ·subst e201; exact b5W
 simp only [e201, if_false] at h ⊢
 by_cases e203 : t = 203
 ·subst e203; exact b5X
 simp only [e203, if_false] at h ⊢
 by_cases e240 : t = 240
 ·subst e240; exact b5Y
 simp only [e240, if_false] at h ⊢
 exact (h rfl).elim
noncomputable def EV (C : Ctx) : Env := ⟨Tryz.prog, tt, C, eqk⟩
theorem b8j (C : Ctx) : (EV C).T = tt := rfl
theorem b8k (C : Ctx) : (EV C).eqk = eqk := rfl
attribute [go_sem] tts b8j b8k eqk
theorem reg {C : Ctx} {id : Nat} {ops : List Oper} {F : Ex → St → Prop} {st : St} (h : vcRun (EV C) ops ops st (F .normal) ⟨⟩) : WP Tryz.prog C (.region id ops.toArray false) F st := b1h (E := EV C) a2h b2y h.out
instance nReg {C : Ctx} {id : Nat} {ops : List Oper} {F : Ex → St → Prop} {st : St} : Ny (WP Tryz.prog C (.region id ops.toArray false) F st) (vcRun (EV C) ops ops st (F .normal) ⟨⟩) := ⟨reg⟩
instance nCond {C : Ctx} {c : Operand} {x y : Code} {F : Ex → St → Prop} {st : St} : Ny (WP Tryz.prog C (.cond c x y) F st) (Nm (cndK (ev st c) (WP Tryz.prog C x F st) (WP Tryz.prog C y F st) ⟨⟩)) := ⟨fun h => by obtain ⟨b, hs, h1, h2⟩ := h; exact b4u (E := EV C) hs h1 h2⟩
instance clT {C : Ctx} {f : Nat} {args args' : List SV} {res : SV} {st : St} {K : St → SV → Prop} : Cy Tryz.prog f args' res (CallT (EV C) f args st K ⟨⟩) (args.map (jQ (bU st.h (gI args))) = args' ∧ args'.all eD = true) (Nm (K ⟨st.t, bU st.h (gI args) ++ adH res.all⟩ (adS (bU st.h (gI args)).length res))) := ⟨fun h o k => ⟨CallS.frz (E := EV C) h o.1 o.2 k⟩⟩
instance clD {C : Ctx} {f : Nat} {args args' : List SV} {res : SV} {h : List HB} {k : SV → Prop} : Cy Tryz.prog f args' res (CallD (EV C) f args h k ⟨⟩) ((args.map (jQ h) = args' ∧ args'.all eD = true) ∧ res.all.all isD = true) (Nm (k res)) := ⟨fun hf o hk => CallD.of_fn (E := EV C) hf o.1.1 o.1.2 o.2 hk⟩
instance clG {C : Ctx} {f : Nat} {args args' : List SV} {res : SV} {h : List HB} {k : List HB → SV → Prop} : Cy Tryz.prog f args' res (CallG (EV C) f args h k ⟨⟩) (args.map (jQ (bU h (gI args))) = args' ∧ args'.all eD = true) (Nm (k (bU h (gI args) ++ adH res.all) (adS (bU h (gI args)).length res))) := ⟨fun hf o hk => CallG.frz (E := EV C) hf o.1 o.2 hk⟩
theorem fol : Tryz.prog.follows .mixedOrders = true := by kernel_rfl
theorem a8w {C : Ctx} {id : Nat} {ops : List Oper} {F : Ex → St → Prop} {st : St} (hB : Region.lexB .any ops.toArray = true) (h : vcDRun (EV C) ops ops st (F .normal) ⟨⟩) : WP Tryz.prog C (.region id ops.toArray true) F st := b4A (E := EV C) a2h b2y fol hB h.out
theorem ent {f : Nat} {fn : Func} {c : Code} {rs : List ResultVar} {args : List SV} {res : SV} (hf : Tryz.prog.funcs[f]? = some fn) (hb : fn.body = some c) (hcall : ∀ x w, (callFunc f x).run Tryz.prog w = .ok (.enter f x) w) (hres : fn.results = rs.toArray)
    (h : ∀ C : Ctx, WP Tryz.prog C c (cB Tryz.prog C [] (b2B (EV C) rs res)) (st0 args fn.ntmps)) : FnC Tryz.prog f args res := FnC.of_wp (eqk := eqk) a2h hf hb hcall hres fun C _ => h C
theorem b7h {C : Ctx} {f : Nat} {args args' : List SV} {res : SV} {h : List HB} {k : SV → Prop} (hf : FnC Tryz.prog f args' res) (h1 : args.map (eZ h) = args') (h2 : args'.all eD = true) (h3 : res.all.all isD = true) (h4 : res.all.all mO = true) (hk : k res) : CallD (EV C) f args h k ⟨⟩ := CallD.of_own (E := EV C) hf h1 h2 h3 h4 hk
theorem b8l {C : Ctx} {f : Nat} {args args' : List SV} {res : SV} {st : St} {K : St → SV → Prop} (h : FnC Tryz.prog f args' res) (he : args.map (eZ (bU st.h (gI args))) = args') (hfree : args'.all eD = true) (hres : res.all.all mO = true) (k : K ⟨st.t, bU st.h (gI args) ++ adG (fun _ => none) 0 res.all⟩ (adS (bU st.h (gI args)).length res)) : CallT (EV C) f args st K ⟨⟩ := ⟨CallS.lendF (E := EV C) h he hfree hres k⟩
theorem b8m {C : Ctx} {f : Nat} {b : Bool} {cs outs : List At} {n res : Int} {a0 : SV} {st : St} {K : St → SV → Prop} (h : FnM Tryz.prog f b cs outs n res) (ha : isG a0 = some b) (hm : fJ st.h a0.cells cs outs) (k : K ⟨st.t, qN st.h a0.cells outs⟩ (oi res)) : CallT (EV C) f [a0, oi n] st K ⟨⟩ := ⟨CallS.mark (E := EV C) h (b1k ha) hm k⟩
theorem b8n {C : Ctx} {f : Nat} {ty0 ty1 sz' : Nat} {sub0 sub1 : List (List D)} {n res : Int} {id sz i fo : Nat} {st : St} {K : St → SV → Prop} (h : FnM Tryz.prog f false [.w ty0 sz' sub0] [.w ty1 sz' sub1] n res) (ok : a2s st.h id sz i fo sz' sub0) (k : K ⟨st.t, a6T st.h id i fo sub1⟩ (oi res)) : CallT (EV C) f [.o (.n id sz i fo), oi n] st K ⟨⟩ := ⟨CallS.partC (E := EV C) h ok k⟩
theorem b8o {C : Ctx} {f ty sz id : Nat} {rows rows' : List (List D)} {args' rest : List SV} {st : St} {K : St → SV → Prop} (h : FnI Tryz.prog f ty sz rows args' false rows') (hid : dX (bU st.h (gI rest)) id = .row ty sz rows true) (he : rest.map (jQ (bU st.h (gI rest))) = args') (hfree : args'.all eD = true) (k : K ⟨st.t.map (zJ id), setH ((bU st.h (gI rest)).map (qX id)) id (.row ty sz rows' true)⟩ (.o (.s id))) : CallT (EV C) f (.o (.s id) :: rest) st K ⟨⟩ := ⟨CallS.give (E := EV C) h hid he hfree (by simpa using k)⟩
theorem b8p {C : Ctx} {f ty sz id : Nat} {rows rows' : List (List D)} {args' rest : List SV} {st : St} {K : St → SV → Prop} (h : FnI Tryz.prog f ty sz rows args' true rows') (hid : dX (bU st.h (gI rest)) id = .row ty sz rows true) (he : rest.map (jQ (bU st.h (gI rest))) = args') (hfree : args'.all eD = true) (k : K ⟨st.t, setH (bU st.h (gI rest)) id (.row ty sz rows' true)⟩ (.t [])) : CallT (EV C) f (.o (.s id) :: rest) st K ⟨⟩ := ⟨CallS.give (E := EV C) h hid he hfree (by simpa using k)⟩
theorem b8q {C : Ctx} {f : Nat} {args args' : List SV} {res : SV} {st : St} {K : St → SV → Prop} (h : FnC Tryz.prog f args' res) (he : args.map (eZ st.h) = args') (hfree : args'.all eD = true) (hres : res.all.all mO = true) (k : K ⟨st.t, st.h ++ adG (fun _ => none) 0 res.all⟩ (adS st.h.length res)) : CallT (EV C) f args st K ⟨⟩ := ⟨CallS.lend (E := EV C) h he hfree hres k⟩
theorem b7i {C : Ctx} {id : Nat} {ops : List Oper} {F : Ex → St → Prop} {st : St} (n : Nat) (l : List (Nat × Plan)) (hn : ops.length = n) (hp : a4o ops n (Array.replicate n false) l = true) (h : vcPT (EV C) ops n l st (F .normal) ⟨⟩) : WP Tryz.prog C (.region id ops.toArray true) F st := b3b (E := EV C) a2h b2y fol l hn hp h.out (fun _ e => e)
theorem entm {f : Nat} {fn : Func} {c : Code} {rs : List ResultVar} {b : Bool} {cs outs : List At} {n res : Int} (hf : Tryz.prog.funcs[f]? = some fn) (hb : fn.body = some c) (hcall : ∀ x w, (callFunc f x).run Tryz.prog w = .ok (.enter f x) w) (hres : fn.results = rs.toArray) (hone : b = false → cs.length = 1) (hsh : shp cs outs)
    (h : ∀ (C : Ctx) (tg : Nat → Option (Value × List Nat × List Value)), WP Tryz.prog C c (cB Tryz.prog C [] (b7l (EV C) rs res (adG tg 0 outs))) (stM tg b cs n fn.ntmps)) : FnM Tryz.prog f b cs outs n res := FnM.of_wp (eqk := eqk) a2h hf hb hcall hres hone hsh h
theorem b8r {C : Ctx} {f : Nat} {args args' : List SV} {res : SV} {st : St} {K : St → SV → Prop} (h : FnC Tryz.prog f args' res) (he : args.map (eZ st.h) = args') (hfree : args'.all eD = true) (hres : res.all.all mO = true) (k : K ⟨st.t, st.h ++ adH res.all⟩ (adS st.h.length res)) : CallT (EV C) f args st K ⟨⟩ := ⟨CallS.lendW (E := EV C) h he hfree hres k⟩
theorem rS {C : Ctx} {id : Nat} {ops l m : List Oper} {F : Ex → St → Prop} {st : St} (ps ds : List Nat) (hl : rdX ds ops = l) (hm : a5Q ops = m) (hok : (b0n ops ps ds && b1B ps ops && ps.all fun i => decide (i < ops.length)) = true) (hb : st.okB = true) (h : vcGRun (EV C) ds ops m st (fun st1 => vcStT (EV C) ops l ds ps ⟨st1.t, st.h⟩ (F .normal) ⟨⟩) ⟨⟩) : WP Tryz.prog C (.region id ops.toArray true) F st := by
 subst hl hm
 have e : (fun st1 : St => vcStT (EV C) ops (rdX ds ops) ds ps ⟨st1.t, st.h⟩ (F .normal) ⟨⟩) = (fun st1 => zL (EV C) ops ds ps ⟨st1.t, st.h⟩ (F .normal)) := funext fun s => propext ⟨fun h => h.out rfl, fun h => ⟨fun _ => h⟩⟩
 rw [e] at h
 simp only [Bool.and_eq_true] at hok
 exact b1E (E := EV C) a2h b2y fol ps ds hok.1.1 hok.1.2 hok.2 hb h.out
theorem cGo {C : Ctx} {f : Nat} {args args' : List SV} {res : SV} {h : List HB} {k : List HB → SV → Prop} (hf : FnC Tryz.prog f args' res) (he : args.map (eZ h) = args') (hfree : args'.all eD = true) (hres : res.all.all mO = true) (hk : k (h ++ adG (fun _ => none) 0 res.all) (adS h.length res)) : CallG (EV C) f args h k ⟨⟩ := CallG.lend (E := EV C) hf he hfree hres hk
theorem cGr {C : Ctx} {f : Nat} {args args' : List SV} {res : SV} {h : List HB} {k : List HB → SV → Prop} (hf : FnC Tryz.prog f args' res) (he : args.map (eZ h) = args') (hfree : args'.all eD = true) (hres : res.all.all mO = true) (hk : k (h ++ adH res.all) (adS h.length res)) : CallG (EV C) f args h k ⟨⟩ := CallG.lendW (E := EV C) hf he hfree hres hk
theorem cDr {C : Ctx} {f ty sz : Nat} {rows : List (List D)} {args args' : List SV} {h : List HB} {k : SV → Prop} (hf : FnC Tryz.prog f args' (.o (.w ty sz rows))) (h1 : args.map (eZ h) = args') (h2 : args'.all eD = true) (h3 : kX rows = true) (hk : k (.o (.d (.sl rows)))) : CallD (EV C) f args h k ⟨⟩ := CallD.of_lend (E := EV C) hf h1 h2 h3 hk
theorem vO {C : Ctx} {f : Nat} {args args' : List SV} {res : SV} {st : St} {K : St → SV → Prop} (h : FnC Tryz.prog f args' res) (k : Nm (K ⟨st.t, bU st.h (gI args) ++ adG (fun _ => none) 0 res.all⟩ (adS (bU st.h (gI args)).length res))) (he : args.map (eZ (bU st.h (gI args))) = args' := by simp only [go_sem, qH] <;> fail) (hfree : args'.all eD = true := by simp only [go_sem, qH] <;> fail) (hres : res.all.all mO = true := by simp only [go_sem, qH] <;> fail) : CallT (EV C) f args st K ⟨⟩ := b8l h he hfree hres k
theorem vQ {C : Ctx} {f : Nat} {args args' : List SV} {res : SV} {h : List HB} {k : SV → Prop} (hf : FnC Tryz.prog f args' res) (hk : Nm (k res)) (h1 : args.map (eZ h) = args' := by simp only [go_sem, qH] <;> fail) (h2 : args'.all eD = true := by simp only [go_sem, qH] <;> fail) (h3 : res.all.all isD = true := by simp only [go_sem, qH] <;> fail) (h4 : res.all.all mO = true := by simp only [go_sem, qH] <;> fail) : CallD (EV C) f args h k ⟨⟩ := b7h hf h1 h2 h3 h4 hk
theorem vM {C : Ctx} {f : Nat} {b : Bool} {cs outs : List At} {n res : Int} {a0 : SV} {st : St} {K : St → SV → Prop} (h : FnM Tryz.prog f b cs outs n res) (k : Nm (K ⟨st.t, qN st.h a0.cells outs⟩ (oi res))) (ha : isG a0 = some b := by simp only [go_sem] <;> fail) (hm : fJ st.h a0.cells cs outs := by simp only [go_sem, qH] <;> fail) : CallT (EV C) f [a0, oi n] st K ⟨⟩ := b8m h ha hm k
theorem vN {C : Ctx} {f : Nat} {ty0 ty1 sz' : Nat} {sub0 sub1 : List (List D)} {n res : Int} {id sz i fo : Nat} {st : St} {K : St → SV → Prop} (h : FnM Tryz.prog f false [.w ty0 sz' sub0] [.w ty1 sz' sub1] n res) (k : Nm (K ⟨st.t, a6T st.h id i fo sub1⟩ (oi res))) (ok : a2s st.h id sz i fo sz' sub0 := by simp only [go_sem, qH] <;> fail) : CallT (EV C) f [.o (.n id sz i fo), oi n] st K ⟨⟩ := b8n h ok k
theorem vI {C : Ctx} {f ty sz id : Nat} {rows rows' : List (List D)} {args' rest : List SV} {st : St} {K : St → SV → Prop} (h : FnI Tryz.prog f ty sz rows args' false rows') (k : Nm (K ⟨st.t.map (zJ id), setH ((bU st.h (gI rest)).map (qX id)) id (.row ty sz rows' true)⟩ (.o (.s id)))) (hid : dX (bU st.h (gI rest)) id = .row ty sz rows true := by simp only [go_sem, qH] <;> fail) (he : rest.map (jQ (bU st.h (gI rest))) = args' := by simp only [go_sem, qH] <;> fail) (hfree : args'.all eD = true := by simp only [go_sem, qH] <;> fail) : CallT (EV C) f (.o (.s id) :: rest) st K ⟨⟩ := b8o h hid he hfree k
theorem vJ {C : Ctx} {f ty sz id : Nat} {rows rows' : List (List D)} {args' rest : List SV} {st : St} {K : St → SV → Prop} (h : FnI Tryz.prog f ty sz rows args' true rows') (k : Nm (K ⟨st.t, setH (bU st.h (gI rest)) id (.row ty sz rows' true)⟩ (.t []))) (hid : dX (bU st.h (gI rest)) id = .row ty sz rows true := by simp only [go_sem, qH] <;> fail) (he : rest.map (jQ (bU st.h (gI rest))) = args' := by simp only [go_sem, qH] <;> fail) (hfree : args'.all eD = true := by simp only [go_sem, qH] <;> fail) : CallT (EV C) f (.o (.s id) :: rest) st K ⟨⟩ := b8p h hid he hfree k
theorem vL {C : Ctx} {f : Nat} {args args' : List SV} {res : SV} {st : St} {K : St → SV → Prop} (h : FnC Tryz.prog f args' res) (k : Nm (K ⟨st.t, st.h ++ adG (fun _ => none) 0 res.all⟩ (adS st.h.length res))) (he : args.map (eZ st.h) = args' := by simp only [go_sem, qH] <;> fail) (hfree : args'.all eD = true := by simp only [go_sem, qH] <;> fail) (hres : res.all.all mO = true := by simp only [go_sem, qH] <;> fail) : CallT (EV C) f args st K ⟨⟩ := b8q h he hfree hres k
theorem vR {C : Ctx} {f : Nat} {args args' : List SV} {res : SV} {st : St} {K : St → SV → Prop} (h : FnC Tryz.prog f args' res) (k : Nm (K ⟨st.t, st.h ++ adH res.all⟩ (adS st.h.length res))) (he : args.map (eZ st.h) = args' := by simp only [go_sem, qH] <;> fail) (hfree : args'.all eD = true := by simp only [go_sem, qH] <;> fail) (hres : res.all.all mO = true := by simp only [go_sem, qH] <;> fail) : CallT (EV C) f args st K ⟨⟩ := b8r h he hfree hres k
theorem vD {C : Ctx} {f ty sz : Nat} {rows : List (List D)} {args args' : List SV} {h : List HB} {k : SV → Prop} (hf : FnC Tryz.prog f args' (.o (.w ty sz rows))) (hk : Nm (k (.o (.d (.sl rows))))) (h1 : args.map (eZ h) = args' := by simp only [go_sem, qH] <;> fail) (h2 : args'.all eD = true := by simp only [go_sem, qH] <;> fail) (h3 : kX rows = true := by simp only [go_sem, qH] <;> fail) : CallD (EV C) f args h k ⟨⟩ := cDr hf h1 h2 h3 hk
theorem rD {C : Ctx} {id : Nat} {ops : List Oper} {F : Ex → St → Prop} {st : St} (h : vcDRun (EV C) ops ops st (F .normal) ⟨⟩) (hB : Region.lexB .any ops.toArray = true := by kernel_rfl) : WP Tryz.prog C (.region id ops.toArray true) F st := a8w hB h
theorem rT {C : Ctx} {id : Nat} {ops l m : List Oper} {F : Ex → St → Prop} {st : St} (ps : List Nat) (ds : List Nat) (h : vcGRun (EV C) ds ops m st (fun st1 => vcStT (EV C) ops l ds ps ⟨st1.t, st.h⟩ (F .normal) ⟨⟩) ⟨⟩) (hl : rdX ds ops = l := by simp only [go_sem]; rfl) (hm : a5Q ops = m := by simp only [go_sem]; rfl) (hok : (b0n ops ps ds && b1B ps ops && ps.all fun i => decide (i < ops.length)) = true := by decide +kernel) (hb : st.okB = true := by simp only [go_sem] <;> fail) : WP Tryz.prog C (.region id ops.toArray true) F st := rS ps ds hl hm hok hb h
end Go.Proofs.YtgpoopjfkplilaaGreatDoor
end
