/- The proof of a given statement, a part of it (ShFlows Flows Flows2 ShPoints Points). No condition but what each lemma says. -/
import Derived.Test.YtpbmephflllolaaGreatA14
set_option linter.unusedVariables false
set_option linter.unusedSimpArgs false
namespace Go.Proofs.YtpbmephflllolaaGreat
open Go
def A9e (X : Nat → Prop) (t0 : Value) (R : Value → WP) : WP :=
 A0 PR (A7 .min #[3, 3] 0 [t0, (.int .i64 64)]) fun t4 =>
 A0 PR (A7 .max #[3, 3] 0 [(.int .i64 0), t4]) fun t5 =>
 B2 PR X (Instr.makeSlice 94 t5 t5) fun t6 =>
 R t6
theorem A8y : B0 PR 37 := A8 Tryz.func37 (by kernel_rfl) rfl
theorem B7Y {X : Nat → Prop} {t0 : Value} {R : Value → WP} {w : World} (h : A9e X t0 R w) : Fn PR X 37 #[t0] w R := C6 (args := [t0]) mixed Tryz.func37 (by kernel_rfl) h
def A9B (X : Nat → Prop) (t0 : Value) (R : Value → WP) : WP :=
 B2 PR X (Instr.alloc 48 true (.tuple #[])) fun t3 =>
 jn (n := 0) (
 A6 PR (Instr.loadAt 48 t3) fun t15 =>
 f7 (R t15)) fun J1 =>
 B1 PR X 90 [t0] fun t7 =>
 rng (N := 2) PR X (fun t8 t9 K2 =>
 B2 PR (fun _ => False) (Instr.alloc 160 true (.tuple #[])) fun t5 =>
 B6 PR (fun _ => False) (Instr.storeAt 160 t5 t9) <|
 bgn <|
 A6 PR (Instr.loadAt 48 t3) fun t10 =>
 A0 PR (Instr.fieldAt 160 t5 1) fun t11 =>
 A6 PR (Instr.loadAt 9 t11) fun t12 =>
 B2 PR (fun _ => False) (Instr.buildSlice 48 1 #[(0, t12)]) fun t13 =>
 B2 PR (fun _ => False) (A7 .append #[48, 48] 48 [t10, t13]) fun t14 =>
 B6 PR (fun _ => False) (Instr.storeAt 48 t3 t14) <|
 K2 none) t7 (fun j => match j with | none => (J1) | some (.exit i) => (match Nat.beq i 0 with | true => (J1) | false => (F7)) | some .ret => (f7 (R (.slice none 0 0))) | some _ => F7)
theorem B31 : B0 PR 47 := A8 Tryz.func47 (by kernel_rfl) rfl
theorem B5q {X : Nat → Prop} {t0 : Value} {R : Value → WP} {w : World} (h : A9B X t0 R w) : Fn PR X 47 #[t0] w R := C6 (args := [t0]) mixed Tryz.func47 (by kernel_rfl) h
def A2f (X : Nat → Prop) (t0 : Value) (R : Value → WP) : WP :=
 B2 PR X (Instr.box 176 t0) fun t1 =>
 A0 PR (Instr.makeFunc (.func 138) #[] #[t1]) fun t3 =>
 R t3
theorem A2Z : B0 PR 90 := A8 Tryz.func90 (by kernel_rfl) rfl
theorem A9Q {X : Nat → Prop} {t0 : Value} {R : Value → WP} {w : World} (h : A2f X t0 R w) : Fn PR X 90 #[t0] w R := C6 (args := [t0]) mixed Tryz.func90 (by kernel_rfl) h
def A53 (X : Nat → Prop) (t0 t1 : Value) (R : Value → WP) : WP :=
 B2 PR X (Instr.box 9 t1) fun t3 =>
 A0 PR (Instr.makeFunc (.func 154) #[] #[t3]) fun t10 =>
 B1 PR X 153 [t0, t10] fun t11 =>
 A0 PR (Instr.extract t11 0) fun t12 =>
 A0 PR (Instr.extract t11 1) fun t13 =>
 jn (n := 1) (fun t6 =>
 R (.tuple #[t6, t13])) fun J1 =>
 gj t13 true (fun J => J t12) fun t16 =>
 gj t13 true (fun J => B1 PR X 113 [t16, (.int .i64 2)] J) fun t17 =>
 gj t13 true (fun J => A0 PR (binOp .mul 3 (.int .i64 2) t17) J) fun t18 =>
 gj t13 true (fun J => J t12) fun t19 =>
 gj t13 true (fun J => A0 PR (A7 .len #[94] 0 [t19]) J) fun t20 =>
 gj t13 true (fun J => A0 PR (binOp .gtr 3 t18 t20) J) fun t21 =>
 A0 PR (do pure (if ← asBool t13 then t21 else (.bool false))) fun t22 =>
 B5 t22 (
 B1 PR X 114 [t12] fun t24 =>
 J1 t24) (
 J1 t12)
theorem B17 : B0 PR 105 := A8 Tryz.func105 (by kernel_rfl) rfl
theorem B2Z {X : Nat → Prop} {t0 t1 : Value} {R : Value → WP} {w : World} (h : A53 X t0 t1 R w) : Fn PR X 105 #[t0, t1] w R := C6 (args := [t0, t1]) mixed Tryz.func105 (by kernel_rfl) h
def B0B (X : Nat → Prop) (t0 t1 t2 t3 : Value) (R : Value → WP) : WP :=
 A0 PR (Instr.build 160 #[(0, (.int .i64 1)), (1, t1), (2, t2), (3, t3)]) fun t16 =>
 B2 PR X (Instr.alloc 160 true (.tuple #[])) fun t10 =>
 B6 PR X (Instr.storeAt 160 t10 t16) <|
 A0 PR (Instr.makeFunc (.func 155) #[] #[t10]) fun t19 =>
 B1 PR X 153 [t0, t19] fun t20 =>
 A0 PR (Instr.extract t20 0) fun t21 =>
 A0 PR (Instr.extract t20 1) fun t22 =>
 jn (n := 2) (fun t8 t9 =>
 R (.tuple #[t21, (.int .i64 0)])) fun J1 =>
 A0 PR (Op.unary .not t22) fun t24 =>
 B5 t24 (
 R (.tuple #[t21, (.int .i64 12)])) (
 J1 (.slice none 0 0) (.int .i64 0))
theorem B5r : B0 PR 106 := A8 Tryz.func106 (by kernel_rfl) rfl
theorem B7S {X : Nat → Prop} {t0 t1 t2 t3 : Value} {R : Value → WP} {w : World} (h : B0B X t0 t1 t2 t3 R w) : Fn PR X 106 #[t0, t1, t2, t3] w R := C6 (args := [t0, t1, t2, t3]) mixed Tryz.func106 (by kernel_rfl) h
def A9E (X : Nat → Prop) (t0 : Value) (R : Value → WP) : WP :=
 A0 PR (A7 .len #[94] 0 [t0]) fun t7 =>
 B1 PR X 37 [t7] fun t8 =>
 B2 PR X (Instr.alloc 176 true (.tuple #[])) fun t3 =>
 B6 PR X (Instr.storeAt 176 t3 t8) <|
 jn (n := 0) (
 A6 PR (Instr.loadAt 176 t3) fun t16 =>
 f7 (R t16)) fun J1 =>
 B1 PR X 90 [t0] fun t10 =>
 rng (N := 2) PR X (fun t11 t12 K2 =>
 B2 PR (fun _ => False) (Instr.alloc 160 true (.tuple #[])) fun t5 =>
 B6 PR (fun _ => False) (Instr.storeAt 160 t5 t12) <|
 bgn <|
 A6 PR (Instr.loadAt 176 t3) fun t13 =>
 A6 PR (Instr.loadAt 160 t5) fun t14 =>
 B1 PR (fun _ => False) 156 [t13, t14] fun t15 =>
 K2 none) t10 (fun j => match j with | none => (J1) | some (.exit i) => (match Nat.beq i 0 with | true => (J1) | false => (F7)) | some .ret => (f7 (R (.slice none 0 0))) | some _ => F7)
theorem A7e : B0 PR 114 := A8 Tryz.func114 (by kernel_rfl) rfl
theorem B5c {X : Nat → Prop} {t0 : Value} {R : Value → WP} {w : World} (h : A9E X t0 R w) : Fn PR X 114 #[t0] w R := C6 (args := [t0]) mixed Tryz.func114 (by kernel_rfl) h
def A1L (X : Nat → Prop) (t0 t1 : Value) (R : Value → WP) : WP :=
 A6 PR (Instr.loadAt 176 t1) fun t5 =>
 A0 PR (A7 .len #[176] 0 [t5]) fun t6 =>
 lp (n := 1) (fun L1 t7 =>
 A0 PR (binOp .lss 3 t7 t6) fun t8 =>
 jn (n := 0) (
 jn (n := 0) (
 A0 PR (binOp .add 3 t7 (.int .i64 1)) fun t22 =>
 L1 t22) fun J2 =>
 A0 PR (Instr.indexAt 176 t5 t7) fun t10 =>
 A6 PR (Instr.loadAt 160 t10) fun t11 =>
 B2 PR X (Instr.alloc 160 true (.tuple #[])) fun t4 =>
 B6 PR X (Instr.storeAt 160 t4 t11) <|
 A0 PR (Instr.fieldAt 160 t4 0) fun t12 =>
 A6 PR (Instr.loadAt 3 t12) fun t13 =>
 A0 PR (binOp .eql 3 t13 (.int .i64 1)) fun t14 =>
 gj t14 true (fun J => J t0) fun t16 =>
 gj t14 true (fun J => J t7) fun t17 =>
 gj t14 true (fun J => A6 PR (Instr.loadAt 160 t4) J) fun t18 =>
 gj t14 true (fun J => M4 PR X t16 [t17, t18] J) fun t19 =>
 gj t14 true (fun J => A0 PR (Op.unary .not t19) J) fun t20 =>
 A0 PR (do pure (if ← asBool t14 then t20 else (.bool false))) fun t21 =>
 B5 t21 (
 R (.tuple #[])) (
 J2)) fun J3 =>
 B5 t8 (
 J3) (
 R (.tuple #[]))) (.int .i64 0)
theorem A5L : B0 PR 138 := A8 Tryz.func138 (by kernel_rfl) rfl
theorem A64 {X : Nat → Prop} {t0 t1 : Value} {R : Value → WP} {w : World} (h : A1L X t0 t1 R w) : Fn PR X 138 #[t0, t1] w R := C6 (args := [t0, t1]) mixed Tryz.func138 (by kernel_rfl) h
theorem A61 {X : Nat → Prop} {t0 t1 : Value} {K : Value → WP} {w : World} (h : Fn PR X 138 #[t0, t1] w K) : A1f PR X 138 [t0, t1] K w := ⟨A5L, h⟩
def A4u (X : Nat → Prop) (t0 t1 : Value) (R : Value → WP) : WP :=
 B1 PR X 111 [t0] fun t8 =>
 jn (n := 2) (fun t4 t5 =>
 R (.tuple #[t8, (.bool true)])) fun J1 =>
 M4 PR X t1 [t8] fun t11 =>
 A0 PR (Op.unary .not t11) fun t12 =>
 B5 t12 (
 R (.tuple #[t0, (.bool false)])) (
 J1 (.slice none 0 0) (.bool false))
theorem A3q : B0 PR 153 := A8 Tryz.func153 (by kernel_rfl) rfl
theorem B1y {X : Nat → Prop} {t0 t1 : Value} {R : Value → WP} {w : World} (h : A4u X t0 t1 R w) : Fn PR X 153 #[t0, t1] w R := C6 (args := [t0, t1]) mixed Tryz.func153 (by kernel_rfl) h
def A3G (X : Nat → Prop) (t0 t1 : Value) (R : Value → WP) : WP :=
 A6 PR (Instr.loadAt 9 t1) fun t6 =>
 B1 PR X 150 [t0, t6] fun t7 =>
 jn (n := 1) (fun t3 =>
 A0 PR (Instr.build 160 #[(0, (.int .i64 2))]) fun t12 =>
 A0 PR (Instr.indexAt 176 t0 t7) fun t13 =>
 B6 PR X (Instr.storeAt 160 t13 t12) <|
 R (.bool true)) fun J1 =>
 A0 PR (binOp .lss 3 t7 (.int .i64 0)) fun t9 =>
 B5 t9 (
 R (.bool false)) (
 J1 (.bool false))
theorem A9P : B0 PR 154 := A8 Tryz.func154 (by kernel_rfl) rfl
theorem A9p {X : Nat → Prop} {t0 t1 : Value} {R : Value → WP} {w : World} (h : A3G X t0 t1 R w) : Fn PR X 154 #[t0, t1] w R := C6 (args := [t0, t1]) mixed Tryz.func154 (by kernel_rfl) h
def A6W (X : Nat → Prop) (t0 t1 : Value) (R : Value → WP) : WP :=
 A6 PR (Instr.loadAt 160 t1) fun t5 =>
 B1 PR X 156 [t0, t5] fun t6 =>
 R t6
theorem B2G : B0 PR 155 := A8 Tryz.func155 (by kernel_rfl) rfl
theorem B3a {X : Nat → Prop} {t0 t1 : Value} {R : Value → WP} {w : World} (h : A6W X t0 t1 R w) : Fn PR X 155 #[t0, t1] w R := C6 (args := [t0, t1]) mixed Tryz.func155 (by kernel_rfl) h
def A3U (X : Nat → Prop) (t0 t1 : Value) (R : Value → WP) : WP :=
 B2 PR X (Instr.box 160 t1) fun t3 =>
 A0 PR (Instr.fieldAt 160 t3 1) fun t7 =>
 A6 PR (Instr.loadAt 9 t7) fun t8 =>
 B1 PR X 150 [t0, t8] fun t9 =>
 jn (n := 1) (fun t5 =>
 jn (n := 1) (fun t4 =>
 A6 PR (Instr.loadAt 160 t3) fun t20 =>
 A0 PR (Instr.indexAt 176 t0 t5) fun t21 =>
 B6 PR X (Instr.storeAt 160 t21 t20) <|
 R (.bool true)) fun J1 =>
 A0 PR (binOp .lss 3 t5 (.int .i64 0)) fun t17 =>
 B5 t17 (
 R (.bool false)) (
 J1 (.bool false))) fun J2 =>
 A0 PR (binOp .lss 3 t9 (.int .i64 0)) fun t11 =>
 B5 t11 (
 A0 PR (Instr.fieldAt 160 t3 1) fun t13 =>
 A6 PR (Instr.loadAt 9 t13) fun t14 =>
 B1 PR X 201 [t0, t14] fun t15 =>
 J2 t15) (
 J2 t9)
theorem A2g : B0 PR 156 := A8 Tryz.func156 (by kernel_rfl) rfl
theorem B0J {X : Nat → Prop} {t0 t1 : Value} {R : Value → WP} {w : World} (h : A3U X t0 t1 R w) : Fn PR X 156 #[t0, t1] w R := C6 (args := [t0, t1]) mixed Tryz.func156 (by kernel_rfl) h
end Go.Proofs.YtpbmephflllolaaGreat
namespace Go.Proofs.YtpbmephflllolaaGreat
open Go
theorem B5E (l : List EnV) : (l.flatMap D9).all plain = true := by
 rw [List.all_eq_true]; intro v hv; rw [List.mem_flatMap] at hv
 obtain ⟨x, _, hx⟩ := hv
 simp only [D9, List.mem_cons, List.not_mem_nil, or_false] at hx
 rcases hx with rfl | rfl | rfl | rfl <;> rfl
theorem B0C {α : Type} {f : α → List Value} {k : Nat} (hk : ∀ x, (f x).length = k) (l : List α) (i : Nat) (y : α) (hi : i < l.length) : A5B (l.flatMap f) (i * k) (f y) = (l.set i y).flatMap f := by
 have e1 := C1g hk l i
 have e2 := B0N hk l (i + 1)
 rw [Nat.add_mul, Nat.one_mul] at e2
 rw [A5B, hk, e1, e2, List.set_eq_take_append_cons_drop, if_pos hi, List.flatMap_append, List.flatMap_cons, List.append_assoc]
abbrev E6 (v : Value) (l : List EnV) : Res := .own 160 4 v l.length (l.flatMap D9)
def newE (n : Nat) : List EnV := List.replicate (min n 64) Z3
theorem C5W (n : Nat) : (Builtin.zeroCells (Value.agg #[.int .i64 0, .string Q8, .int .i64 0, .int .i64 0]).cells n).toList = (List.replicate n Z3).flatMap D9 := by
 have h4 : (Value.agg #[.int .i64 0, .string Q8, .int .i64 0, .int .i64 0]).cells.size = 4 := rfl
 have hz : (Builtin.zeroCells (Value.agg #[.int .i64 0, .string Q8, .int .i64 0, .int .i64 0]).cells n).toList.length = n * 4 := by simp [size_zeroCells]
 have hr : ((List.replicate n Z3).flatMap D9).length = n * 4 := by rw [U1 (k := 4) fun _ => rfl]; simp
 apply List.ext_getElem (by rw [hz, hr])
 intro i h1 h2
 rw [hz] at h1
 have hf := A4M (f := D9) (k := 4) (fun _ => rfl) (List.replicate n Z3) (i / 4) (i % 4) (by omega)
 rw [show i / 4 * 4 + i % 4 = i by omega, List.getElem?_eq_getElem h2, List.getElem?_replicate_of_lt (by omega)] at hf
 have e : (Builtin.zeroCells (Value.agg #[.int .i64 0, .string Q8, .int .i64 0, .int .i64 0]).cells n).toList[i]'(by rw [hz]; exact h1) = (Value.agg #[.int .i64 0, .string Q8, .int .i64 0, .int .i64 0]).cells[i % 4]! := by
  simp [Builtin.zeroCells]
 rw [e]
 have h3 : i % 4 = 0 ∨ i % 4 = 1 ∨ i % 4 = 2 ∨ i % 4 = 3 := by omega
 rcases h3 with h3 | h3 | h3 | h3 <;> (rw [h3] at hf ⊢; simp [D9, Z3] at hf ⊢; exact hf.symm)
theorem B1P (w : World) (n : Nat) (hn : n ≤ 1000000) : Fn PR B3 37 #[.int .i64 (n : Int)] w (Rn [] w (fun r u => u = r) fun r => [E6 r (newE n)]) := by
 refine B7Y (TW.go (κ := false) (S := []) ?_)
 unfold A9e
 have e : max 0 (min (n : Int) 64) = ((min n 64 : Nat) : Int) := by omega
 (have zz:=trivial;repeat((first|clear zz|with_reducible first|refine A3 ?_|refine A4 fun _=>?_|refine A5 fun _=>?_);try simp(disch:=first|omega|assumption|((repeat(first|exact A1|exact uH|apply A2|apply uT));first|done|fail)|(simp;first|done|omega|fail))[e]))
 refine B7m (by omega) (by omega) (by omega) (by omega) fun bs => ?_
 rw [Int.toNat_natCast]
 refine k7 _ rfl ?_
 simp only [E6, newE, List.length_replicate, ← C5W]
 exact List.Sublist.refl _
def F9 (l : List EnV) (x : EnV) : Option (List EnV) :=
 let at0 := D7 l x.key
 let at1 := if at0 < 0 then S7 l x.key else at0
 if at1 < 0 then none else some (l.set at1.toNat x)
theorem C4l {key : ByteArray} {n : Nat} : ∀ L : List (Nat × EnV), (∀ p ∈ L, p.1 < n) → 0 ≤ K9 key L → (K9 key L).toNat < n := by
 intro L
 induction L with
 | nil => intro _ h; simp [K9] at h
 | cons p L ih =>
  intro h h0
  simp only [K9] at h0 ⊢
  split
  ·rw [if_pos ‹_›] at h0; simp at h0
  ·rw [if_neg ‹_›] at h0
   split
   ·simpa using h p (by simp)
   ·rw [if_neg ‹_›] at h0; exact ih (fun q hq => h q (by simp [hq])) h0
theorem C3P {n : Nat} : ∀ L : List (Nat × EnV), (∀ p ∈ L, p.1 < n) → 0 ≤ N3 L → (N3 L).toNat < n := by
 intro L
 induction L with
 | nil => intro _ h; simp [N3] at h
 | cons p L ih =>
  intro h h0
  simp only [N3] at h0 ⊢
  split
  ·rw [if_pos ‹_›] at h0; exact ih (fun q hq => h q (by simp [hq])) h0
  ·simpa using h p (by simp)
theorem B8u (l : List EnV) (key : ByteArray) : ∀ p ∈ M5 l key, p.1 < l.length := by
 intro p hp
 obtain ⟨i, hi, rfl⟩ := List.mem_map.1 hp
 exact Nat.mod_lt _ (by simp at hi; omega)
theorem y6 {l : List EnV} {key : ByteArray} (h : 0 ≤ D7 l key) : (D7 l key).toNat < l.length := C4l _ (B8u l key) h
theorem B1m {l : List EnV} {key : ByteArray} (h : 0 ≤ S7 l key) : (S7 l key).toNat < l.length := by
 unfold S7 at h ⊢
 split
 ·rw [if_pos ‹_›] at h; simp at h
 ·rw [if_neg ‹_›] at h; exact C3P _ (B8u l key) h
theorem A8c {l m : List EnV} {x : EnV} (h : F9 l x = some m) : m.length = l.length := by
 unfold F9 at h
 simp only at h
 by_cases c : (if D7 l x.key < 0 then S7 l x.key else D7 l x.key) < 0
 ·rw [if_pos c] at h; cases h
 ·rw [if_neg c] at h; injection h with h; rw [← h]; simp
theorem B83 (w : World) (v : Value) (l : List EnV) (x : EnV) (hk : x.key.size < 2 ^ 60) (hn : l.length ≤ 1000000) (hw : LW false (C7 [E6 v l]) w [E6 v l] w) :
  Fn PR B3 156 #[v, .agg #[.int .i64 x.st, .string x.key, .int .i64 x.bk, .int .i64 x.dl]] w (Rn (C7 [E6 v l]) w (fun (_ : Unit) u => u = .bool (F9 l x).isSome) fun _ => [E6 v ((F9 l x).getD l)]) := by
 refine B0J (TW.goH (κ := false) (S := C7 [E6 v l]) ?_ hw)
 unfold A3U
 (have zz:=trivial;repeat((first|clear zz|with_reducible first|refine A3 ?_|refine A4 fun _=>?_|refine A5 fun _=>?_);try simp(disch:=first|omega|assumption|((repeat(first|exact A1|exact uH|apply A2|apply uT));first|done|fail)|(simp;first|done|omega|fail))[]))
 rename_i bx
 refine B8 A0J (fun w' hw' => A16 w' v l x.key hk hn (K3.own (by (repeat constructor)) w' hw')) ?_
 have l2 : ∀ r : Int, 0 ≤ r → r.toNat < l.length → F9 l x = some (l.set r.toNat x) → TW false (C7 [E6 v l]) w [.pt bx (.cells #[.int .i64 x.st, .string x.key, .int .i64 x.bk, .int .i64 x.dl] 160), E6 v l]
   (A0 PR (Instr.indexAt 176 v (.int .i64 r)) fun t21 => B6 PR B3 (Instr.storeAt 160 t21 (.agg #[.int .i64 x.st, .string x.key, .int .i64 x.bk, .int .i64 x.dl])) <|
    Rn (C7 [E6 v l]) w (fun (_ : Unit) u => u = .bool (F9 l x).isSome) (fun _ => [E6 v ((F9 l x).getD l)]) (.bool true)) := by
  intro r h0 hi hp
  obtain ⟨i, rfl⟩ : ∃ i : Nat, r = i := ⟨r.toNat, by omega⟩
  rw [Int.toNat_natCast] at hi hp
  refine A2E (e := 160) (k := 4) (v := v) (q := l.length) (xs := l.flatMap D9) (by (repeat constructor)) (by omega) ?_
  rintro g c rfl
  (have zz:=trivial;repeat((first|clear zz|with_reducible first|refine A3 ?_|refine A4 fun _=>?_|refine A5 fun _=>?_);try simp(disch:=first|omega|assumption|((repeat(first|exact A1|exact uH|apply A2|apply uT));first|done|fail)|(simp;first|done|omega|fail))[hi]))
  refine A4l (by (repeat constructor)) (by simp) (by rw [A0G]; omega) (by simp) ?_
  refine C0 () (by simp [hp]) ?_
  have := B0C (f := D9) (k := 4) (fun _ => rfl) l i x hi
  simp only [hp, Option.getD_some, E6, List.length_set, ← this]
  (repeat' constructor)
 by_cases c1 : D7 l x.key < 0
 ·(have zz:=trivial;repeat((first|clear zz|with_reducible first|refine A3 ?_|refine A4 fun _=>?_|refine A5 fun _=>?_);try simp(disch:=first|omega|assumption|((repeat(first|exact A1|exact uH|apply A2|apply uT));first|done|fail)|(simp;first|done|omega|fail))[c1]))
  refine B8 B3v (fun w' hw' => B7q w' v l x.key hk hn (K3.own (by (repeat constructor)) w' hw')) ?_
  by_cases c2 : S7 l x.key < 0
  ·have hp : F9 l x = none := by simp [F9, c1, c2]
   (have zz:=trivial;repeat((first|clear zz|with_reducible first|refine A3 ?_|refine A4 fun _=>?_|refine A5 fun _=>?_);try simp(disch:=first|omega|assumption|((repeat(first|exact A1|exact uH|apply A2|apply uT));first|done|fail)|(simp;first|done|omega|fail))[c2]))
   exact C0 () (by simp [hp]) (by simp only [hp, Option.getD_none]; (repeat' constructor))
  ·have hp : F9 l x = some (l.set (S7 l x.key).toNat x) := by simp [F9, c1, c2]
   have := l2 _ (by omega) (B1m (by omega)) hp
   simp(disch:=first|omega|assumption|((repeat(first|exact A1|exact uH|apply A2|apply uT));first|done|fail)|(simp;first|done|omega|fail))[c2]
   exact this
 ·have hp : F9 l x = some (l.set (D7 l x.key).toNat x) := by simp [F9, c1]
  have := l2 _ (by omega) (y6 (by omega)) hp
  simp(disch:=first|omega|assumption|((repeat(first|exact A1|exact uH|apply A2|apply uT));first|done|fail)|(simp;first|done|omega|fail))[c1]
  exact this
def N9 : Nat → List EnV → List (Nat × EnV)
 | _, [] => []
 | i, x :: r => if x.st = 1 then (i, x) :: N9 (i + 1) r else N9 (i + 1) r
def G6 (l : List EnV) : List (Nat × EnV) := N9 0 l
theorem B46 (i : Nat) (l m : List EnV) : N9 i (l ++ m) = N9 i l ++ N9 (i + l.length) m := by
 induction l generalizing i with
 | nil => simp [N9]
 | cons x l ih =>
  simp only [List.cons_append, N9, ih, List.length_cons]
  split
  ·simp only [List.cons_append]; congr 3; omega
  ·congr 2; omega
theorem B2K {l : List EnV} {i : Nat} {x : EnV} (hx : l[i]? = some x) : G6 (l.take (i + 1)) = G6 (l.take i) ++ (if x.st = 1 then [(i, x)] else []) := by
 obtain ⟨hi, _⟩ := List.getElem?_eq_some_iff.1 hx
 rw [List.take_add_one, hx, G6, B46, Option.toList_some, List.length_take, Nat.zero_add, Nat.min_eq_left (by omega)]
 simp only [N9, G6]
theorem C1P {l : List EnV} {i : Nat} {x : EnV} (hx : l[i]? = some x) (h : x.st = 1) : (G6 l)[(G6 (l.take i)).length]? = some (i, x) := by
 have e : l = l.take (i + 1) ++ l.drop (i + 1) := (List.take_append_drop _ _).symm
 conv => lhs; arg 1; rw [e]
 rw [G6, B46, ← G6, B2K hx, if_pos h, List.append_assoc, List.getElem?_append_right (by omega)]
 simp
abbrev C5g (b : Nat) : Value := .func (.func 138) #[] #[.pointer (some ⟨b, 0, none⟩)]
theorem B8z (w : World) (v : Value) (hv : ∃ a n c, v = .slice a n c) : Fn PR B3 90 #[v] w (Rn [] w (fun b u => u = C5g b) fun b => [.pt b (.cells #[v] 176)]) := by
 obtain ⟨a, n, c, rfl⟩ := hv
 refine A9Q (TW.go (κ := false) (S := []) ?_)
 unfold A2f
 (have zz:=trivial;repeat((first|clear zz|with_reducible first|refine A3 ?_|refine A4 fun _=>?_|refine A5 fun _=>?_);try simp(disch:=first|omega|assumption|((repeat(first|exact A1|exact uH|apply A2|apply uT));first|done|fail)|(simp;first|done|omega|fail))[]))
 rename_i b
 exact k7 b rfl (by simp)
theorem B9F (b : Nat) (v : Value) (l : List EnV) (hn : l.length ≤ 1000000) : A36 (C5g b) [.pt b (.cells #[v] 176)] (RqS v l.length (l.flatMap D9)) ((G6 l).map A7B) := by
 refine ⟨_, _, _, rfl, fun y J E hJ hE stJ stE hy w0 h0 => ?_⟩
 obtain ⟨a, c, hv, hr⟩ := (hJ _ _ _ h0).2
 subst hv
 refine A61 (A64 (TW.at (κ := true) ?_ (hJ _ _ _ h0).1))
 unfold A1L
 (have zz:=trivial;repeat((first|clear zz|with_reducible first|refine A3 ?_|refine A4 fun _=>?_|refine A5 fun _=>?_);try simp(disch:=first|omega|assumption|((repeat(first|exact A1|exact uH|apply A2|apply uT));first|done|fail)|(simp;first|done|omega|fail))[]))
 refine A42 l.length (fun i => (G6 (l.take i)).length) (fun _ => _) hJ stJ (by simpa [G6, N9] using h0) fun i a' hi hJi hRi L hL => ?_
 by_cases hlt : i < l.length
 ·obtain ⟨_, _, hv, hr⟩ := hRi
  obtain ⟨b', o, hb, hrow, hnb⟩ := hr (by omega)
  cases hv
  subst hb
  obtain ⟨x, hx⟩ : ∃ x, l[i]? = some x := ⟨_, List.getElem?_eq_getElem hlt⟩
  have h1 := hrow.at (f := D9) (k := 4) (fun _ => rfl) hx
  rw [D9] at h1
  have hat := B2K hx
  by_cases c1 : x.st = 1
  ·have hg := C1P hx c1
   rw [if_pos c1] at hat
   obtain ⟨hgi, hg'⟩ := List.getElem?_eq_some_iff.1 hg
   have hlen : (G6 (l.take (i + 1))).length = (G6 (l.take i)).length + 1 := by rw [hat]; simp
   rw [hlen] at hL
   (have zz:=trivial;repeat((first|clear zz|with_reducible first|refine A3 ?_|refine A4 fun _=>?_|refine A5 fun _=>?_);try simp(disch:=first|omega|assumption|((repeat(first|exact A1|exact uH|apply A2|apply uT));first|done|fail)|(simp;first|done|omega|fail))[hlt, h1, c1]))
   refine A54 hJ hE stJ hy hJi (by simpa using hgi) (by rw [List.getElem_map, hg', A7B, c1]) (fun w3 h => ?_) (fun w3 h => ?_)
   ·(have zz:=trivial;repeat((first|clear zz|with_reducible first|refine A3 ?_|refine A4 fun _=>?_|refine A5 fun _=>?_);try simp(disch:=first|omega|assumption|((repeat(first|exact A1|exact uH|apply A2|apply uT));first|done|fail)|(simp;first|done|omega|fail))[]))
    exact fun w' hw' => hL hlt w' (stJ _ _ _ _ _ h (hw'.sub (by simp)))
   ·(have zz:=trivial;repeat((first|clear zz|with_reducible first|refine A3 ?_|refine A4 fun _=>?_|refine A5 fun _=>?_);try simp(disch:=first|omega|assumption|((repeat(first|exact A1|exact uH|apply A2|apply uT));first|done|fail)|(simp;first|done|omega|fail))[]))
    exact A3Y stE h
  ·rw [if_neg c1, List.append_nil] at hat
   rw [hat] at hL
   (have zz:=trivial;repeat((first|clear zz|with_reducible first|refine A3 ?_|refine A4 fun _=>?_|refine A5 fun _=>?_);try simp(disch:=first|omega|assumption|((repeat(first|exact A1|exact uH|apply A2|apply uT));first|done|fail)|(simp;first|done|omega|fail))[hlt, h1, c1]))
   exact fun w' hw' => hL hlt w' (stJ _ _ _ _ _ hJi (hw'.sub (by simp)))
 ·obtain rfl : i = l.length := by omega
  rw [List.take_length] at hJi
  (have zz:=trivial;repeat((first|clear zz|with_reducible first|refine A3 ?_|refine A4 fun _=>?_|refine A5 fun _=>?_);try simp(disch:=first|omega|assumption|((repeat(first|exact A1|exact uH|apply A2|apply uT));first|done|fail)|(simp;first|done|omega|fail))[]))
  exact A29 stJ (by simpa using hJi)
end Go.Proofs.YtpbmephflllolaaGreat
namespace Go.Proofs.YtpbmephflllolaaGreat
open Go
theorem B97 {w : World} {b : Nat} {T : TypeId} {l : List Value} (h : bl w b = some (.cells l.toArray T (0, 0))) : j2 w b 0 l.length = some l := A4E fun i hi => by
 rw [L6 h]; simp
theorem B3K (w : World) (v : Value) (l : List EnV) (f : FuncId) (cap : List Value) (o : Option (List EnV)) (ho : ∀ m, o = some m → m.length = l.length) (hn : l.length ≤ 1000000) (hv : E3 w v l.length (l.flatMap D9)) (he : B0 PR f)
  (hf : ∀ w' r, KS false [] w w' → (∀ b ∈ C7 [E6 r l], sz w ≤ b) → LW false (C7 [E6 r l]) w' [E6 r l] w' → Fn PR B3 f (r :: cap).toArray w' (Rn (C7 [E6 r l]) w' (fun (_ : Unit) u => u = .bool o.isSome) fun _ => [E6 r (o.getD l)])) :
  Fn PR B3 153 #[v, .func (.func f) #[] cap.toArray] w (Rn [] w (fun r u => u = .tuple #[if o.isSome then r else v, .bool o.isSome]) fun r => [E6 r (o.getD l)]) := by
 refine B1y (TW.go (κ := false) (S := []) ?_)
 unfold A4u
 refine G3 V9 (fun w' hw' => B4x w' v l.length (l.flatMap D9) hn (A0G l) (B5E l) (hv.ks hw'.ks (by simp))) ?_
 rintro _ r rfl
 (have zz:=trivial;repeat((first|clear zz|with_reducible first|refine A3 ?_|refine A4 fun _=>?_|refine A5 fun _=>?_);try simp(disch:=first|omega|assumption|((repeat(first|exact A1|exact uH|apply A2|apply uT));first|done|fail)|(simp;first|done|omega|fail))[]))
 refine F2 (Hc := [E6 r l]) he (fun w' hw hs => hf w' r hw.ks (fun b hb => by
  obtain ⟨s, hs1, hb1⟩ := J0.1 hb
  rcases (hw.own s (List.mem_append_left _ hs1) b hb1).1 with h | h
  ·simp at h
  ·exact h) hs) (by (repeat' constructor)) ?_
 rintro _ _ rfl
 cases o with
 | none =>
  (have zz:=trivial;repeat((first|clear zz|with_reducible first|refine A3 ?_|refine A4 fun _=>?_|refine A5 fun _=>?_);try simp(disch:=first|omega|assumption|((repeat(first|exact A1|exact uH|apply A2|apply uT));first|done|fail)|(simp;first|done|omega|fail))[]))
  exact C0 r rfl (by (repeat' constructor))
 | some m =>
  (have zz:=trivial;repeat((first|clear zz|with_reducible first|refine A3 ?_|refine A4 fun _=>?_|refine A5 fun _=>?_);try simp(disch:=first|omega|assumption|((repeat(first|exact A1|exact uH|apply A2|apply uT));first|done|fail)|(simp;first|done|omega|fail))[]))
  exact C0 r rfl (by (repeat' constructor))
theorem C33 (w : World) (v : Value) (l : List EnV) (x : EnV) (b : Nat) (hk : x.key.size < 2 ^ 60) (hn : l.length ≤ 1000000) (hx : j2 w b 0 4 = some (D9 x)) (hb : b ∉ C7 [E6 v l]) (hw : LW false (C7 [E6 v l]) w [E6 v l] w) :
  Fn PR B3 155 #[v, .pointer (some ⟨b, 0, none⟩)] w (Rn (C7 [E6 v l]) w (fun (_ : Unit) u => u = .bool (F9 l x).isSome) fun _ => [E6 v ((F9 l x).getD l)]) := by
 refine B3a (TW.goH (κ := false) (S := C7 [E6 v l]) ?_ hw)
 unfold A6W
 rw [D9] at hx
 (have zz:=trivial;repeat((first|clear zz|with_reducible first|refine A3 ?_|refine A4 fun _=>?_|refine A5 fun _=>?_);try simp(disch:=first|omega|assumption|((repeat(first|exact A1|exact uH|apply A2|apply uT));first|done|fail)|(simp;first|done|omega|fail))[hx]))
 refine F2 (Hc := [E6 v l]) A2g (fun w' hw hs => B83 w' v l x hk hn hs) (by (repeat' constructor)) ?_
 rintro _ _ rfl
 exact C0 () rfl (by (repeat' constructor))
theorem B8E (w : World) (v : Value) (l : List EnV) (key : ByteArray) (bk dl : Int) (hk : key.size < 2 ^ 60) (hn : l.length ≤ 1000000) (hv : E3 w v l.length (l.flatMap D9)) :
  Fn PR B3 106 #[v, .string key, .int .i64 bk, .int .i64 dl] w (Rn [] w (fun r u => u = .tuple #[if (F9 l ⟨1, key, bk, dl⟩).isSome then r else v, .int .i64 (if (F9 l ⟨1, key, bk, dl⟩).isSome then 0 else 12)]) fun r => [E6 r ((F9 l ⟨1, key, bk, dl⟩).getD l)]) := by
 refine B7S (TW.go (κ := false) (S := []) ?_)
 unfold B0B
 (have zz:=trivial;repeat((first|clear zz|with_reducible first|refine A3 ?_|refine A4 fun _=>?_|refine A5 fun _=>?_);try simp(disch:=first|omega|assumption|((repeat(first|exact A1|exact uH|apply A2|apply uT));first|done|fail)|(simp;first|done|omega|fail))[]))
 rename_i b
 refine G3 A3q (fun w' hw' => B3K w' v l 155 [.pointer (some ⟨b, 0, none⟩)] (F9 l ⟨1, key, bk, dl⟩) (fun m h => A8c h) hn (hv.ks hw'.ks (by simp)) B2G
  fun w2 r h hf hr => ?_) ?_
 ·have hp := hw'.pt (b := b) (by (repeat constructor))
  have hb : b < sz w' := H9 hp
  refine C33 w2 r l ⟨1, key, bk, dl⟩ b hk hn ?_ (fun hc => by have := hf b hc; omega) hr
  have hp2 := h.2.1 b _ (by simp) rfl hp
  exact B97 hp2
 ·rintro r _ rfl
  cases h : F9 l ⟨1, key, bk, dl⟩ with
  | none =>
   (have zz:=trivial;repeat((first|clear zz|with_reducible first|refine A3 ?_|refine A4 fun _=>?_|refine A5 fun _=>?_);try simp(disch:=first|omega|assumption|((repeat(first|exact A1|exact uH|apply A2|apply uT));first|done|fail)|(simp;first|done|omega|fail))[]))
   exact C0 r (by simp) (by (repeat' constructor))
  | some m =>
   (have zz:=trivial;repeat((first|clear zz|with_reducible first|refine A3 ?_|refine A4 fun _=>?_|refine A5 fun _=>?_);try simp(disch:=first|omega|assumption|((repeat(first|exact A1|exact uH|apply A2|apply uT));first|done|fail)|(simp;first|done|omega|fail))[]))
   exact C0 r (by simp) (by (repeat' constructor))
def P9 : EnV := ⟨2, Q8, 0, 0⟩
def H6 (l : List EnV) : Prop := ∀ x ∈ l, x.key.size < 2 ^ 60
def U5 (acc : List EnV) (x : EnV) : List EnV := (F9 acc x).getD acc
theorem C4j (acc : List EnV) (x : EnV) : (U5 acc x).length = acc.length := by
 unfold U5
 cases h : F9 acc x with
 | none => rfl
 | some m => exact A8c h
def W5 (l : List EnV) : List EnV := (G6 l).foldl (fun acc p => U5 acc p.2) (newE l.length)
theorem B18 (L : List (Nat × EnV)) (a : List EnV) : (L.foldl (fun acc p => U5 acc p.2) a).length = a.length := by
 induction L generalizing a with
 | nil => rfl
 | cons p L ih => rw [List.foldl_cons, ih, C4j]
theorem A43 (n : Nat) : (newE n).length = min n 64 := by simp [newE]
theorem B49 {i : Nat} {l : List EnV} : ∀ p ∈ N9 i l, p.2 ∈ l ∧ p.2.st = 1 := by
 induction l generalizing i with
 | nil => intro p hp; cases hp
 | cons x l ih =>
  intro p hp
  simp only [N9] at hp
  split at hp
  ·rcases List.mem_cons.1 hp with rfl | hp
   ·exact ⟨by simp, ‹_›⟩
   ·obtain ⟨h1, h2⟩ := ih p hp; exact ⟨by simp [h1], h2⟩
  ·obtain ⟨h1, h2⟩ := ih p hp; exact ⟨by simp [h1], h2⟩
theorem A3L {κ : Bool} {S : List Nat} {w0 : World} {H : List Res} {K0 : WP} {e : TypeId} {k : Nat} {v : Value} {q : Nat} {xs : List Value} (hm : Res.own e k v q xs ∈ H) (h : v.cells = #[v] → v.cells.size = 1 → v.cells.toList.all plain = true → TW κ S w0 H K0) : TW κ S w0 H K0 := fun w hw => by
 obtain ⟨a, c, rfl⟩ := P2.form (hw.hold _ hm); exact h rfl rfl rfl w hw
theorem S6 {κ : Bool} {S : List Nat} {w0 : World} {H : List Res} {K0 : WP} {e : TypeId} {k : Nat} {v : Value} {q : Nat} {xs : List Value} (hm : Res.own e k v q xs ∈ H) (h : ∀ a c, v = .slice a q c → TW κ S w0 H K0) : TW κ S w0 H K0 := fun w hw => by
 obtain ⟨a, c, rfl⟩ := P2.form (hw.hold _ hm); exact h a c rfl w hw
theorem B80 (w : World) (v : Value) (l : List EnV) (hks : H6 l) (hn : l.length ≤ 1000000) (hv : E3 w v l.length (l.flatMap D9)) :
  Fn PR B3 114 #[v] w (Rn [] w (fun r u => u = r) fun r => [E6 r (W5 l)]) := by
 refine B5c (TW.go (κ := false) (S := []) ?_)
 unfold A9E
 obtain ⟨a, c, rfl, _⟩ := hv.form
 (have zz:=trivial;repeat((first|clear zz|with_reducible first|refine A3 ?_|refine A4 fun _=>?_|refine A5 fun _=>?_);try simp(disch:=first|omega|assumption|((repeat(first|exact A1|exact uH|apply A2|apply uT));first|done|fail)|(simp;first|done|omega|fail))[]))
 refine G3 A8y (fun w' _ => B1P w' l.length hn) ?_
 rintro _ r rfl
 refine A3L (e := 160) (k := 4) (v := r) (q := (newE l.length).length) (xs := (newE l.length).flatMap D9) (by (repeat constructor)) fun hr1 hr2 hr3 => ?_
 (have zz:=trivial;repeat((first|clear zz|with_reducible first|refine A3 ?_|refine A4 fun _=>?_|refine A5 fun _=>?_);try simp(disch:=first|omega|assumption|((repeat(first|exact A1|exact uH|apply A2|apply uT));first|done|fail)|(simp;first|done|omega|fail))[hr1]))
 rename_i bt
 refine G3 A2Z (fun w' _ => B8z w' (.slice a l.length c) ⟨_, _, _, rfl⟩) ?_
 rintro b _ rfl
 refine A2a (B9F b (.slice a l.length c) l hn) (A8G _) (fun i (acc : List EnV) => acc = ((G6 l).take i).foldl (fun acc p => U5 acc p.2) (newE l.length)) (fun _ acc => [.pt bt (.cells #[r] 176), E6 r acc])
  (fun c (y : Unit) => False) (fun y => []) (newE l.length) (by simp) ?_ ?_ ?_ ?_ (by simp)
 ·intro i _ F w1 _ hw
  exact RqS.of hv (fun h => by rw [A0G]; omega) hw
 ·rintro i hi acc F hψ K' hK _
  have hi' : i < (G6 l).length := by simpa using hi
  have hm : (G6 l)[i] ∈ G6 l := List.getElem_mem hi'
  have hst : ((G6 l).take (i + 1)).foldl (fun acc p => U5 acc p.2) (newE l.length) = U5 acc (G6 l)[i].2 := by
   rw [List.take_add_one, List.getElem?_eq_getElem hi', Option.toList_some, List.foldl_append, ← hψ]; rfl
  have hlen : acc.length ≤ 64 := by rw [hψ, B18, A43]; omega
  simp only [List.getElem_map]
  generalize (G6 l)[i] = p at *
  have hkp := hks p.2 (B49 p hm).1
  simp only [A7B, VF.app]
  (have zz:=trivial;repeat((first|clear zz|with_reducible first|refine A3 ?_|refine A4 fun _=>?_|refine A5 fun _=>?_);try simp(disch:=first|omega|assumption|((repeat(first|exact A1|exact uH|apply A2|apply uT));first|done|fail)|(simp;first|done|omega|fail))[]))
  refine F2 (Hc := [E6 r acc]) A2g (fun w' hw hs => B83 w' r acc p.2 hkp (by omega) hs) (by (repeat' constructor)) ?_
  rintro _ _ rfl
  refine TW.sub (TW.perm (hK (U5 acc p.2) hst.symm) ?_) (H' := E6 r (U5 acc p.2) :: .pt bt (.cells #[r] 176) :: F) ?_
  ·exact List.Perm.swap ..
  ·simp only [U5]; ((try simp only [List.cons_append, List.nil_append, List.append_assoc]); (repeat (first | exact List.Sublist.refl _ | exact List.nil_sublist _ | with_reducible apply List.Sublist.cons_cons | apply List.Sublist.cons)); first | done | fail)
 ·intro acc hψ
  simp only [List.length_map, List.take_length] at hψ
  subst hψ
  (have zz:=trivial;repeat((first|clear zz|with_reducible first|refine A3 ?_|refine A4 fun _=>?_|refine A5 fun _=>?_);try simp(disch:=first|omega|assumption|((repeat(first|exact A1|exact uH|apply A2|apply uT));first|done|fail)|(simp;first|done|omega|fail))[]))
  exact C0 r rfl (by simp only [W5]; (repeat' constructor))
 ·rintro _ _ h; exact h.elim
def T7 (l : List EnV) (key : ByteArray) : Option (List EnV) := if D7 l key < 0 then none else some (l.set (D7 l key).toNat P9)
theorem B64 {l m : List EnV} {key : ByteArray} (h : T7 l key = some m) : m.length = l.length := by
 unfold T7 at h
 by_cases c : D7 l key < 0
 ·rw [if_pos c] at h; cases h
 ·rw [if_neg c] at h; injection h with h; rw [← h]; simp
def H4 (u : List EnV) : List EnV := if u.length < 2 * F3 u 2 then W5 u else u
def r5 (l : List EnV) (key : ByteArray) : List EnV := match T7 l key with | some u => H4 u | none => l
theorem B71 (w : World) (v : Value) (l : List EnV) (key : ByteArray) (b : Nat) (hk : key.size < 2 ^ 60) (hn : l.length ≤ 1000000) (hx : w.cell? ⟨b, 0, none⟩ = some (.string key)) (hb : b ∉ C7 [E6 v l]) (hw : LW false (C7 [E6 v l]) w [E6 v l] w) :
  Fn PR B3 154 #[v, .pointer (some ⟨b, 0, none⟩)] w (Rn (C7 [E6 v l]) w (fun (_ : Unit) u => u = .bool (T7 l key).isSome) fun _ => [E6 v ((T7 l key).getD l)]) := by
 refine A9p (TW.goH (κ := false) (S := C7 [E6 v l]) ?_ hw)
 unfold A3G
 (have zz:=trivial;repeat((first|clear zz|with_reducible first|refine A3 ?_|refine A4 fun _=>?_|refine A5 fun _=>?_);try simp(disch:=first|omega|assumption|((repeat(first|exact A1|exact uH|apply A2|apply uT));first|done|fail)|(simp;first|done|omega|fail))[hx]))
 refine B8 A0J (fun w' hw' => A16 w' v l key hk hn (K3.own (by (repeat constructor)) w' hw')) ?_
 by_cases c1 : D7 l key < 0
 ·have hd : T7 l key = none := if_pos c1
  (have zz:=trivial;repeat((first|clear zz|with_reducible first|refine A3 ?_|refine A4 fun _=>?_|refine A5 fun _=>?_);try simp(disch:=first|omega|assumption|((repeat(first|exact A1|exact uH|apply A2|apply uT));first|done|fail)|(simp;first|done|omega|fail))[c1]))
  exact C0 () (by simp [hd]) (by simp only [hd, Option.getD_none]; (repeat' constructor))
 ·have hd : T7 l key = some (l.set (D7 l key).toNat P9) := if_neg c1
  have hlt := y6 (l := l) (key := key) (by omega)
  have h0 : 0 ≤ D7 l key := by omega
  obtain ⟨i, hi⟩ : ∃ i : Nat, D7 l key = i := ⟨(D7 l key).toNat, by omega⟩
  rw [hi] at hd hlt c1 ⊢
  rw [Int.toNat_natCast] at hd hlt
  refine A2E (e := 160) (k := 4) (v := v) (q := l.length) (xs := l.flatMap D9) (by (repeat constructor)) (by omega) ?_
  rintro g c rfl
  (have zz:=trivial;repeat((first|clear zz|with_reducible first|refine A3 ?_|refine A4 fun _=>?_|refine A5 fun _=>?_);try simp(disch:=first|omega|assumption|((repeat(first|exact A1|exact uH|apply A2|apply uT));first|done|fail)|(simp;first|done|omega|fail))[c1, hlt]))
  refine A4l (by (repeat constructor)) (by simp) (by rw [A0G]; omega) (by simp) ?_
  refine C0 () (by simp [hd]) ?_
  have := B0C (f := D9) (k := 4) (fun _ => rfl) l i P9 hlt
  simp only [hd, Option.getD_some, E6, List.length_set, ← this]
  (repeat' constructor)
theorem B35 (w : World) (v : Value) (l : List EnV) (key : ByteArray) (hk : key.size < 2 ^ 60) (hks : H6 l) (hn : l.length ≤ 1000000) (hv : E3 w v l.length (l.flatMap D9)) :
  Fn PR B3 105 #[v, .string key] w (Rn [] w (fun r u => u = .tuple #[if (T7 l key).isSome then r else v, .bool (T7 l key).isSome]) fun r => [E6 r (r5 l key)]) := by
 refine B2Z (TW.go (κ := false) (S := []) ?_)
 unfold A53
 (have zz:=trivial;repeat((first|clear zz|with_reducible first|refine A3 ?_|refine A4 fun _=>?_|refine A5 fun _=>?_);try simp(disch:=first|omega|assumption|((repeat(first|exact A1|exact uH|apply A2|apply uT));first|done|fail)|(simp;first|done|omega|fail))[]))
 rename_i b
 refine G3 A3q (fun w' hw' => B3K w' v l 154 [.pointer (some ⟨b, 0, none⟩)] (T7 l key) (fun m h => B64 h) hn (hv.ks hw'.ks (by simp)) A9P
  fun w2 r h hf hr => ?_) ?_
 ·have hp := hw'.pt (b := b) (by (repeat constructor))
  have hb : b < sz w' := H9 hp
  exact B71 w2 r l key b hk hn (h.cell (by simp) (hw'.cell1 (by (repeat constructor)))) (fun hc => by have := hf b hc; omega) hr
 ·rintro r _ rfl
  cases h : T7 l key with
  | none =>
   have e : r5 l key = l := by simp [r5, h]
   (have zz:=trivial;repeat((first|clear zz|with_reducible first|refine A3 ?_|refine A4 fun _=>?_|refine A5 fun _=>?_);try simp(disch:=first|omega|assumption|((repeat(first|exact A1|exact uH|apply A2|apply uT));first|done|fail)|(simp;first|done|omega|fail))[]))
   exact C0 r (by simp) (by rw [e]; (repeat' constructor))
  | some m =>
   have e : r5 l key = H4 m := by simp [r5, h]
   have hml := B64 h
   have hmk : H6 m := by
    unfold T7 at h
    by_cases c : D7 l key < 0
    ·rw [if_pos c] at h; cases h
    ·rw [if_neg c] at h; injection h with h; rw [← h]
     intro x hx
     rcases List.mem_or_eq_of_mem_set hx with hx | rfl
     ·exact hks x hx
     ·simp [P9]
   simp only [Option.isSome_some, if_true, Option.getD_some]
   refine S6 (e := 160) (k := 4) (v := r) (q := m.length) (xs := m.flatMap D9) (by (repeat constructor)) ?_
   rintro ra rc rfl
   (have zz:=trivial;repeat((first|clear zz|with_reducible first|refine A3 ?_|refine A4 fun _=>?_|refine A5 fun _=>?_);try simp(disch:=first|omega|assumption|((repeat(first|exact A1|exact uH|apply A2|apply uT));first|done|fail)|(simp;first|done|omega|fail))[]))
   refine B8 A6E (fun w' hw' => B7g w' _ m 2 (by omega) (K3.own (by (repeat constructor)) w' hw')) ?_
   have hcl : F3 m 2 ≤ m.length := List.countP_le_length
   by_cases c1 : m.length < 2 * F3 m 2
   ·have c1' : (m.length : Int) < 2 * (F3 m 2 : Nat) := by omega
    have e2 : r5 l key = W5 m := by rw [e, H4, if_pos c1]
    (have zz:=trivial;repeat((first|clear zz|with_reducible first|refine A3 ?_|refine A4 fun _=>?_|refine A5 fun _=>?_);try simp(disch:=first|omega|assumption|((repeat(first|exact A1|exact uH|apply A2|apply uT));first|done|fail)|(simp;first|done|omega|fail))[c1']))
    refine G3 A7e (fun w' hw' => B80 w' _ m hmk (by omega) (K3.own (by (repeat constructor)) w' hw')) ?_
    rintro _ r rfl
    exact C0 r rfl (by rw [e2]; (repeat' constructor))
   ·have c1' : ¬ (m.length : Int) < 2 * (F3 m 2 : Nat) := by omega
    have e2 : r5 l key = m := by rw [e, H4, if_neg c1]
    (have zz:=trivial;repeat((first|clear zz|with_reducible first|refine A3 ?_|refine A4 fun _=>?_|refine A5 fun _=>?_);try simp(disch:=first|omega|assumption|((repeat(first|exact A1|exact uH|apply A2|apply uT));first|done|fail)|(simp;first|done|omega|fail))[c1']))
    exact C0 (.slice ra m.length rc) rfl (by rw [e2]; (repeat' constructor))
def W8 (l : List EnV) : List ByteArray := (G6 l).map (·.2.key)
theorem C6c (w : World) (v : Value) (l : List EnV) (hn : l.length ≤ 1000000) (hv : E3 w v l.length (l.flatMap D9)) :
  Fn PR B3 47 #[v] w (Rn [] w (fun r u => u = r) fun r => [.own 9 1 r (W8 l).length ((W8 l).map Value.string)]) := by
 refine B5q (TW.go (κ := false) (S := []) ?_)
 unfold A9B
 obtain ⟨a, c, rfl, _⟩ := hv.form
 (have zz:=trivial;repeat((first|clear zz|with_reducible first|refine A3 ?_|refine A4 fun _=>?_|refine A5 fun _=>?_);try simp(disch:=first|omega|assumption|((repeat(first|exact A1|exact uH|apply A2|apply uT));first|done|fail)|(simp;first|done|omega|fail))[]))
 rename_i bt
 refine G3 A2Z (fun w' _ => B8z w' (.slice a l.length c) ⟨_, _, _, rfl⟩) ?_
 rintro b _ rfl
 refine Z9 9 1 ?_
 have hll : (G6 l).length ≤ l.length := by
  have : ∀ (m : List EnV) (i : Nat), (N9 i m).length ≤ m.length := by
   intro m
   induction m with
   | nil => intro i; simp [N9]
   | cons x m ih => intro i; have := ih (i + 1); simp only [N9]; split <;> simp <;> omega
  exact this l 0
 refine TW.eqH (H' := [.own 9 1 (.slice none 0 0) 0 [], .pt b (.cells #[.slice a l.length c] 176), .pt bt (.cells #[.slice none 0 0] 48)]) (by simp) ?_
 refine TW.perm ?_ (H' := [.pt b (.cells #[.slice a l.length c] 176), .own 9 1 (.slice none 0 0) 0 [], .pt bt (.cells #[.slice none 0 0] 48)]) (List.Perm.swap ..)
 refine A2a (B9F b (.slice a l.length c) l hn) (A8G _) (fun i (x : Option Addr × Nat) => True) (fun i x => [.own 9 1 (.slice x.1 i x.2) i (((G6 l).map fun p => Value.string p.2.key).take i), .pt bt (.cells #[.slice x.1 i x.2] 48)])
  (fun c (y : Unit) => False) (fun y => []) (none, 0) trivial ?_ ?_ ?_ ?_ (by simp)
 ·intro i _ F w1 _ hw
  exact RqS.of hv (fun h => by rw [A0G]; omega) hw
 ·rintro i hi ⟨xa, xc⟩ F _ K' hK _
  have hi' : i < (G6 l).length := by simpa using hi
  have hst : ((G6 l).map fun p => Value.string p.2.key).take (i + 1) = ((G6 l).map fun p => Value.string p.2.key).take i ++ [Value.string (G6 l)[i].2.key] := by
   rw [List.take_add_one, List.getElem?_map, List.getElem?_eq_getElem hi']; rfl
  simp only [hst] at hK
  simp only [List.getElem_map]
  generalize (G6 l)[i] = p at *
  simp only [A7B, VF.app]
  (have zz:=trivial;repeat((first|clear zz|with_reducible first|refine A3 ?_|refine A4 fun _=>?_|refine A5 fun _=>?_|refine D1 fun _=>?_|refine D0 (hK:=fun _=>?_)|refine D3 (hK:=fun _=>?_)|refine D2 (hK:=fun _=>?_)|refine D4 (hK:=fun _=>?_)|refine C9 (hK:=fun _=>?_));try simp(disch:=first|omega|assumption|((repeat(first|exact A1|exact uH|apply A2|apply uT));first|done|fail)|(simp;first|done|omega|fail))[]))
  refine Y5 (e := 9) (k := 1) (q := i) (r := 1) (xs := ((G6 l).map fun p => Value.string p.2.key).take i) (news := [Value.string p.2.key]) (by (repeat constructor)) (K3.own (by (repeat constructor))) (by decide) (by simp) (by simp) (by simp only [maxLen]; omega) (by omega) fun a' c' => ?_
  (have zz:=trivial;repeat((first|clear zz|with_reducible first|refine A3 ?_|refine A4 fun _=>?_|refine A5 fun _=>?_);try simp(disch:=first|omega|assumption|((repeat(first|exact A1|exact uH|apply A2|apply uT));first|done|fail)|(simp;first|done|omega|fail))[]))
  refine TW.sub (TW.perm (hK (a', c') trivial) ?_) (H' := .own 9 1 (.slice a' (i + 1) c') (i + 1) (((G6 l).map fun p => Value.string p.2.key).take i ++ [Value.string p.2.key]) :: .pt bt (.cells #[.slice a' (i + 1) c'] 48) :: F) ?_
  ·exact List.Perm.refl _
  ·((try simp only [List.cons_append, List.nil_append, List.append_assoc]); (repeat (first | exact List.Sublist.refl _ | exact List.nil_sublist _ | with_reducible apply List.Sublist.cons_cons | apply List.Sublist.cons)); first | done | fail)
 ·rintro ⟨xa, xc⟩ _
  (have zz:=trivial;repeat((first|clear zz|with_reducible first|refine A3 ?_|refine A4 fun _=>?_|refine A5 fun _=>?_);try simp(disch:=first|omega|assumption|((repeat(first|exact A1|exact uH|apply A2|apply uT));first|done|fail)|(simp;first|done|omega|fail))[]))
  refine C0 (.slice xa (G6 l).length xc) rfl ?_
  rw [List.take_of_length_le (by simp)]
  simp only [W8, List.length_map, List.map_map]
  exact Sels.cons Sel.here Sels.nil
 ·rintro _ _ h; exact h.elim
def V2 (l : List EnV) : Bool := (G6 l).all fun p => decide (D7 l p.2.key = p.1)
end Go.Proofs.YtpbmephflllolaaGreat
namespace Go.Proofs.YtpbmephflllolaaGreat
open Go
def A9w (X : Nat → Prop) (t0 : Value) (R : Value → WP) : WP :=
 jn (n := 2) (fun t3 t10 =>
 R t3) fun J1 =>
 B1 PR X 108 [t0] fun t7 =>
 B1 PR X 107 [t7, (.func (.func 109) #[] #[])] fun t8 =>
 A0 PR (A7 .len #[208] 0 [t8]) fun t9 =>
 lp (n := 2) (fun L2 t3_1 t10_1 =>
 A0 PR (binOp .lss 3 t10_1 t9) fun t11 =>
 jn (n := 0) (
 jn (n := 1) (fun t3_2 =>
 A0 PR (binOp .add 3 t10_1 (.int .i64 1)) fun t18 =>
 L2 t3_2 t18) fun J3 =>
 A0 PR (Instr.indexAt 208 t8 t10_1) fun t12 =>
 A6 PR (Instr.loadAt 211 t12) fun t13 =>
 B2 PR X (Instr.alloc 211 true (.tuple #[])) fun t5 =>
 B6 PR X (Instr.storeAt 211 t5 t13) <|
 A6 PR (Instr.loadAt 211 t5) fun t15 =>
 B2 PR X (Instr.buildSlice 90 1 #[(0, t15)]) fun t16 =>
 B2 PR X (A7 .append #[90, 90] 90 [t3_1, t16]) fun t17 =>
 J3 t17) fun J4 =>
 B5 t11 (
 J4) (
 J1 t3_1 t10_1)) (.slice none 0 0) (.int .i64 0)
theorem B5k : B0 PR 59 := A8 Tryz.func59 (by kernel_rfl) rfl
theorem B6m {X : Nat → Prop} {t0 : Value} {R : Value → WP} {w : World} (h : A9w X t0 R w) : Fn PR X 59 #[t0] w R := C6 (args := [t0]) mixed Tryz.func59 (by kernel_rfl) h
def A7Z (X : Nat → Prop) (t0 : Value) (R : Value → WP) : WP :=
 B2 PR X (Instr.box 32 t0) fun t1 =>
 A0 PR (Instr.makeFunc (.func 159) #[] #[t1]) fun t3 =>
 R t3
theorem B3S : B0 PR 108 := A8 Tryz.func108 (by kernel_rfl) rfl
theorem B3l {X : Nat → Prop} {t0 : Value} {R : Value → WP} {w : World} (h : A7Z X t0 R w) : Fn PR X 108 #[t0] w R := C6 (args := [t0]) mixed Tryz.func108 (by kernel_rfl) h
def A1s (X : Nat → Prop) (t0 t1 : Value) (R : Value → WP) : WP :=
 B2 PR X (Instr.box 211 t0) fun t2 =>
 B2 PR X (Instr.box 211 t1) fun t3 =>
 drw <|
 A0 PR (Instr.fieldAt 211 t2 0) fun t5 =>
 A6 PR (Instr.loadAt 129 t5) fun t6 =>
 A0 PR (Instr.fieldAt 211 t3 0) fun t7 =>
 A6 PR (Instr.loadAt 129 t7) fun t8 =>
 A0 PR (Instr.fieldAt 211 t2 1) fun t10 =>
 A6 PR (Instr.loadAt 3 t10) fun t11 =>
 A0 PR (Instr.fieldAt 211 t3 1) fun t12 =>
 A6 PR (Instr.loadAt 3 t12) fun t13 =>
 B1 PR X 162 [t6, t8] fun t9 =>
 watch PR [(none, (Instr.loadAt 3 t12), t13), (none, (Instr.loadAt 3 t10), t11)] <|
 B1 PR X 69 [t11, t13] fun t14 =>
 B2 PR X (Instr.buildSlice 34 2 #[(0, t9), (1, t14)]) fun t15 =>
 B1 PR X 161 [t15] fun t16 =>
 R t16
theorem A7A : B0 PR 109 := A8 Tryz.func109 (by kernel_rfl) rfl
theorem A7Q {X : Nat → Prop} {t0 t1 : Value} {R : Value → WP} {w : World} (h : A1s X t0 t1 R w) : Fn PR X 109 #[t0, t1] w R := C6 (args := [t0, t1]) mixed Tryz.func109 (by kernel_rfl) h
def A3s (X : Nat → Prop) (t0 t1 : Value) (R : Value → WP) : WP :=
 A6 PR (Instr.loadAt 32 t1) fun t6 =>
 A0 PR (A7 .len #[32] 0 [t6]) fun t7 =>
 lp (n := 1) (fun L1 t8 =>
 A0 PR (binOp .lss 3 t8 t7) fun t9 =>
 jn (n := 0) (
 jn (n := 1) (fun t17 =>
 A0 PR (binOp .add 3 t8 (.int .i64 1)) fun t31 =>
 L1 t31) fun J2 =>
 A0 PR (Instr.indexAt 32 t6 t8) fun t10 =>
 A6 PR (Instr.loadAt 75 t10) fun t11 =>
 B2 PR X (Instr.alloc 75 true (.tuple #[])) fun t4 =>
 B6 PR X (Instr.storeAt 75 t4 t11) <|
 A0 PR (Instr.fieldAt 75 t4 1) fun t12 =>
 A6 PR (Instr.loadAt 3 t12) fun t13 =>
 A0 PR (A7 .min #[3, 3] 0 [t13, (.int .i64 16)]) fun t14 =>
 A0 PR (A7 .max #[3, 3] 0 [(.int .i64 0), t14]) fun t15 =>
 A0 PR (binOp .mul 3 (.int .i64 8) t15) fun t16 =>
 lp (n := 1) (fun L3 t17_1 =>
 A0 PR (binOp .lss 3 t17_1 t16) fun t18 =>
 jn (n := 0) (
 jn (n := 0) (
 A0 PR (binOp .add 3 t17_1 (.int .i64 1)) fun t30 =>
 L3 t30) fun J4 =>
 drw <|
 A0 PR (Instr.fieldAt 75 t4 0) fun t21 =>
 A6 PR (Instr.loadAt 3 t21) fun t22 =>
 A0 PR (Instr.fieldAt 75 t4 0) fun t25 =>
 A6 PR (Instr.loadAt 3 t25) fun t26 =>
 B1 PR X 160 [t22, t17_1] fun t24 =>
 watch PR [(none, (Instr.loadAt 3 t25), t26)] <|
 A0 PR (Instr.build 211 #[(0, t24), (1, t26)]) fun t27 =>
 M4 PR X t0 [t27] fun t28 =>
 A0 PR (Op.unary .not t28) fun t29 =>
 B5 t29 (
 R (.tuple #[])) (
 J4)) fun J5 =>
 B5 t18 (
 J5) (
 J2 t17_1)) (.int .i64 0)) fun J6 =>
 B5 t9 (
 J6) (
 R (.tuple #[]))) (.int .i64 0)
theorem A9U : B0 PR 159 := A8 Tryz.func159 (by kernel_rfl) rfl
theorem B05 {X : Nat → Prop} {t0 t1 : Value} {R : Value → WP} {w : World} (h : A3s X t0 t1 R w) : Fn PR X 159 #[t0, t1] w R := C6 (args := [t0, t1]) mixed Tryz.func159 (by kernel_rfl) h
theorem B1C {X : Nat → Prop} {t0 t1 : Value} {K : Value → WP} {w : World} (h : Fn PR X 159 #[t0, t1] w K) : A1f PR X 159 [t0, t1] K w := ⟨A9U, h⟩
def A7b (X : Nat → Prop) (t0 t1 : Value) (R : Value → WP) : WP :=
 A0 PR (convert 3 129 t0) fun t6 =>
 B1 PR X 55 [t6, (.int .i64 4)] fun t7 =>
 B1 PR X 102 [t7] fun t8 =>
 A0 PR (convert 3 129 t1) fun t10 =>
 B1 PR X 55 [t10, (.int .i64 2)] fun t11 =>
 B1 PR X 55 [(.int .u64 0), (.int .i64 4)] fun t12 =>
 A0 PR (binOp .add 9 t11 t12) fun t13 =>
 B1 PR X 149 [t8, t13] fun t14 =>
 R t14
theorem B2l : B0 PR 160 := A8 Tryz.func160 (by kernel_rfl) rfl
theorem B4Y {X : Nat → Prop} {t0 t1 : Value} {R : Value → WP} {w : World} (h : A7b X t0 t1 R w) : Fn PR X 160 #[t0, t1] w R := C6 (args := [t0, t1]) mixed Tryz.func160 (by kernel_rfl) h
end Go.Proofs.YtpbmephflllolaaGreat
namespace Go.Proofs.YtpbmephflllolaaGreat
open Go
def A38 (id : Int) (n : Nat) : Nat := A8N (P8 (E4 (IntKind.u64.wrap id) 4)) (E4 n 2 ++ E4 0 4)
theorem C52 (w : World) (id : Int) (n : Nat) (hn : n < 2 ^ 62) : Fn PR B3 160 #[.int .i64 id, .int .i64 (n : Int)] w (fun v w' => v = .int .u64 (A38 id n : Nat) ∧ C1 [] w w') := by
 refine Fn.pure (B4Y (TW.go (κ := false) (S := []) ?_))
 unfold A7b
 (have zz:=trivial;repeat((first|clear zz|with_reducible first|refine A3 ?_|refine A4 fun _=>?_|refine A5 fun _=>?_);try simp(disch:=first|omega|assumption|((repeat(first|exact A1|exact uH|apply A2|apply uT));first|done|fail)|(simp;first|done|omega|fail))[]))
 refine B8 G8 (fun w' hw' => d9 w' _ _) ?_
 (have zz:=trivial;repeat((first|clear zz|with_reducible first|refine A3 ?_|refine A4 fun _=>?_|refine A5 fun _=>?_);try simp(disch:=first|omega|assumption|((repeat(first|exact A1|exact uH|apply A2|apply uT));first|done|fail)|(simp;first|done|omega|fail))[]))
 refine B8 A22 (fun w' _ => A5w w' _ (by simp)) ?_
 (have zz:=trivial;repeat((first|clear zz|with_reducible first|refine A3 ?_|refine A4 fun _=>?_|refine A5 fun _=>?_);try simp(disch:=first|omega|assumption|((repeat(first|exact A1|exact uH|apply A2|apply uT));first|done|fail)|(simp;first|done|omega|fail))[]))
 refine B8 G8 (fun w' hw' => d9 w' _ _) ?_
 (have zz:=trivial;repeat((first|clear zz|with_reducible first|refine A3 ?_|refine A4 fun _=>?_|refine A5 fun _=>?_);try simp(disch:=first|omega|assumption|((repeat(first|exact A1|exact uH|apply A2|apply uT));first|done|fail)|(simp;first|done|omega|fail))[]))
 refine B8 G8 (fun w' hw' => d9 w' _ _) ?_
 (have zz:=trivial;repeat((first|clear zz|with_reducible first|refine A3 ?_|refine A4 fun _=>?_|refine A5 fun _=>?_);try simp(disch:=first|omega|assumption|((repeat(first|exact A1|exact uH|apply A2|apply uT));first|done|fail)|(simp;first|done|omega|fail))[P0]))
 refine B8 A9W (fun w' _ => B82 w' _ _ (A7z _) (by simp)) ?_
 exact A9 rfl
def q6 (b : G0) : Nat := 8 * (max 0 (min b.2 16)).toNat
def u7 (b : G0) : List (Nat × Int) := (List.range (q6 b)).map fun n => (A38 b.1 n, b.1)
def F1 (p : List G0) : List (Nat × Int) := p.flatMap u7
def E2 (x : Nat × Int) : List Value := [.int .u64 (x.1 : Nat), .int .i64 x.2]
def ptA (x : Nat × Int) : List Value := [.agg #[.int .u64 (x.1 : Nat), .int .i64 x.2]]
abbrev B2b (b : Nat) : Value := .func (.func 159) #[] #[.pointer (some ⟨b, 0, none⟩)]
theorem C44 (w : World) (v : Value) (hv : ∃ a n c, v = .slice a n c) : Fn PR B3 108 #[v] w (Rn [] w (fun b u => u = B2b b) fun b => [.pt b (.cells #[v] 32)]) := by
 obtain ⟨a, n, c, rfl⟩ := hv
 refine B3l (TW.go (κ := false) (S := []) ?_)
 unfold A7Z
 (have zz:=trivial;repeat((first|clear zz|with_reducible first|refine A3 ?_|refine A4 fun _=>?_|refine A5 fun _=>?_);try simp(disch:=first|omega|assumption|((repeat(first|exact A1|exact uH|apply A2|apply uT));first|done|fail)|(simp;first|done|omega|fail))[]))
 rename_i b
 exact k7 b rfl (by simp)
theorem B9A {p : List G0} {i : Nat} {x : G0} (hx : p[i]? = some x) : F1 (p.take (i + 1)) = F1 (p.take i) ++ u7 x := by
 rw [List.take_add_one, hx]; simp [F1]
theorem C3W {p : List G0} {i n : Nat} {x : G0} (hx : p[i]? = some x) (hn : n < q6 x) : (F1 p)[(F1 (p.take i)).length + n]? = some (A38 x.1 n, x.1) := by
 have e : p = p.take (i + 1) ++ p.drop (i + 1) := (List.take_append_drop _ _).symm
 conv => lhs; arg 1; rw [e]
 have h2 : F1 (p.take (i + 1) ++ p.drop (i + 1)) = F1 (p.take (i + 1)) ++ F1 (p.drop (i + 1)) := by simp only [F1, List.flatMap_append]
 rw [h2, B9A hx, List.append_assoc, List.getElem?_append_right (by omega), Nat.add_sub_cancel_left, List.getElem?_append_left (by simp [u7, hn])]
 simp [u7, hn]
theorem C4G (b : Nat) (v : Value) (p : List G0) (hn : p.length ≤ 1000000) : A36 (B2b b) [.pt b (.cells #[v] 32)] (RqS v p.length (p.flatMap E7)) ((F1 p).map ptA) := by
 refine ⟨_, _, _, rfl, fun y J E hJ hE stJ stE hy w0 h0 => ?_⟩
 obtain ⟨a, c, hv, hr⟩ := (hJ _ _ _ h0).2
 subst hv
 refine B1C (B05 (TW.at (κ := true) ?_ (hJ _ _ _ h0).1))
 unfold A3s
 (have zz:=trivial;repeat((first|clear zz|with_reducible first|refine A3 ?_|refine A4 fun _=>?_|refine A5 fun _=>?_);try simp(disch:=first|omega|assumption|((repeat(first|exact A1|exact uH|apply A2|apply uT));first|done|fail)|(simp;first|done|omega|fail))[]))
 refine A42 p.length (fun i => (F1 (p.take i)).length) (fun _ => _) hJ stJ (by simpa [F1] using h0) fun i a' hi hJi hRi L hL => ?_
 by_cases hlt : i < p.length
 ·obtain ⟨_, _, hv, hr⟩ := hRi
  obtain ⟨b', o, hb, hrow, hnb⟩ := hr (by omega)
  cases hv
  subst hb
  obtain ⟨x, hx⟩ : ∃ x, p[i]? = some x := ⟨_, List.getElem?_eq_getElem hlt⟩
  have h1 := hrow.at (f := E7) (k := 2) (fun _ => rfl) hx
  rw [E7] at h1
  have hlen : (F1 (p.take (i + 1))).length = (F1 (p.take i)).length + q6 x := by rw [B9A hx]; simp [u7]
  rw [hlen] at hL
  have hw : 8 * max 0 (min x.2 16) = (q6 x : Nat) := by unfold q6; omega
  have hwl : q6 x ≤ 128 := by unfold q6; omega
  (have zz:=trivial;repeat((first|clear zz|with_reducible first|refine A3 ?_|refine A4 fun _=>?_|refine A5 fun _=>?_);try simp(disch:=first|omega|assumption|((repeat(first|exact A1|exact uH|apply A2|apply uT));first|done|fail)|(simp;first|done|omega|fail))[hlt, h1]))
  rename_i b4
  rw [hw]
  refine A42 (q6 x) (fun n => (F1 (p.take i)).length + n) (fun _ => _) hJ stJ hJi fun n a2 hi2 hJn hRn L2 hL2 => ?_
  by_cases hlt2 : n < q6 x
  ·have hg := C3W hx hlt2
   obtain ⟨hgi, hg'⟩ := List.getElem?_eq_some_iff.1 hg
   (have zz:=trivial;repeat((first|clear zz|with_reducible first|refine A3 ?_|refine A4 fun _=>?_|refine A5 fun _=>?_);try simp(disch:=first|omega|assumption|((repeat(first|exact A1|exact uH|apply A2|apply uT));first|done|fail)|(simp;first|done|omega|fail))[hlt2]))
   refine B8 B2l (fun w' _ => C52 w' x.1 n (by omega)) ?_
   (have zz:=trivial;repeat((first|clear zz|with_reducible first|refine A3 ?_|refine A4 fun _=>?_|refine A5 fun _=>?_);try simp(disch:=first|omega|assumption|((repeat(first|exact A1|exact uH|apply A2|apply uT));first|done|fail)|(simp;first|done|omega|fail))[]))
   refine A54 hJ hE stJ hy hJn (by simpa using hgi) (by rw [List.getElem_map, hg', ptA]) (fun w3 h => ?_) (fun w3 h => ?_)
   ·(have zz:=trivial;repeat((first|clear zz|with_reducible first|refine A3 ?_|refine A4 fun _=>?_|refine A5 fun _=>?_);try simp(disch:=first|omega|assumption|((repeat(first|exact A1|exact uH|apply A2|apply uT));first|done|fail)|(simp;first|done|omega|fail))[]))
    exact fun w' hw' => hL2 hlt2 w' (stJ _ _ _ _ _ h hw')
   ·(have zz:=trivial;repeat((first|clear zz|with_reducible first|refine A3 ?_|refine A4 fun _=>?_|refine A5 fun _=>?_);try simp(disch:=first|omega|assumption|((repeat(first|exact A1|exact uH|apply A2|apply uT));first|done|fail)|(simp;first|done|omega|fail))[]))
    exact A3Y stE h
  ·obtain rfl : n = q6 x := by omega
   (have zz:=trivial;repeat((first|clear zz|with_reducible first|refine A3 ?_|refine A4 fun _=>?_|refine A5 fun _=>?_);try simp(disch:=first|omega|assumption|((repeat(first|exact A1|exact uH|apply A2|apply uT));first|done|fail)|(simp;first|done|omega|fail))[]))
   exact fun w' hw' => hL hlt w' (stJ _ _ _ _ _ hJn (hw'.sub (by simp)))
 ·obtain rfl : i = p.length := by omega
  rw [List.take_length] at hJi
  (have zz:=trivial;repeat((first|clear zz|with_reducible first|refine A3 ?_|refine A4 fun _=>?_|refine A5 fun _=>?_);try simp(disch:=first|omega|assumption|((repeat(first|exact A1|exact uH|apply A2|apply uT));first|done|fail)|(simp;first|done|omega|fail))[]))
  exact A29 stJ (by simpa using hJi)
end Go.Proofs.YtpbmephflllolaaGreat
