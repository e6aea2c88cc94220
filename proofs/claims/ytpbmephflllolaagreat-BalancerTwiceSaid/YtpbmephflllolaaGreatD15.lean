/- The proof of a given statement, a part of it (ShFlows Flows Flows2 ShPoints Points). No condition but what each lemma says. -/
import Derived.Test.YtpbmephflllolaaGreatD14
set_option linter.unusedVariables false
set_option linter.unusedSimpArgs false
namespace Go.Proofs.YtpbmephflllolaaGreat
open Go
def A6j (X : Nat → Prop) (t0 : Value) (R : Value → WP) : WP :=
 A0 PR (A8 .min #[3, 3] 0 [t0, (.int .i64 64)]) fun t4 =>
 A0 PR (A8 .max #[3, 3] 0 [(.int .i64 0), t4]) fun t5 =>
 B1 PR X (Instr.makeSlice 94 t5 t5) fun t6 =>
 R t6
theorem A5c : A9 PR 37 := A7 Tryz.func37 (by kernel_rfl) rfl
theorem B2x {X : Nat → Prop} {t0 : Value} {R : Value → WP} {w : World} (h : A6j X t0 R w) : Fn PR X 37 #[t0] w R := C5 (args := [t0]) mixed Tryz.func37 (by kernel_rfl) h
def A5T (X : Nat → Prop) (t0 : Value) (R : Value → WP) : WP :=
 B1 PR X (Instr.alloc 48 true (.tuple #[])) fun t3 =>
 jn (n := 0) (
 A6 PR (Instr.loadAt 48 t3) fun t15 =>
 T6 (R t15)) fun J1 =>
 B2 PR X 90 [t0] fun t7 =>
 rng (N := 2) PR X (fun t8 t9 K2 =>
 B1 PR (fun _ => False) (Instr.alloc 160 true (.tuple #[])) fun t5 =>
 B9 PR (fun _ => False) (Instr.storeAt 160 t5 t9) <|
 bgn <|
 A6 PR (Instr.loadAt 48 t3) fun t10 =>
 A0 PR (Instr.fieldAt 160 t5 1) fun t11 =>
 A6 PR (Instr.loadAt 9 t11) fun t12 =>
 B1 PR (fun _ => False) (Instr.buildSlice 48 1 #[(0, t12)]) fun t13 =>
 B1 PR (fun _ => False) (A8 .append #[48, 48] 48 [t10, t13]) fun t14 =>
 B9 PR (fun _ => False) (Instr.storeAt 48 t3 t14) <|
 K2 none) t7 (fun j => match j with | none => (J1) | some (.exit i) => (match Nat.beq i 0 with | true => (J1) | false => (D8)) | some .ret => (T6 (R (.slice none 0 0))) | some _ => D8)
theorem A91 : A9 PR 47 := A7 Tryz.func47 (by kernel_rfl) rfl
theorem B1j {X : Nat → Prop} {t0 : Value} {R : Value → WP} {w : World} (h : A5T X t0 R w) : Fn PR X 47 #[t0] w R := C5 (args := [t0]) mixed Tryz.func47 (by kernel_rfl) h
def A0y (X : Nat → Prop) (t0 : Value) (R : Value → WP) : WP :=
 B1 PR X (Instr.box 176 t0) fun t1 =>
 A0 PR (Instr.makeFunc (.func 138) #[] #[t1]) fun t3 =>
 R t3
theorem A0E : A9 PR 90 := A7 Tryz.func90 (by kernel_rfl) rfl
theorem A5q {X : Nat → Prop} {t0 : Value} {R : Value → WP} {w : World} (h : A0y X t0 R w) : Fn PR X 90 #[t0] w R := C5 (args := [t0]) mixed Tryz.func90 (by kernel_rfl) h
def A3l (X : Nat → Prop) (t0 t1 : Value) (R : Value → WP) : WP :=
 B1 PR X (Instr.box 9 t1) fun t3 =>
 A0 PR (Instr.makeFunc (.func 154) #[] #[t3]) fun t10 =>
 B2 PR X 153 [t0, t10] fun t11 =>
 A0 PR (Instr.extract t11 0) fun t12 =>
 A0 PR (Instr.extract t11 1) fun t13 =>
 jn (n := 1) (fun t6 =>
 R (.tuple #[t6, t13])) fun J1 =>
 gj t13 true (fun J => J t12) fun t16 =>
 gj t13 true (fun J => B2 PR X 113 [t16, (.int .i64 2)] J) fun t17 =>
 gj t13 true (fun J => A0 PR (binOp .mul 3 (.int .i64 2) t17) J) fun t18 =>
 gj t13 true (fun J => J t12) fun t19 =>
 gj t13 true (fun J => A0 PR (A8 .len #[94] 0 [t19]) J) fun t20 =>
 gj t13 true (fun J => A0 PR (binOp .gtr 3 t18 t20) J) fun t21 =>
 A0 PR (do pure (if ← asBool t13 then t21 else (.bool false))) fun t22 =>
 B8 t22 (
 B2 PR X 114 [t12] fun t24 =>
 J1 t24) (
 J1 t12)
theorem A78 : A9 PR 105 := A7 Tryz.func105 (by kernel_rfl) rfl
theorem A8p {X : Nat → Prop} {t0 t1 : Value} {R : Value → WP} {w : World} (h : A3l X t0 t1 R w) : Fn PR X 105 #[t0, t1] w R := C5 (args := [t0, t1]) mixed Tryz.func105 (by kernel_rfl) h
def A6n (X : Nat → Prop) (t0 t1 t2 t3 : Value) (R : Value → WP) : WP :=
 A0 PR (Instr.build 160 #[(0, (.int .i64 1)), (1, t1), (2, t2), (3, t3)]) fun t16 =>
 B1 PR X (Instr.alloc 160 true (.tuple #[])) fun t10 =>
 B9 PR X (Instr.storeAt 160 t10 t16) <|
 A0 PR (Instr.makeFunc (.func 155) #[] #[t10]) fun t19 =>
 B2 PR X 153 [t0, t19] fun t20 =>
 A0 PR (Instr.extract t20 0) fun t21 =>
 A0 PR (Instr.extract t20 1) fun t22 =>
 jn (n := 2) (fun t8 t9 =>
 R (.tuple #[t21, (.int .i64 0)])) fun J1 =>
 A0 PR (Op.unary .not t22) fun t24 =>
 B8 t24 (
 R (.tuple #[t21, (.int .i64 12)])) (
 J1 (.slice none 0 0) (.int .i64 0))
theorem B1H : A9 PR 106 := A7 Tryz.func106 (by kernel_rfl) rfl
theorem B2g {X : Nat → Prop} {t0 t1 t2 t3 : Value} {R : Value → WP} {w : World} (h : A6n X t0 t1 t2 t3 R w) : Fn PR X 106 #[t0, t1, t2, t3] w R := C5 (args := [t0, t1, t2, t3]) mixed Tryz.func106 (by kernel_rfl) h
def A5b (X : Nat → Prop) (t0 : Value) (R : Value → WP) : WP :=
 A0 PR (A8 .len #[94] 0 [t0]) fun t7 =>
 B2 PR X 37 [t7] fun t8 =>
 B1 PR X (Instr.alloc 176 true (.tuple #[])) fun t3 =>
 B9 PR X (Instr.storeAt 176 t3 t8) <|
 jn (n := 0) (
 A6 PR (Instr.loadAt 176 t3) fun t16 =>
 T6 (R t16)) fun J1 =>
 B2 PR X 90 [t0] fun t10 =>
 rng (N := 2) PR X (fun t11 t12 K2 =>
 B1 PR (fun _ => False) (Instr.alloc 160 true (.tuple #[])) fun t5 =>
 B9 PR (fun _ => False) (Instr.storeAt 160 t5 t12) <|
 bgn <|
 A6 PR (Instr.loadAt 176 t3) fun t13 =>
 A6 PR (Instr.loadAt 160 t5) fun t14 =>
 B2 PR (fun _ => False) 156 [t13, t14] fun t15 =>
 K2 none) t10 (fun j => match j with | none => (J1) | some (.exit i) => (match Nat.beq i 0 with | true => (J1) | false => (D8)) | some .ret => (T6 (R (.slice none 0 0))) | some _ => D8)
theorem A38 : A9 PR 114 := A7 Tryz.func114 (by kernel_rfl) rfl
theorem B1d {X : Nat → Prop} {t0 : Value} {R : Value → WP} {w : World} (h : A5b X t0 R w) : Fn PR X 114 #[t0] w R := C5 (args := [t0]) mixed Tryz.func114 (by kernel_rfl) h
def u7 (X : Nat → Prop) (t0 t1 : Value) (R : Value → WP) : WP :=
 A6 PR (Instr.loadAt 176 t1) fun t5 =>
 A0 PR (A8 .len #[176] 0 [t5]) fun t6 =>
 lp (n := 1) (fun L1 t7 =>
 A0 PR (binOp .lss 3 t7 t6) fun t8 =>
 jn (n := 0) (
 jn (n := 0) (
 A0 PR (binOp .add 3 t7 (.int .i64 1)) fun t22 =>
 L1 t22) fun J2 =>
 A0 PR (Instr.indexAt 176 t5 t7) fun t10 =>
 A6 PR (Instr.loadAt 160 t10) fun t11 =>
 B1 PR X (Instr.alloc 160 true (.tuple #[])) fun t4 =>
 B9 PR X (Instr.storeAt 160 t4 t11) <|
 A0 PR (Instr.fieldAt 160 t4 0) fun t12 =>
 A6 PR (Instr.loadAt 3 t12) fun t13 =>
 A0 PR (binOp .eql 3 t13 (.int .i64 1)) fun t14 =>
 gj t14 true (fun J => J t0) fun t16 =>
 gj t14 true (fun J => J t7) fun t17 =>
 gj t14 true (fun J => A6 PR (Instr.loadAt 160 t4) J) fun t18 =>
 gj t14 true (fun J => G9 PR X t16 [t17, t18] J) fun t19 =>
 gj t14 true (fun J => A0 PR (Op.unary .not t19) J) fun t20 =>
 A0 PR (do pure (if ← asBool t14 then t20 else (.bool false))) fun t21 =>
 B8 t21 (
 R (.tuple #[])) (
 J2)) fun J3 =>
 B8 t8 (
 J3) (
 R (.tuple #[]))) (.int .i64 0)
theorem A3C : A9 PR 138 := A7 Tryz.func138 (by kernel_rfl) rfl
theorem A3w {X : Nat → Prop} {t0 t1 : Value} {R : Value → WP} {w : World} (h : u7 X t0 t1 R w) : Fn PR X 138 #[t0, t1] w R := C5 (args := [t0, t1]) mixed Tryz.func138 (by kernel_rfl) h
theorem A32 {X : Nat → Prop} {t0 t1 : Value} {K : Value → WP} {w : World} (h : Fn PR X 138 #[t0, t1] w K) : s8 PR X 138 [t0, t1] K w := ⟨A3C, h⟩
def A2Y (X : Nat → Prop) (t0 t1 : Value) (R : Value → WP) : WP :=
 B2 PR X 111 [t0] fun t8 =>
 jn (n := 2) (fun t4 t5 =>
 R (.tuple #[t8, (.bool true)])) fun J1 =>
 G9 PR X t1 [t8] fun t11 =>
 A0 PR (Op.unary .not t11) fun t12 =>
 B8 t12 (
 R (.tuple #[t0, (.bool false)])) (
 J1 (.slice none 0 0) (.bool false))
theorem A1w : A9 PR 153 := A7 Tryz.func153 (by kernel_rfl) rfl
theorem A8A {X : Nat → Prop} {t0 t1 : Value} {R : Value → WP} {w : World} (h : A2Y X t0 t1 R w) : Fn PR X 153 #[t0, t1] w R := C5 (args := [t0, t1]) mixed Tryz.func153 (by kernel_rfl) h
def A1a (X : Nat → Prop) (t0 t1 : Value) (R : Value → WP) : WP :=
 A6 PR (Instr.loadAt 9 t1) fun t6 =>
 B2 PR X 150 [t0, t6] fun t7 =>
 jn (n := 1) (fun t3 =>
 A0 PR (Instr.build 160 #[(0, (.int .i64 2))]) fun t12 =>
 A0 PR (Instr.indexAt 176 t0 t7) fun t13 =>
 B9 PR X (Instr.storeAt 160 t13 t12) <|
 R (.bool true)) fun J1 =>
 A0 PR (binOp .lss 3 t7 (.int .i64 0)) fun t9 =>
 B8 t9 (
 R (.bool false)) (
 J1 (.bool false))
theorem A5s : A9 PR 154 := A7 Tryz.func154 (by kernel_rfl) rfl
theorem A6E {X : Nat → Prop} {t0 t1 : Value} {R : Value → WP} {w : World} (h : A1a X t0 t1 R w) : Fn PR X 154 #[t0, t1] w R := C5 (args := [t0, t1]) mixed Tryz.func154 (by kernel_rfl) h
def A3J (X : Nat → Prop) (t0 t1 : Value) (R : Value → WP) : WP :=
 A6 PR (Instr.loadAt 160 t1) fun t5 =>
 B2 PR X 156 [t0, t5] fun t6 =>
 R t6
theorem A8S : A9 PR 155 := A7 Tryz.func155 (by kernel_rfl) rfl
theorem A8e {X : Nat → Prop} {t0 t1 : Value} {R : Value → WP} {w : World} (h : A3J X t0 t1 R w) : Fn PR X 155 #[t0, t1] w R := C5 (args := [t0, t1]) mixed Tryz.func155 (by kernel_rfl) h
def A1g (X : Nat → Prop) (t0 t1 : Value) (R : Value → WP) : WP :=
 B1 PR X (Instr.box 160 t1) fun t3 =>
 A0 PR (Instr.fieldAt 160 t3 1) fun t7 =>
 A6 PR (Instr.loadAt 9 t7) fun t8 =>
 B2 PR X 150 [t0, t8] fun t9 =>
 jn (n := 1) (fun t5 =>
 jn (n := 1) (fun t4 =>
 A6 PR (Instr.loadAt 160 t3) fun t20 =>
 A0 PR (Instr.indexAt 176 t0 t5) fun t21 =>
 B9 PR X (Instr.storeAt 160 t21 t20) <|
 R (.bool true)) fun J1 =>
 A0 PR (binOp .lss 3 t5 (.int .i64 0)) fun t17 =>
 B8 t17 (
 R (.bool false)) (
 J1 (.bool false))) fun J2 =>
 A0 PR (binOp .lss 3 t9 (.int .i64 0)) fun t11 =>
 B8 t11 (
 A0 PR (Instr.fieldAt 160 t3 1) fun t13 =>
 A6 PR (Instr.loadAt 9 t13) fun t14 =>
 B2 PR X 201 [t0, t14] fun t15 =>
 J2 t15) (
 J2 t9)
theorem A0p : A9 PR 156 := A7 Tryz.func156 (by kernel_rfl) rfl
theorem A6C {X : Nat → Prop} {t0 t1 : Value} {R : Value → WP} {w : World} (h : A1g X t0 t1 R w) : Fn PR X 156 #[t0, t1] w R := C5 (args := [t0, t1]) mixed Tryz.func156 (by kernel_rfl) h
end Go.Proofs.YtpbmephflllolaaGreat
namespace Go.Proofs.YtpbmephflllolaaGreat
open Go
theorem B1B (l : List EnV) : (l.flatMap F2).all plain = true := by
 rw [List.all_eq_true]; intro v hv; rw [List.mem_flatMap] at hv
 obtain ⟨x, _, hx⟩ := hv
 simp only [F2, List.mem_cons, List.not_mem_nil, or_false] at hx
 rcases hx with rfl | rfl | rfl | rfl <;> rfl
theorem A3S {α : Type} {f : α → List Value} {k : Nat} (hk : ∀ x, (f x).length = k) (l : List α) (i : Nat) (y : α) (hi : i < l.length) : A2k (l.flatMap f) (i * k) (f y) = (l.set i y).flatMap f := by
 have e1 := B6u hk l i
 have e2 := A6G hk l (i + 1)
 rw [Nat.add_mul, Nat.one_mul] at e2
 rw [A2k, hk, e1, e2, List.set_eq_take_append_cons_drop, if_pos hi, List.flatMap_append, List.flatMap_cons, List.append_assoc]
abbrev E8 (v : Value) (l : List EnV) : Res := .own 160 4 v l.length (l.flatMap F2)
def newE (n : Nat) : List EnV := List.replicate (min n 64) f8
theorem C3E (n : Nat) : (Builtin.zeroCells (Value.agg #[.int .i64 0, .string P5, .int .i64 0, .int .i64 0]).cells n).toList = (List.replicate n f8).flatMap F2 := by
 have h4 : (Value.agg #[.int .i64 0, .string P5, .int .i64 0, .int .i64 0]).cells.size = 4 := rfl
 have hz : (Builtin.zeroCells (Value.agg #[.int .i64 0, .string P5, .int .i64 0, .int .i64 0]).cells n).toList.length = n * 4 := by simp [size_zeroCells]
 have hr : ((List.replicate n f8).flatMap F2).length = n * 4 := by rw [H9 (k := 4) fun _ => rfl]; simp
 apply List.ext_getElem (by rw [hz, hr])
 intro i h1 h2
 rw [hz] at h1
 have hf := A2u (f := F2) (k := 4) (fun _ => rfl) (List.replicate n f8) (i / 4) (i % 4) (by omega)
 rw [show i / 4 * 4 + i % 4 = i by omega, List.getElem?_eq_getElem h2, List.getElem?_replicate_of_lt (by omega)] at hf
 have e : (Builtin.zeroCells (Value.agg #[.int .i64 0, .string P5, .int .i64 0, .int .i64 0]).cells n).toList[i]'(by rw [hz]; exact h1) = (Value.agg #[.int .i64 0, .string P5, .int .i64 0, .int .i64 0]).cells[i % 4]! := by
  simp [Builtin.zeroCells]
 rw [e]
 have h3 : i % 4 = 0 ∨ i % 4 = 1 ∨ i % 4 = 2 ∨ i % 4 = 3 := by omega
 rcases h3 with h3 | h3 | h3 | h3 <;> (rw [h3] at hf ⊢; simp [F2, f8] at hf ⊢; exact hf.symm)
theorem A7c (w : World) (n : Nat) (hn : n ≤ 1000000) : Fn PR B4 37 #[.int .i64 (n : Int)] w (Rn [] w (fun r u => u = r) fun r => [E8 r (newE n)]) := by
 refine B2x (TW.go (κ := false) (S := []) ?_)
 unfold A6j
 have e : max 0 (min (n : Int) 64) = ((min n 64 : Nat) : Int) := by omega
 (have zz:=trivial;repeat((first|clear zz|with_reducible first|refine A3 ?_|refine A5 fun _=>?_|refine A4 fun _=>?_);try simp(disch:=first|omega|assumption|((repeat(first|exact A1|exact uH|apply A2|apply uT));first|done|fail)|(simp;first|done|omega|fail))[e]))
 refine C18 (by omega) (by omega) (by omega) (by omega) fun bs => ?_
 rw [Int.toNat_natCast]
 refine V7 _ rfl ?_
 simp only [E8, newE, List.length_replicate, ← C3E]
 exact List.Sublist.refl _
def G7 (l : List EnV) (x : EnV) : Option (List EnV) :=
 let at0 := D6 l x.key
 let at1 := if at0 < 0 then W0 l x.key else at0
 if at1 < 0 then none else some (l.set at1.toNat x)
theorem B8s {key : ByteArray} {n : Nat} : ∀ L : List (Nat × EnV), (∀ p ∈ L, p.1 < n) → 0 ≤ G4 key L → (G4 key L).toNat < n := by
 intro L
 induction L with
 | nil => intro _ h; simp [G4] at h
 | cons p L ih =>
  intro h h0
  simp only [G4] at h0 ⊢
  split
  ·rw [if_pos ‹_›] at h0; simp at h0
  ·rw [if_neg ‹_›] at h0
   split
   ·simpa using h p (by simp)
   ·rw [if_neg ‹_›] at h0; exact ih (fun q hq => h q (by simp [hq])) h0
theorem B8n {n : Nat} : ∀ L : List (Nat × EnV), (∀ p ∈ L, p.1 < n) → 0 ≤ M6 L → (M6 L).toNat < n := by
 intro L
 induction L with
 | nil => intro _ h; simp [M6] at h
 | cons p L ih =>
  intro h h0
  simp only [M6] at h0 ⊢
  split
  ·rw [if_pos ‹_›] at h0; exact ih (fun q hq => h q (by simp [hq])) h0
  ·simpa using h p (by simp)
theorem B40 (l : List EnV) (key : ByteArray) : ∀ p ∈ Q5 l key, p.1 < l.length := by
 intro p hp
 obtain ⟨i, hi, rfl⟩ := List.mem_map.1 hp
 exact Nat.mod_lt _ (by simp at hi; omega)
theorem A01 {l : List EnV} {key : ByteArray} (h : 0 ≤ D6 l key) : (D6 l key).toNat < l.length := B8s _ (B40 l key) h
theorem A7z {l : List EnV} {key : ByteArray} (h : 0 ≤ W0 l key) : (W0 l key).toNat < l.length := by
 unfold W0 at h ⊢
 split
 ·rw [if_pos ‹_›] at h; simp at h
 ·rw [if_neg ‹_›] at h; exact B8n _ (B40 l key) h
theorem A41 {l m : List EnV} {x : EnV} (h : G7 l x = some m) : m.length = l.length := by
 unfold G7 at h
 simp only at h
 by_cases c : (if D6 l x.key < 0 then W0 l x.key else D6 l x.key) < 0
 ·rw [if_pos c] at h; cases h
 ·rw [if_neg c] at h; injection h with h; rw [← h]; simp
theorem B4c (w : World) (v : Value) (l : List EnV) (x : EnV) (hk : x.key.size < 2 ^ 60) (hn : l.length ≤ 1000000) (hw : LW false (B3 [E8 v l]) w [E8 v l] w) :
  Fn PR B4 156 #[v, .agg #[.int .i64 x.st, .string x.key, .int .i64 x.bk, .int .i64 x.dl]] w (Rn (B3 [E8 v l]) w (fun (_ : Unit) u => u = .bool (G7 l x).isSome) fun _ => [E8 v ((G7 l x).getD l)]) := by
 refine A6C (TW.goH (κ := false) (S := B3 [E8 v l]) ?_ hw)
 unfold A1g
 (have zz:=trivial;repeat((first|clear zz|with_reducible first|refine A3 ?_|refine A5 fun _=>?_|refine A4 fun _=>?_);try simp(disch:=first|omega|assumption|((repeat(first|exact A1|exact uH|apply A2|apply uT));first|done|fail)|(simp;first|done|omega|fail))[]))
 rename_i bx
 refine D2 r6 (fun w' hw' => A0U w' v l x.key hk hn (N0.own (by (repeat constructor)) w' hw')) ?_
 have Y4 : ∀ r : Int, 0 ≤ r → r.toNat < l.length → G7 l x = some (l.set r.toNat x) → TW false (B3 [E8 v l]) w [.pt bx (.cells #[.int .i64 x.st, .string x.key, .int .i64 x.bk, .int .i64 x.dl] 160), E8 v l]
   (A0 PR (Instr.indexAt 176 v (.int .i64 r)) fun t21 => B9 PR B4 (Instr.storeAt 160 t21 (.agg #[.int .i64 x.st, .string x.key, .int .i64 x.bk, .int .i64 x.dl])) <|
    Rn (B3 [E8 v l]) w (fun (_ : Unit) u => u = .bool (G7 l x).isSome) (fun _ => [E8 v ((G7 l x).getD l)]) (.bool true)) := by
  intro r h0 hi hp
  obtain ⟨i, rfl⟩ : ∃ i : Nat, r = i := ⟨r.toNat, by omega⟩
  rw [Int.toNat_natCast] at hi hp
  refine A0Q (e := 160) (k := 4) (v := v) (q := l.length) (xs := l.flatMap F2) (by (repeat constructor)) (by omega) ?_
  rintro g c rfl
  (have zz:=trivial;repeat((first|clear zz|with_reducible first|refine A3 ?_|refine A5 fun _=>?_|refine A4 fun _=>?_);try simp(disch:=first|omega|assumption|((repeat(first|exact A1|exact uH|apply A2|apply uT));first|done|fail)|(simp;first|done|omega|fail))[hi]))
  refine A05 (by (repeat constructor)) (by simp) (by rw [r3]; omega) (by simp) ?_
  refine C4 () (by simp [hp]) ?_
  have := A3S (f := F2) (k := 4) (fun _ => rfl) l i x hi
  simp only [hp, Option.getD_some, E8, List.length_set, ← this]
  (repeat' constructor)
 by_cases c1 : D6 l x.key < 0
 ·(have zz:=trivial;repeat((first|clear zz|with_reducible first|refine A3 ?_|refine A5 fun _=>?_|refine A4 fun _=>?_);try simp(disch:=first|omega|assumption|((repeat(first|exact A1|exact uH|apply A2|apply uT));first|done|fail)|(simp;first|done|omega|fail))[c1]))
  refine D2 B0b (fun w' hw' => B2l w' v l x.key hk hn (N0.own (by (repeat constructor)) w' hw')) ?_
  by_cases c2 : W0 l x.key < 0
  ·have hp : G7 l x = none := by simp [G7, c1, c2]
   (have zz:=trivial;repeat((first|clear zz|with_reducible first|refine A3 ?_|refine A5 fun _=>?_|refine A4 fun _=>?_);try simp(disch:=first|omega|assumption|((repeat(first|exact A1|exact uH|apply A2|apply uT));first|done|fail)|(simp;first|done|omega|fail))[c2]))
   exact C4 () (by simp [hp]) (by simp only [hp, Option.getD_none]; (repeat' constructor))
  ·have hp : G7 l x = some (l.set (W0 l x.key).toNat x) := by simp [G7, c1, c2]
   have := Y4 _ (by omega) (A7z (by omega)) hp
   simp(disch:=first|omega|assumption|((repeat(first|exact A1|exact uH|apply A2|apply uT));first|done|fail)|(simp;first|done|omega|fail))[c2]
   exact this
 ·have hp : G7 l x = some (l.set (D6 l x.key).toNat x) := by simp [G7, c1]
  have := Y4 _ (by omega) (A01 (by omega)) hp
  simp(disch:=first|omega|assumption|((repeat(first|exact A1|exact uH|apply A2|apply uT));first|done|fail)|(simp;first|done|omega|fail))[c1]
  exact this
def N8 : Nat → List EnV → List (Nat × EnV)
 | _, [] => []
 | i, x :: r => if x.st = 1 then (i, x) :: N8 (i + 1) r else N8 (i + 1) r
def F9 (l : List EnV) : List (Nat × EnV) := N8 0 l
theorem B01 (i : Nat) (l m : List EnV) : N8 i (l ++ m) = N8 i l ++ N8 (i + l.length) m := by
 induction l generalizing i with
 | nil => simp [N8]
 | cons x l ih =>
  simp only [List.cons_append, N8, ih, List.length_cons]
  split
  ·simp only [List.cons_append]; congr 3; omega
  ·congr 2; omega
theorem B27 {l : List EnV} {i : Nat} {x : EnV} (hx : l[i]? = some x) : F9 (l.take (i + 1)) = F9 (l.take i) ++ (if x.st = 1 then [(i, x)] else []) := by
 obtain ⟨hi, _⟩ := List.getElem?_eq_some_iff.1 hx
 rw [List.take_add_one, hx, F9, B01, Option.toList_some, List.length_take, Nat.zero_add, Nat.min_eq_left (by omega)]
 simp only [N8, F9]
theorem B74 {l : List EnV} {i : Nat} {x : EnV} (hx : l[i]? = some x) (h : x.st = 1) : (F9 l)[(F9 (l.take i)).length]? = some (i, x) := by
 have e : l = l.take (i + 1) ++ l.drop (i + 1) := (List.take_append_drop _ _).symm
 conv => lhs; arg 1; rw [e]
 rw [F9, B01, ← F9, B27 hx, if_pos h, List.append_assoc, List.getElem?_append_right (by omega)]
 simp
abbrev C0L (b : Nat) : Value := .func (.func 138) #[] #[.pointer (some ⟨b, 0, none⟩)]
theorem B46 (w : World) (v : Value) (hv : ∃ a n c, v = .slice a n c) : Fn PR B4 90 #[v] w (Rn [] w (fun b u => u = C0L b) fun b => [.pt b (.cells #[v] 176)]) := by
 obtain ⟨a, n, c, rfl⟩ := hv
 refine A5q (TW.go (κ := false) (S := []) ?_)
 unfold A0y
 (have zz:=trivial;repeat((first|clear zz|with_reducible first|refine A3 ?_|refine A5 fun _=>?_|refine A4 fun _=>?_);try simp(disch:=first|omega|assumption|((repeat(first|exact A1|exact uH|apply A2|apply uT));first|done|fail)|(simp;first|done|omega|fail))[]))
 rename_i b
 exact V7 b rfl (by simp)
theorem B4b (b : Nat) (v : Value) (l : List EnV) (hn : l.length ≤ 1000000) : A1F (C0L b) [.pt b (.cells #[v] 176)] (RqS v l.length (l.flatMap F2)) ((F9 l).map A3x) := by
 refine ⟨_, _, _, rfl, fun y J E hJ hE stJ stE hy w0 h0 => ?_⟩
 obtain ⟨a, c, hv, hr⟩ := (hJ _ _ _ h0).2
 subst hv
 refine A32 (A3w (TW.at (κ := true) ?_ (hJ _ _ _ h0).1))
 unfold u7
 (have zz:=trivial;repeat((first|clear zz|with_reducible first|refine A3 ?_|refine A5 fun _=>?_|refine A4 fun _=>?_);try simp(disch:=first|omega|assumption|((repeat(first|exact A1|exact uH|apply A2|apply uT));first|done|fail)|(simp;first|done|omega|fail))[]))
 refine A1Q l.length (fun i => (F9 (l.take i)).length) (fun _ => _) hJ stJ (by simpa [F9, N8] using h0) fun i a' hi hJi hRi L hL => ?_
 by_cases hlt : i < l.length
 ·obtain ⟨_, _, hv, hr⟩ := hRi
  obtain ⟨b', o, hb, hrow, hnb⟩ := hr (by omega)
  cases hv
  subst hb
  obtain ⟨x, hx⟩ : ∃ x, l[i]? = some x := ⟨_, List.getElem?_eq_getElem hlt⟩
  have h1 := hrow.at (f := F2) (k := 4) (fun _ => rfl) hx
  rw [F2] at h1
  have hat := B27 hx
  by_cases c1 : x.st = 1
  ·have hg := B74 hx c1
   rw [if_pos c1] at hat
   obtain ⟨hgi, hg'⟩ := List.getElem?_eq_some_iff.1 hg
   have hlen : (F9 (l.take (i + 1))).length = (F9 (l.take i)).length + 1 := by rw [hat]; simp
   rw [hlen] at hL
   (have zz:=trivial;repeat((first|clear zz|with_reducible first|refine A3 ?_|refine A5 fun _=>?_|refine A4 fun _=>?_);try simp(disch:=first|omega|assumption|((repeat(first|exact A1|exact uH|apply A2|apply uT));first|done|fail)|(simp;first|done|omega|fail))[hlt, h1, c1]))
   refine A2J hJ hE stJ hy hJi (by simpa using hgi) (by rw [List.getElem_map, hg', A3x, c1]) (fun w3 h => ?_) (fun w3 h => ?_)
   ·(have zz:=trivial;repeat((first|clear zz|with_reducible first|refine A3 ?_|refine A5 fun _=>?_|refine A4 fun _=>?_);try simp(disch:=first|omega|assumption|((repeat(first|exact A1|exact uH|apply A2|apply uT));first|done|fail)|(simp;first|done|omega|fail))[]))
    exact fun w' hw' => hL hlt w' (stJ _ _ _ _ _ h (hw'.sub (by simp)))
   ·(have zz:=trivial;repeat((first|clear zz|with_reducible first|refine A3 ?_|refine A5 fun _=>?_|refine A4 fun _=>?_);try simp(disch:=first|omega|assumption|((repeat(first|exact A1|exact uH|apply A2|apply uT));first|done|fail)|(simp;first|done|omega|fail))[]))
    exact A0H stE h
  ·rw [if_neg c1, List.append_nil] at hat
   rw [hat] at hL
   (have zz:=trivial;repeat((first|clear zz|with_reducible first|refine A3 ?_|refine A5 fun _=>?_|refine A4 fun _=>?_);try simp(disch:=first|omega|assumption|((repeat(first|exact A1|exact uH|apply A2|apply uT));first|done|fail)|(simp;first|done|omega|fail))[hlt, h1, c1]))
   exact fun w' hw' => hL hlt w' (stJ _ _ _ _ _ hJi (hw'.sub (by simp)))
 ·obtain rfl : i = l.length := by omega
  rw [List.take_length] at hJi
  (have zz:=trivial;repeat((first|clear zz|with_reducible first|refine A3 ?_|refine A5 fun _=>?_|refine A4 fun _=>?_);try simp(disch:=first|omega|assumption|((repeat(first|exact A1|exact uH|apply A2|apply uT));first|done|fail)|(simp;first|done|omega|fail))[]))
  exact A0L stJ (by simpa using hJi)
end Go.Proofs.YtpbmephflllolaaGreat
namespace Go.Proofs.YtpbmephflllolaaGreat
open Go
theorem B6d {w : World} {b : Nat} {T : TypeId} {l : List Value} (h : bl w b = some (.cells l.toArray T (0, 0))) : b8 w b 0 l.length = some l := A2T fun i hi => by
 rw [G5 h]; simp
theorem A9k (w : World) (v : Value) (l : List EnV) (f : FuncId) (cap : List Value) (o : Option (List EnV)) (ho : ∀ m, o = some m → m.length = l.length) (hn : l.length ≤ 1000000) (hv : F3 w v l.length (l.flatMap F2)) (he : A9 PR f)
  (hf : ∀ w' r, KS false [] w w' → (∀ b ∈ B3 [E8 r l], sz w ≤ b) → LW false (B3 [E8 r l]) w' [E8 r l] w' → Fn PR B4 f (r :: cap).toArray w' (Rn (B3 [E8 r l]) w' (fun (_ : Unit) u => u = .bool o.isSome) fun _ => [E8 r (o.getD l)])) :
  Fn PR B4 153 #[v, .func (.func f) #[] cap.toArray] w (Rn [] w (fun r u => u = .tuple #[if o.isSome then r else v, .bool o.isSome]) fun r => [E8 r (o.getD l)]) := by
 refine A8A (TW.go (κ := false) (S := []) ?_)
 unfold A2Y
 refine M3 Q7 (fun w' hw' => B0r w' v l.length (l.flatMap F2) hn (r3 l) (B1B l) (hv.ks hw'.ks (by simp))) ?_
 rintro _ r rfl
 (have zz:=trivial;repeat((first|clear zz|with_reducible first|refine A3 ?_|refine A5 fun _=>?_|refine A4 fun _=>?_);try simp(disch:=first|omega|assumption|((repeat(first|exact A1|exact uH|apply A2|apply uT));first|done|fail)|(simp;first|done|omega|fail))[]))
 refine D4 (Hc := [E8 r l]) he (fun w' hw hs => hf w' r hw.ks (fun b hb => by
  obtain ⟨s, hs1, hb1⟩ := M8.1 hb
  rcases (hw.own s (List.mem_append_left _ hs1) b hb1).1 with h | h
  ·simp at h
  ·exact h) hs) (by (repeat' constructor)) ?_
 rintro _ _ rfl
 cases o with
 | none =>
  (have zz:=trivial;repeat((first|clear zz|with_reducible first|refine A3 ?_|refine A5 fun _=>?_|refine A4 fun _=>?_);try simp(disch:=first|omega|assumption|((repeat(first|exact A1|exact uH|apply A2|apply uT));first|done|fail)|(simp;first|done|omega|fail))[]))
  exact C4 r rfl (by (repeat' constructor))
 | some m =>
  (have zz:=trivial;repeat((first|clear zz|with_reducible first|refine A3 ?_|refine A5 fun _=>?_|refine A4 fun _=>?_);try simp(disch:=first|omega|assumption|((repeat(first|exact A1|exact uH|apply A2|apply uT));first|done|fail)|(simp;first|done|omega|fail))[]))
  exact C4 r rfl (by (repeat' constructor))
theorem B9s (w : World) (v : Value) (l : List EnV) (x : EnV) (b : Nat) (hk : x.key.size < 2 ^ 60) (hn : l.length ≤ 1000000) (hx : b8 w b 0 4 = some (F2 x)) (hb : b ∉ B3 [E8 v l]) (hw : LW false (B3 [E8 v l]) w [E8 v l] w) :
  Fn PR B4 155 #[v, .pointer (some ⟨b, 0, none⟩)] w (Rn (B3 [E8 v l]) w (fun (_ : Unit) u => u = .bool (G7 l x).isSome) fun _ => [E8 v ((G7 l x).getD l)]) := by
 refine A8e (TW.goH (κ := false) (S := B3 [E8 v l]) ?_ hw)
 unfold A3J
 rw [F2] at hx
 (have zz:=trivial;repeat((first|clear zz|with_reducible first|refine A3 ?_|refine A5 fun _=>?_|refine A4 fun _=>?_);try simp(disch:=first|omega|assumption|((repeat(first|exact A1|exact uH|apply A2|apply uT));first|done|fail)|(simp;first|done|omega|fail))[hx]))
 refine D4 (Hc := [E8 v l]) A0p (fun w' hw hs => B4c w' v l x hk hn hs) (by (repeat' constructor)) ?_
 rintro _ _ rfl
 exact C4 () rfl (by (repeat' constructor))
theorem B3q (w : World) (v : Value) (l : List EnV) (key : ByteArray) (bk dl : Int) (hk : key.size < 2 ^ 60) (hn : l.length ≤ 1000000) (hv : F3 w v l.length (l.flatMap F2)) :
  Fn PR B4 106 #[v, .string key, .int .i64 bk, .int .i64 dl] w (Rn [] w (fun r u => u = .tuple #[if (G7 l ⟨1, key, bk, dl⟩).isSome then r else v, .int .i64 (if (G7 l ⟨1, key, bk, dl⟩).isSome then 0 else 12)]) fun r => [E8 r ((G7 l ⟨1, key, bk, dl⟩).getD l)]) := by
 refine B2g (TW.go (κ := false) (S := []) ?_)
 unfold A6n
 (have zz:=trivial;repeat((first|clear zz|with_reducible first|refine A3 ?_|refine A5 fun _=>?_|refine A4 fun _=>?_);try simp(disch:=first|omega|assumption|((repeat(first|exact A1|exact uH|apply A2|apply uT));first|done|fail)|(simp;first|done|omega|fail))[]))
 rename_i b
 refine M3 A1w (fun w' hw' => A9k w' v l 155 [.pointer (some ⟨b, 0, none⟩)] (G7 l ⟨1, key, bk, dl⟩) (fun m h => A41 h) hn (hv.ks hw'.ks (by simp)) A8S
  fun w2 r h hf hr => ?_) ?_
 ·have hp := hw'.pt (b := b) (by (repeat constructor))
  have hb : b < sz w' := G3 hp
  refine B9s w2 r l ⟨1, key, bk, dl⟩ b hk hn ?_ (fun hc => by have := hf b hc; omega) hr
  have hp2 := h.2.1 b _ (by simp) rfl hp
  exact B6d hp2
 ·rintro r _ rfl
  cases h : G7 l ⟨1, key, bk, dl⟩ with
  | none =>
   (have zz:=trivial;repeat((first|clear zz|with_reducible first|refine A3 ?_|refine A5 fun _=>?_|refine A4 fun _=>?_);try simp(disch:=first|omega|assumption|((repeat(first|exact A1|exact uH|apply A2|apply uT));first|done|fail)|(simp;first|done|omega|fail))[]))
   exact C4 r (by simp) (by (repeat' constructor))
  | some m =>
   (have zz:=trivial;repeat((first|clear zz|with_reducible first|refine A3 ?_|refine A5 fun _=>?_|refine A4 fun _=>?_);try simp(disch:=first|omega|assumption|((repeat(first|exact A1|exact uH|apply A2|apply uT));first|done|fail)|(simp;first|done|omega|fail))[]))
   exact C4 r (by simp) (by (repeat' constructor))
def S4 : EnV := ⟨2, P5, 0, 0⟩
def K9 (l : List EnV) : Prop := ∀ x ∈ l, x.key.size < 2 ^ 60
def W8 (acc : List EnV) (x : EnV) : List EnV := (G7 acc x).getD acc
theorem B9M (acc : List EnV) (x : EnV) : (W8 acc x).length = acc.length := by
 unfold W8
 cases h : G7 acc x with
 | none => rfl
 | some m => exact A41 h
def d8 (l : List EnV) : List EnV := (F9 l).foldl (fun acc p => W8 acc p.2) (newE l.length)
theorem B24 (L : List (Nat × EnV)) (a : List EnV) : (L.foldl (fun acc p => W8 acc p.2) a).length = a.length := by
 induction L generalizing a with
 | nil => rfl
 | cons p L ih => rw [List.foldl_cons, ih, B9M]
theorem A4u (n : Nat) : (newE n).length = min n 64 := by simp [newE]
theorem B0g {i : Nat} {l : List EnV} : ∀ p ∈ N8 i l, p.2 ∈ l ∧ p.2.st = 1 := by
 induction l generalizing i with
 | nil => intro p hp; cases hp
 | cons x l ih =>
  intro p hp
  simp only [N8] at hp
  split at hp
  ·rcases List.mem_cons.1 hp with rfl | hp
   ·exact ⟨by simp, ‹_›⟩
   ·obtain ⟨h1, h2⟩ := ih p hp; exact ⟨by simp [h1], h2⟩
  ·obtain ⟨h1, h2⟩ := ih p hp; exact ⟨by simp [h1], h2⟩
theorem A1W {κ : Bool} {S : List Nat} {w0 : World} {H : List Res} {K0 : WP} {e : TypeId} {k : Nat} {v : Value} {q : Nat} {xs : List Value} (hm : Res.own e k v q xs ∈ H) (h : v.cells = #[v] → v.cells.size = 1 → v.cells.toList.all plain = true → TW κ S w0 H K0) : TW κ S w0 H K0 := fun w hw => by
 obtain ⟨a, c, rfl⟩ := M4.form (hw.hold _ hm); exact h rfl rfl rfl w hw
theorem d9 {κ : Bool} {S : List Nat} {w0 : World} {H : List Res} {K0 : WP} {e : TypeId} {k : Nat} {v : Value} {q : Nat} {xs : List Value} (hm : Res.own e k v q xs ∈ H) (h : ∀ a c, v = .slice a q c → TW κ S w0 H K0) : TW κ S w0 H K0 := fun w hw => by
 obtain ⟨a, c, rfl⟩ := M4.form (hw.hold _ hm); exact h a c rfl w hw
theorem B47 (w : World) (v : Value) (l : List EnV) (hks : K9 l) (hn : l.length ≤ 1000000) (hv : F3 w v l.length (l.flatMap F2)) :
  Fn PR B4 114 #[v] w (Rn [] w (fun r u => u = r) fun r => [E8 r (d8 l)]) := by
 refine B1d (TW.go (κ := false) (S := []) ?_)
 unfold A5b
 obtain ⟨a, c, rfl, _⟩ := hv.form
 (have zz:=trivial;repeat((first|clear zz|with_reducible first|refine A3 ?_|refine A5 fun _=>?_|refine A4 fun _=>?_);try simp(disch:=first|omega|assumption|((repeat(first|exact A1|exact uH|apply A2|apply uT));first|done|fail)|(simp;first|done|omega|fail))[]))
 refine M3 A5c (fun w' _ => A7c w' l.length hn) ?_
 rintro _ r rfl
 refine A1W (e := 160) (k := 4) (v := r) (q := (newE l.length).length) (xs := (newE l.length).flatMap F2) (by (repeat constructor)) fun hr1 hr2 hr3 => ?_
 (have zz:=trivial;repeat((first|clear zz|with_reducible first|refine A3 ?_|refine A5 fun _=>?_|refine A4 fun _=>?_);try simp(disch:=first|omega|assumption|((repeat(first|exact A1|exact uH|apply A2|apply uT));first|done|fail)|(simp;first|done|omega|fail))[hr1]))
 rename_i bt
 refine M3 A0E (fun w' _ => B46 w' (.slice a l.length c) ⟨_, _, _, rfl⟩) ?_
 rintro b _ rfl
 refine v6 (B4b b (.slice a l.length c) l hn) (A5E _) (fun i (acc : List EnV) => acc = ((F9 l).take i).foldl (fun acc p => W8 acc p.2) (newE l.length)) (fun _ acc => [.pt bt (.cells #[r] 176), E8 r acc])
  (fun c (y : Unit) => False) (fun y => []) (newE l.length) (by simp) ?_ ?_ ?_ ?_ (by simp)
 ·intro i _ F w1 _ hw
  exact RqS.of hv (fun h => by rw [r3]; omega) hw
 ·rintro i hi acc F hψ K' hK _
  have hi' : i < (F9 l).length := by simpa using hi
  have hm : (F9 l)[i] ∈ F9 l := List.getElem_mem hi'
  have hst : ((F9 l).take (i + 1)).foldl (fun acc p => W8 acc p.2) (newE l.length) = W8 acc (F9 l)[i].2 := by
   rw [List.take_add_one, List.getElem?_eq_getElem hi', Option.toList_some, List.foldl_append, ← hψ]; rfl
  have hlen : acc.length ≤ 64 := by rw [hψ, B24, A4u]; omega
  simp only [List.getElem_map]
  generalize (F9 l)[i] = p at *
  have hkp := hks p.2 (B0g p hm).1
  simp only [A3x, VF.app]
  (have zz:=trivial;repeat((first|clear zz|with_reducible first|refine A3 ?_|refine A5 fun _=>?_|refine A4 fun _=>?_);try simp(disch:=first|omega|assumption|((repeat(first|exact A1|exact uH|apply A2|apply uT));first|done|fail)|(simp;first|done|omega|fail))[]))
  refine D4 (Hc := [E8 r acc]) A0p (fun w' hw hs => B4c w' r acc p.2 hkp (by omega) hs) (by (repeat' constructor)) ?_
  rintro _ _ rfl
  refine TW.sub (TW.perm (hK (W8 acc p.2) hst.symm) ?_) (H' := E8 r (W8 acc p.2) :: .pt bt (.cells #[r] 176) :: F) ?_
  ·exact List.Perm.swap ..
  ·simp only [W8]; ((try simp only [List.cons_append, List.nil_append, List.append_assoc]); (repeat (first | exact List.Sublist.refl _ | exact List.nil_sublist _ | with_reducible apply List.Sublist.cons_cons | apply List.Sublist.cons)); first | done | fail)
 ·intro acc hψ
  simp only [List.length_map, List.take_length] at hψ
  subst hψ
  (have zz:=trivial;repeat((first|clear zz|with_reducible first|refine A3 ?_|refine A5 fun _=>?_|refine A4 fun _=>?_);try simp(disch:=first|omega|assumption|((repeat(first|exact A1|exact uH|apply A2|apply uT));first|done|fail)|(simp;first|done|omega|fail))[]))
  exact C4 r rfl (by simp only [d8]; (repeat' constructor))
 ·rintro _ _ h; exact h.elim
def j7 (l : List EnV) (key : ByteArray) : Option (List EnV) := if D6 l key < 0 then none else some (l.set (D6 l key).toNat S4)
theorem B2y {l m : List EnV} {key : ByteArray} (h : j7 l key = some m) : m.length = l.length := by
 unfold j7 at h
 by_cases c : D6 l key < 0
 ·rw [if_pos c] at h; cases h
 ·rw [if_neg c] at h; injection h with h; rw [← h]; simp
def K6 (u : List EnV) : List EnV := if u.length < 2 * S1 u 2 then d8 u else u
def A0b (l : List EnV) (key : ByteArray) : List EnV := match j7 l key with | some u => K6 u | none => l
theorem B3l (w : World) (v : Value) (l : List EnV) (key : ByteArray) (b : Nat) (hk : key.size < 2 ^ 60) (hn : l.length ≤ 1000000) (hx : w.cell? ⟨b, 0, none⟩ = some (.string key)) (hb : b ∉ B3 [E8 v l]) (hw : LW false (B3 [E8 v l]) w [E8 v l] w) :
  Fn PR B4 154 #[v, .pointer (some ⟨b, 0, none⟩)] w (Rn (B3 [E8 v l]) w (fun (_ : Unit) u => u = .bool (j7 l key).isSome) fun _ => [E8 v ((j7 l key).getD l)]) := by
 refine A6E (TW.goH (κ := false) (S := B3 [E8 v l]) ?_ hw)
 unfold A1a
 (have zz:=trivial;repeat((first|clear zz|with_reducible first|refine A3 ?_|refine A5 fun _=>?_|refine A4 fun _=>?_);try simp(disch:=first|omega|assumption|((repeat(first|exact A1|exact uH|apply A2|apply uT));first|done|fail)|(simp;first|done|omega|fail))[hx]))
 refine D2 r6 (fun w' hw' => A0U w' v l key hk hn (N0.own (by (repeat constructor)) w' hw')) ?_
 by_cases c1 : D6 l key < 0
 ·have hd : j7 l key = none := if_pos c1
  (have zz:=trivial;repeat((first|clear zz|with_reducible first|refine A3 ?_|refine A5 fun _=>?_|refine A4 fun _=>?_);try simp(disch:=first|omega|assumption|((repeat(first|exact A1|exact uH|apply A2|apply uT));first|done|fail)|(simp;first|done|omega|fail))[c1]))
  exact C4 () (by simp [hd]) (by simp only [hd, Option.getD_none]; (repeat' constructor))
 ·have hd : j7 l key = some (l.set (D6 l key).toNat S4) := if_neg c1
  have hlt := A01 (l := l) (key := key) (by omega)
  have h0 : 0 ≤ D6 l key := by omega
  obtain ⟨i, hi⟩ : ∃ i : Nat, D6 l key = i := ⟨(D6 l key).toNat, by omega⟩
  rw [hi] at hd hlt c1 ⊢
  rw [Int.toNat_natCast] at hd hlt
  refine A0Q (e := 160) (k := 4) (v := v) (q := l.length) (xs := l.flatMap F2) (by (repeat constructor)) (by omega) ?_
  rintro g c rfl
  (have zz:=trivial;repeat((first|clear zz|with_reducible first|refine A3 ?_|refine A5 fun _=>?_|refine A4 fun _=>?_);try simp(disch:=first|omega|assumption|((repeat(first|exact A1|exact uH|apply A2|apply uT));first|done|fail)|(simp;first|done|omega|fail))[c1, hlt]))
  refine A05 (by (repeat constructor)) (by simp) (by rw [r3]; omega) (by simp) ?_
  refine C4 () (by simp [hd]) ?_
  have := A3S (f := F2) (k := 4) (fun _ => rfl) l i S4 hlt
  simp only [hd, Option.getD_some, E8, List.length_set, ← this]
  (repeat' constructor)
theorem A9w (w : World) (v : Value) (l : List EnV) (key : ByteArray) (hk : key.size < 2 ^ 60) (hks : K9 l) (hn : l.length ≤ 1000000) (hv : F3 w v l.length (l.flatMap F2)) :
  Fn PR B4 105 #[v, .string key] w (Rn [] w (fun r u => u = .tuple #[if (j7 l key).isSome then r else v, .bool (j7 l key).isSome]) fun r => [E8 r (A0b l key)]) := by
 refine A8p (TW.go (κ := false) (S := []) ?_)
 unfold A3l
 (have zz:=trivial;repeat((first|clear zz|with_reducible first|refine A3 ?_|refine A5 fun _=>?_|refine A4 fun _=>?_);try simp(disch:=first|omega|assumption|((repeat(first|exact A1|exact uH|apply A2|apply uT));first|done|fail)|(simp;first|done|omega|fail))[]))
 rename_i b
 refine M3 A1w (fun w' hw' => A9k w' v l 154 [.pointer (some ⟨b, 0, none⟩)] (j7 l key) (fun m h => B2y h) hn (hv.ks hw'.ks (by simp)) A5s
  fun w2 r h hf hr => ?_) ?_
 ·have hp := hw'.pt (b := b) (by (repeat constructor))
  have hb : b < sz w' := G3 hp
  exact B3l w2 r l key b hk hn (h.cell (by simp) (hw'.cell1 (by (repeat constructor)))) (fun hc => by have := hf b hc; omega) hr
 ·rintro r _ rfl
  cases h : j7 l key with
  | none =>
   have e : A0b l key = l := by simp [A0b, h]
   (have zz:=trivial;repeat((first|clear zz|with_reducible first|refine A3 ?_|refine A5 fun _=>?_|refine A4 fun _=>?_);try simp(disch:=first|omega|assumption|((repeat(first|exact A1|exact uH|apply A2|apply uT));first|done|fail)|(simp;first|done|omega|fail))[]))
   exact C4 r (by simp) (by rw [e]; (repeat' constructor))
  | some m =>
   have e : A0b l key = K6 m := by simp [A0b, h]
   have hml := B2y h
   have hmk : K9 m := by
    unfold j7 at h
    by_cases c : D6 l key < 0
    ·rw [if_pos c] at h; cases h
    ·rw [if_neg c] at h; injection h with h; rw [← h]
     intro x hx
     rcases List.mem_or_eq_of_mem_set hx with hx | rfl
     ·exact hks x hx
     ·simp [S4]
   simp only [Option.isSome_some, if_true, Option.getD_some]
   refine d9 (e := 160) (k := 4) (v := r) (q := m.length) (xs := m.flatMap F2) (by (repeat constructor)) ?_
   rintro ra rc rfl
   (have zz:=trivial;repeat((first|clear zz|with_reducible first|refine A3 ?_|refine A5 fun _=>?_|refine A4 fun _=>?_);try simp(disch:=first|omega|assumption|((repeat(first|exact A1|exact uH|apply A2|apply uT));first|done|fail)|(simp;first|done|omega|fail))[]))
   refine D2 A3G (fun w' hw' => B3P w' _ m 2 (by omega) (N0.own (by (repeat constructor)) w' hw')) ?_
   have hcl : S1 m 2 ≤ m.length := List.countP_le_length
   by_cases c1 : m.length < 2 * S1 m 2
   ·have c1' : (m.length : Int) < 2 * (S1 m 2 : Nat) := by omega
    have e2 : A0b l key = d8 m := by rw [e, K6, if_pos c1]
    (have zz:=trivial;repeat((first|clear zz|with_reducible first|refine A3 ?_|refine A5 fun _=>?_|refine A4 fun _=>?_);try simp(disch:=first|omega|assumption|((repeat(first|exact A1|exact uH|apply A2|apply uT));first|done|fail)|(simp;first|done|omega|fail))[c1']))
    refine M3 A38 (fun w' hw' => B47 w' _ m hmk (by omega) (N0.own (by (repeat constructor)) w' hw')) ?_
    rintro _ r rfl
    exact C4 r rfl (by rw [e2]; (repeat' constructor))
   ·have c1' : ¬ (m.length : Int) < 2 * (S1 m 2 : Nat) := by omega
    have e2 : A0b l key = m := by rw [e, K6, if_neg c1]
    (have zz:=trivial;repeat((first|clear zz|with_reducible first|refine A3 ?_|refine A5 fun _=>?_|refine A4 fun _=>?_);try simp(disch:=first|omega|assumption|((repeat(first|exact A1|exact uH|apply A2|apply uT));first|done|fail)|(simp;first|done|omega|fail))[c1']))
    exact C4 (.slice ra m.length rc) rfl (by rw [e2]; (repeat' constructor))
def A0T (l : List EnV) : List ByteArray := (F9 l).map (·.2.key)
theorem C1V (w : World) (v : Value) (l : List EnV) (hn : l.length ≤ 1000000) (hv : F3 w v l.length (l.flatMap F2)) :
  Fn PR B4 47 #[v] w (Rn [] w (fun r u => u = r) fun r => [.own 9 1 r (A0T l).length ((A0T l).map Value.string)]) := by
 refine B1j (TW.go (κ := false) (S := []) ?_)
 unfold A5T
 obtain ⟨a, c, rfl, _⟩ := hv.form
 (have zz:=trivial;repeat((first|clear zz|with_reducible first|refine A3 ?_|refine A5 fun _=>?_|refine A4 fun _=>?_);try simp(disch:=first|omega|assumption|((repeat(first|exact A1|exact uH|apply A2|apply uT));first|done|fail)|(simp;first|done|omega|fail))[]))
 rename_i bt
 refine M3 A0E (fun w' _ => B46 w' (.slice a l.length c) ⟨_, _, _, rfl⟩) ?_
 rintro b _ rfl
 refine p8 9 1 ?_
 have hll : (F9 l).length ≤ l.length := by
  have : ∀ (m : List EnV) (i : Nat), (N8 i m).length ≤ m.length := by
   intro m
   induction m with
   | nil => intro i; simp [N8]
   | cons x m ih => intro i; have := ih (i + 1); simp only [N8]; split <;> simp <;> omega
  exact this l 0
 refine TW.eqH (H' := [.own 9 1 (.slice none 0 0) 0 [], .pt b (.cells #[.slice a l.length c] 176), .pt bt (.cells #[.slice none 0 0] 48)]) (by simp) ?_
 refine TW.perm ?_ (H' := [.pt b (.cells #[.slice a l.length c] 176), .own 9 1 (.slice none 0 0) 0 [], .pt bt (.cells #[.slice none 0 0] 48)]) (List.Perm.swap ..)
 refine v6 (B4b b (.slice a l.length c) l hn) (A5E _) (fun i (x : Option Addr × Nat) => True) (fun i x => [.own 9 1 (.slice x.1 i x.2) i (((F9 l).map fun p => Value.string p.2.key).take i), .pt bt (.cells #[.slice x.1 i x.2] 48)])
  (fun c (y : Unit) => False) (fun y => []) (none, 0) trivial ?_ ?_ ?_ ?_ (by simp)
 ·intro i _ F w1 _ hw
  exact RqS.of hv (fun h => by rw [r3]; omega) hw
 ·rintro i hi ⟨xa, xc⟩ F _ K' hK _
  have hi' : i < (F9 l).length := by simpa using hi
  have hst : ((F9 l).map fun p => Value.string p.2.key).take (i + 1) = ((F9 l).map fun p => Value.string p.2.key).take i ++ [Value.string (F9 l)[i].2.key] := by
   rw [List.take_add_one, List.getElem?_map, List.getElem?_eq_getElem hi']; rfl
  simp only [hst] at hK
  simp only [List.getElem_map]
  generalize (F9 l)[i] = p at *
  simp only [A3x, VF.app]
  (have zz:=trivial;repeat((first|clear zz|with_reducible first|refine A3 ?_|refine A5 fun _=>?_|refine A4 fun _=>?_|refine D0 fun _=>?_|refine C9 (hK:=fun _=>?_)|refine C6 (hK:=fun _=>?_)|refine C8 (hK:=fun _=>?_)|refine C7 (hK:=fun _=>?_)|refine D1 (hK:=fun _=>?_));try simp(disch:=first|omega|assumption|((repeat(first|exact A1|exact uH|apply A2|apply uT));first|done|fail)|(simp;first|done|omega|fail))[]))
  refine A0J (e := 9) (k := 1) (q := i) (r := 1) (xs := ((F9 l).map fun p => Value.string p.2.key).take i) (news := [Value.string p.2.key]) (by (repeat constructor)) (N0.own (by (repeat constructor))) (by decide) (by simp) (by simp) (by simp only [maxLen]; omega) (by omega) fun a' c' => ?_
  (have zz:=trivial;repeat((first|clear zz|with_reducible first|refine A3 ?_|refine A5 fun _=>?_|refine A4 fun _=>?_);try simp(disch:=first|omega|assumption|((repeat(first|exact A1|exact uH|apply A2|apply uT));first|done|fail)|(simp;first|done|omega|fail))[]))
  refine TW.sub (TW.perm (hK (a', c') trivial) ?_) (H' := .own 9 1 (.slice a' (i + 1) c') (i + 1) (((F9 l).map fun p => Value.string p.2.key).take i ++ [Value.string p.2.key]) :: .pt bt (.cells #[.slice a' (i + 1) c'] 48) :: F) ?_
  ·exact List.Perm.refl _
  ·((try simp only [List.cons_append, List.nil_append, List.append_assoc]); (repeat (first | exact List.Sublist.refl _ | exact List.nil_sublist _ | with_reducible apply List.Sublist.cons_cons | apply List.Sublist.cons)); first | done | fail)
 ·rintro ⟨xa, xc⟩ _
  (have zz:=trivial;repeat((first|clear zz|with_reducible first|refine A3 ?_|refine A5 fun _=>?_|refine A4 fun _=>?_);try simp(disch:=first|omega|assumption|((repeat(first|exact A1|exact uH|apply A2|apply uT));first|done|fail)|(simp;first|done|omega|fail))[]))
  refine C4 (.slice xa (F9 l).length xc) rfl ?_
  rw [List.take_of_length_le (by simp)]
  simp only [A0T, List.length_map, List.map_map]
  exact Sels.cons Sel.here Sels.nil
 ·rintro _ _ h; exact h.elim
def Q2 (l : List EnV) : Bool := (F9 l).all fun p => decide (D6 l p.2.key = p.1)
end Go.Proofs.YtpbmephflllolaaGreat
namespace Go.Proofs.YtpbmephflllolaaGreat
open Go
def A6m (X : Nat → Prop) (t0 : Value) (R : Value → WP) : WP :=
 jn (n := 2) (fun t3 t10 =>
 R t3) fun J1 =>
 B2 PR X 108 [t0] fun t7 =>
 B2 PR X 107 [t7, (.func (.func 109) #[] #[])] fun t8 =>
 A0 PR (A8 .len #[208] 0 [t8]) fun t9 =>
 lp (n := 2) (fun L2 t3_1 t10_1 =>
 A0 PR (binOp .lss 3 t10_1 t9) fun t11 =>
 jn (n := 0) (
 jn (n := 1) (fun t3_2 =>
 A0 PR (binOp .add 3 t10_1 (.int .i64 1)) fun t18 =>
 L2 t3_2 t18) fun J3 =>
 A0 PR (Instr.indexAt 208 t8 t10_1) fun t12 =>
 A6 PR (Instr.loadAt 211 t12) fun t13 =>
 B1 PR X (Instr.alloc 211 true (.tuple #[])) fun t5 =>
 B9 PR X (Instr.storeAt 211 t5 t13) <|
 A6 PR (Instr.loadAt 211 t5) fun t15 =>
 B1 PR X (Instr.buildSlice 90 1 #[(0, t15)]) fun t16 =>
 B1 PR X (A8 .append #[90, 90] 90 [t3_1, t16]) fun t17 =>
 J3 t17) fun J4 =>
 B8 t11 (
 J4) (
 J1 t3_1 t10_1)) (.slice none 0 0) (.int .i64 0)
theorem B1k : A9 PR 59 := A7 Tryz.func59 (by kernel_rfl) rfl
theorem B3F {X : Nat → Prop} {t0 : Value} {R : Value → WP} {w : World} (h : A6m X t0 R w) : Fn PR X 59 #[t0] w R := C5 (args := [t0]) mixed Tryz.func59 (by kernel_rfl) h
def A4F (X : Nat → Prop) (t0 : Value) (R : Value → WP) : WP :=
 B1 PR X (Instr.box 32 t0) fun t1 =>
 A0 PR (Instr.makeFunc (.func 159) #[] #[t1]) fun t3 =>
 R t3
theorem A9S : A9 PR 108 := A7 Tryz.func108 (by kernel_rfl) rfl
theorem A90 {X : Nat → Prop} {t0 : Value} {R : Value → WP} {w : World} (h : A4F X t0 R w) : Fn PR X 108 #[t0] w R := C5 (args := [t0]) mixed Tryz.func108 (by kernel_rfl) h
def y7 (X : Nat → Prop) (t0 t1 : Value) (R : Value → WP) : WP :=
 B1 PR X (Instr.box 211 t0) fun t2 =>
 B1 PR X (Instr.box 211 t1) fun t3 =>
 drw <|
 A0 PR (Instr.fieldAt 211 t2 0) fun t5 =>
 A6 PR (Instr.loadAt 129 t5) fun t6 =>
 A0 PR (Instr.fieldAt 211 t3 0) fun t7 =>
 A6 PR (Instr.loadAt 129 t7) fun t8 =>
 A0 PR (Instr.fieldAt 211 t2 1) fun t10 =>
 A6 PR (Instr.loadAt 3 t10) fun t11 =>
 A0 PR (Instr.fieldAt 211 t3 1) fun t12 =>
 A6 PR (Instr.loadAt 3 t12) fun t13 =>
 B2 PR X 162 [t6, t8] fun t9 =>
 watch PR [(none, (Instr.loadAt 3 t12), t13), (none, (Instr.loadAt 3 t10), t11)] <|
 B2 PR X 69 [t11, t13] fun t14 =>
 B1 PR X (Instr.buildSlice 34 2 #[(0, t9), (1, t14)]) fun t15 =>
 B2 PR X 161 [t15] fun t16 =>
 R t16
theorem A30 : A9 PR 109 := A7 Tryz.func109 (by kernel_rfl) rfl
theorem A4q {X : Nat → Prop} {t0 t1 : Value} {R : Value → WP} {w : World} (h : y7 X t0 t1 R w) : Fn PR X 109 #[t0, t1] w R := C5 (args := [t0, t1]) mixed Tryz.func109 (by kernel_rfl) h
def A15 (X : Nat → Prop) (t0 t1 : Value) (R : Value → WP) : WP :=
 A6 PR (Instr.loadAt 32 t1) fun t6 =>
 A0 PR (A8 .len #[32] 0 [t6]) fun t7 =>
 lp (n := 1) (fun L1 t8 =>
 A0 PR (binOp .lss 3 t8 t7) fun t9 =>
 jn (n := 0) (
 jn (n := 1) (fun t17 =>
 A0 PR (binOp .add 3 t8 (.int .i64 1)) fun t31 =>
 L1 t31) fun J2 =>
 A0 PR (Instr.indexAt 32 t6 t8) fun t10 =>
 A6 PR (Instr.loadAt 75 t10) fun t11 =>
 B1 PR X (Instr.alloc 75 true (.tuple #[])) fun t4 =>
 B9 PR X (Instr.storeAt 75 t4 t11) <|
 A0 PR (Instr.fieldAt 75 t4 1) fun t12 =>
 A6 PR (Instr.loadAt 3 t12) fun t13 =>
 A0 PR (A8 .min #[3, 3] 0 [t13, (.int .i64 16)]) fun t14 =>
 A0 PR (A8 .max #[3, 3] 0 [(.int .i64 0), t14]) fun t15 =>
 A0 PR (binOp .mul 3 (.int .i64 8) t15) fun t16 =>
 lp (n := 1) (fun L3 t17_1 =>
 A0 PR (binOp .lss 3 t17_1 t16) fun t18 =>
 jn (n := 0) (
 jn (n := 0) (
 A0 PR (binOp .add 3 t17_1 (.int .i64 1)) fun t30 =>
 L3 t30) fun J4 =>
 drw <|
 A0 PR (Instr.fieldAt 75 t4 0) fun t21 =>
 A6 PR (Instr.loadAt 3 t21) fun t22 =>
 A0 PR (Instr.fieldAt 75 t4 0) fun t25 =>
 A6 PR (Instr.loadAt 3 t25) fun t26 =>
 B2 PR X 160 [t22, t17_1] fun t24 =>
 watch PR [(none, (Instr.loadAt 3 t25), t26)] <|
 A0 PR (Instr.build 211 #[(0, t24), (1, t26)]) fun t27 =>
 G9 PR X t0 [t27] fun t28 =>
 A0 PR (Op.unary .not t28) fun t29 =>
 B8 t29 (
 R (.tuple #[])) (
 J4)) fun J5 =>
 B8 t18 (
 J5) (
 J2 t17_1)) (.int .i64 0)) fun J6 =>
 B8 t9 (
 J6) (
 R (.tuple #[]))) (.int .i64 0)
theorem A6T : A9 PR 159 := A7 Tryz.func159 (by kernel_rfl) rfl
theorem A7K {X : Nat → Prop} {t0 t1 : Value} {R : Value → WP} {w : World} (h : A15 X t0 t1 R w) : Fn PR X 159 #[t0, t1] w R := C5 (args := [t0, t1]) mixed Tryz.func159 (by kernel_rfl) h
theorem A7L {X : Nat → Prop} {t0 t1 : Value} {K : Value → WP} {w : World} (h : Fn PR X 159 #[t0, t1] w K) : s8 PR X 159 [t0, t1] K w := ⟨A6T, h⟩
def A4T (X : Nat → Prop) (t0 t1 : Value) (R : Value → WP) : WP :=
 A0 PR (convert 3 129 t0) fun t6 =>
 B2 PR X 55 [t6, (.int .i64 4)] fun t7 =>
 B2 PR X 102 [t7] fun t8 =>
 A0 PR (convert 3 129 t1) fun t10 =>
 B2 PR X 55 [t10, (.int .i64 2)] fun t11 =>
 B2 PR X 55 [(.int .u64 0), (.int .i64 4)] fun t12 =>
 A0 PR (binOp .add 9 t11 t12) fun t13 =>
 B2 PR X 149 [t8, t13] fun t14 =>
 R t14
theorem A85 : A9 PR 160 := A7 Tryz.func160 (by kernel_rfl) rfl
theorem B0G {X : Nat → Prop} {t0 t1 : Value} {R : Value → WP} {w : World} (h : A4T X t0 t1 R w) : Fn PR X 160 #[t0, t1] w R := C5 (args := [t0, t1]) mixed Tryz.func160 (by kernel_rfl) h
end Go.Proofs.YtpbmephflllolaaGreat
namespace Go.Proofs.YtpbmephflllolaaGreat
open Go
def B6P (id : Int) (n : Nat) : Nat := B57 (f9 (E0 (IntKind.u64.wrap id) 4)) (E0 n 2 ++ E0 0 4)
theorem C0c (w : World) (id : Int) (n : Nat) (hn : n < 2 ^ 62) : Fn PR B4 160 #[.int .i64 id, .int .i64 (n : Int)] w (fun v w' => v = .int .u64 (B6P id n : Nat) ∧ C3 [] w w') := by
 refine Fn.pure (B0G (TW.go (κ := false) (S := []) ?_))
 unfold A4T
 (have zz:=trivial;repeat((first|clear zz|with_reducible first|refine A3 ?_|refine A5 fun _=>?_|refine A4 fun _=>?_);try simp(disch:=first|omega|assumption|((repeat(first|exact A1|exact uH|apply A2|apply uT));first|done|fail)|(simp;first|done|omega|fail))[]))
 refine D2 F6 (fun w' hw' => V2 w' _ _) ?_
 (have zz:=trivial;repeat((first|clear zz|with_reducible first|refine A3 ?_|refine A5 fun _=>?_|refine A4 fun _=>?_);try simp(disch:=first|omega|assumption|((repeat(first|exact A1|exact uH|apply A2|apply uT));first|done|fail)|(simp;first|done|omega|fail))[]))
 refine D2 A1E (fun w' _ => A3c w' _ (by simp)) ?_
 (have zz:=trivial;repeat((first|clear zz|with_reducible first|refine A3 ?_|refine A5 fun _=>?_|refine A4 fun _=>?_);try simp(disch:=first|omega|assumption|((repeat(first|exact A1|exact uH|apply A2|apply uT));first|done|fail)|(simp;first|done|omega|fail))[]))
 refine D2 F6 (fun w' hw' => V2 w' _ _) ?_
 (have zz:=trivial;repeat((first|clear zz|with_reducible first|refine A3 ?_|refine A5 fun _=>?_|refine A4 fun _=>?_);try simp(disch:=first|omega|assumption|((repeat(first|exact A1|exact uH|apply A2|apply uT));first|done|fail)|(simp;first|done|omega|fail))[]))
 refine D2 F6 (fun w' hw' => V2 w' _ _) ?_
 (have zz:=trivial;repeat((first|clear zz|with_reducible first|refine A3 ?_|refine A5 fun _=>?_|refine A4 fun _=>?_);try simp(disch:=first|omega|assumption|((repeat(first|exact A1|exact uH|apply A2|apply uT));first|done|fail)|(simp;first|done|omega|fail))[T5]))
 refine D2 A6L (fun w' _ => B4p w' _ _ (B0E _) (by simp)) ?_
 exact B0 rfl
def wtN (b : D7) : Nat := 8 * (max 0 (min b.2 16)).toNat
def A72 (b : D7) : List (Nat × Int) := (List.range (wtN b)).map fun n => (B6P b.1 n, b.1)
def E3 (p : List D7) : List (Nat × Int) := p.flatMap A72
def F1 (x : Nat × Int) : List Value := [.int .u64 (x.1 : Nat), .int .i64 x.2]
def ptA (x : Nat × Int) : List Value := [.agg #[.int .u64 (x.1 : Nat), .int .i64 x.2]]
abbrev A8v (b : Nat) : Value := .func (.func 159) #[] #[.pointer (some ⟨b, 0, none⟩)]
theorem B87 (w : World) (v : Value) (hv : ∃ a n c, v = .slice a n c) : Fn PR B4 108 #[v] w (Rn [] w (fun b u => u = A8v b) fun b => [.pt b (.cells #[v] 32)]) := by
 obtain ⟨a, n, c, rfl⟩ := hv
 refine A90 (TW.go (κ := false) (S := []) ?_)
 unfold A4F
 (have zz:=trivial;repeat((first|clear zz|with_reducible first|refine A3 ?_|refine A5 fun _=>?_|refine A4 fun _=>?_);try simp(disch:=first|omega|assumption|((repeat(first|exact A1|exact uH|apply A2|apply uT));first|done|fail)|(simp;first|done|omega|fail))[]))
 rename_i b
 exact V7 b rfl (by simp)
theorem B4j {p : List D7} {i : Nat} {x : D7} (hx : p[i]? = some x) : E3 (p.take (i + 1)) = E3 (p.take i) ++ A72 x := by
 rw [List.take_add_one, hx]; simp [E3]
theorem B9Z {p : List D7} {i n : Nat} {x : D7} (hx : p[i]? = some x) (hn : n < wtN x) : (E3 p)[(E3 (p.take i)).length + n]? = some (B6P x.1 n, x.1) := by
 have e : p = p.take (i + 1) ++ p.drop (i + 1) := (List.take_append_drop _ _).symm
 conv => lhs; arg 1; rw [e]
 have h2 : E3 (p.take (i + 1) ++ p.drop (i + 1)) = E3 (p.take (i + 1)) ++ E3 (p.drop (i + 1)) := by simp only [E3, List.flatMap_append]
 rw [h2, B4j hx, List.append_assoc, List.getElem?_append_right (by omega), Nat.add_sub_cancel_left, List.getElem?_append_left (by simp [A72, hn])]
 simp [A72, hn]
theorem B9D (b : Nat) (v : Value) (p : List D7) (hn : p.length ≤ 1000000) : A1F (A8v b) [.pt b (.cells #[v] 32)] (RqS v p.length (p.flatMap D5)) ((E3 p).map ptA) := by
 refine ⟨_, _, _, rfl, fun y J E hJ hE stJ stE hy w0 h0 => ?_⟩
 obtain ⟨a, c, hv, hr⟩ := (hJ _ _ _ h0).2
 subst hv
 refine A7L (A7K (TW.at (κ := true) ?_ (hJ _ _ _ h0).1))
 unfold A15
 (have zz:=trivial;repeat((first|clear zz|with_reducible first|refine A3 ?_|refine A5 fun _=>?_|refine A4 fun _=>?_);try simp(disch:=first|omega|assumption|((repeat(first|exact A1|exact uH|apply A2|apply uT));first|done|fail)|(simp;first|done|omega|fail))[]))
 refine A1Q p.length (fun i => (E3 (p.take i)).length) (fun _ => _) hJ stJ (by simpa [E3] using h0) fun i a' hi hJi hRi L hL => ?_
 by_cases hlt : i < p.length
 ·obtain ⟨_, _, hv, hr⟩ := hRi
  obtain ⟨b', o, hb, hrow, hnb⟩ := hr (by omega)
  cases hv
  subst hb
  obtain ⟨x, hx⟩ : ∃ x, p[i]? = some x := ⟨_, List.getElem?_eq_getElem hlt⟩
  have h1 := hrow.at (f := D5) (k := 2) (fun _ => rfl) hx
  rw [D5] at h1
  have hlen : (E3 (p.take (i + 1))).length = (E3 (p.take i)).length + wtN x := by rw [B4j hx]; simp [A72]
  rw [hlen] at hL
  have hw : 8 * max 0 (min x.2 16) = (wtN x : Nat) := by unfold wtN; omega
  have hwl : wtN x ≤ 128 := by unfold wtN; omega
  (have zz:=trivial;repeat((first|clear zz|with_reducible first|refine A3 ?_|refine A5 fun _=>?_|refine A4 fun _=>?_);try simp(disch:=first|omega|assumption|((repeat(first|exact A1|exact uH|apply A2|apply uT));first|done|fail)|(simp;first|done|omega|fail))[hlt, h1]))
  rename_i b4
  rw [hw]
  refine A1Q (wtN x) (fun n => (E3 (p.take i)).length + n) (fun _ => _) hJ stJ hJi fun n a2 hi2 hJn hRn L2 hL2 => ?_
  by_cases hlt2 : n < wtN x
  ·have hg := B9Z hx hlt2
   obtain ⟨hgi, hg'⟩ := List.getElem?_eq_some_iff.1 hg
   (have zz:=trivial;repeat((first|clear zz|with_reducible first|refine A3 ?_|refine A5 fun _=>?_|refine A4 fun _=>?_);try simp(disch:=first|omega|assumption|((repeat(first|exact A1|exact uH|apply A2|apply uT));first|done|fail)|(simp;first|done|omega|fail))[hlt2]))
   refine D2 A85 (fun w' _ => C0c w' x.1 n (by omega)) ?_
   (have zz:=trivial;repeat((first|clear zz|with_reducible first|refine A3 ?_|refine A5 fun _=>?_|refine A4 fun _=>?_);try simp(disch:=first|omega|assumption|((repeat(first|exact A1|exact uH|apply A2|apply uT));first|done|fail)|(simp;first|done|omega|fail))[]))
   refine A2J hJ hE stJ hy hJn (by simpa using hgi) (by rw [List.getElem_map, hg', ptA]) (fun w3 h => ?_) (fun w3 h => ?_)
   ·(have zz:=trivial;repeat((first|clear zz|with_reducible first|refine A3 ?_|refine A5 fun _=>?_|refine A4 fun _=>?_);try simp(disch:=first|omega|assumption|((repeat(first|exact A1|exact uH|apply A2|apply uT));first|done|fail)|(simp;first|done|omega|fail))[]))
    exact fun w' hw' => hL2 hlt2 w' (stJ _ _ _ _ _ h hw')
   ·(have zz:=trivial;repeat((first|clear zz|with_reducible first|refine A3 ?_|refine A5 fun _=>?_|refine A4 fun _=>?_);try simp(disch:=first|omega|assumption|((repeat(first|exact A1|exact uH|apply A2|apply uT));first|done|fail)|(simp;first|done|omega|fail))[]))
    exact A0H stE h
  ·obtain rfl : n = wtN x := by omega
   (have zz:=trivial;repeat((first|clear zz|with_reducible first|refine A3 ?_|refine A5 fun _=>?_|refine A4 fun _=>?_);try simp(disch:=first|omega|assumption|((repeat(first|exact A1|exact uH|apply A2|apply uT));first|done|fail)|(simp;first|done|omega|fail))[]))
   exact fun w' hw' => hL hlt w' (stJ _ _ _ _ _ hJn (hw'.sub (by simp)))
 ·obtain rfl : i = p.length := by omega
  rw [List.take_length] at hJi
  (have zz:=trivial;repeat((first|clear zz|with_reducible first|refine A3 ?_|refine A5 fun _=>?_|refine A4 fun _=>?_);try simp(disch:=first|omega|assumption|((repeat(first|exact A1|exact uH|apply A2|apply uT));first|done|fail)|(simp;first|done|omega|fail))[]))
  exact A0L stJ (by simpa using hJi)
end Go.Proofs.YtpbmephflllolaaGreat
