/- The proof of a given statement, a part of it (ShFlows Flows Flows2 ShPoints Points). No condition but what each lemma says. -/
import Derived.Test.YtpbmephflllolaaGreatC14
set_option linter.unusedVariables false
set_option linter.unusedSimpArgs false
namespace Go.Proofs.YtpbmephflllolaaGreat
open Go
def A6Z (X : Nat → Prop) (t0 : Value) (R : Value → WP) : WP :=
 A0 PR (A8 .min #[3, 3] 0 [t0, (.int .i64 64)]) fun t4 =>
 A0 PR (A8 .max #[3, 3] 0 [(.int .i64 0), t4]) fun t5 =>
 B2 PR X (Instr.makeSlice 94 t5 t5) fun t6 =>
 R t6
theorem A1j : A9 PR 37 := A7 Tryz.func37 (by kernel_rfl) rfl
theorem B2q {X : Nat → Prop} {t0 : Value} {R : Value → WP} {w : World} (h : A6Z X t0 R w) : Fn PR X 37 #[t0] w R := C9 (args := [t0]) mixed Tryz.func37 (by kernel_rfl) h
def A5e (X : Nat → Prop) (t0 : Value) (R : Value → WP) : WP :=
 B2 PR X (Instr.alloc 48 true (.tuple #[])) fun t3 =>
 jn (n := 0) (
 A6 PR (Instr.loadAt 48 t3) fun t15 =>
 V8 (R t15)) fun J1 =>
 B1 PR X 90 [t0] fun t7 =>
 rng (N := 2) PR X (fun t8 t9 K2 =>
 B2 PR (fun _ => False) (Instr.alloc 160 true (.tuple #[])) fun t5 =>
 B9 PR (fun _ => False) (Instr.storeAt 160 t5 t9) <|
 bgn <|
 A6 PR (Instr.loadAt 48 t3) fun t10 =>
 A0 PR (Instr.fieldAt 160 t5 1) fun t11 =>
 A6 PR (Instr.loadAt 9 t11) fun t12 =>
 B2 PR (fun _ => False) (Instr.buildSlice 48 1 #[(0, t12)]) fun t13 =>
 B2 PR (fun _ => False) (A8 .append #[48, 48] 48 [t10, t13]) fun t14 =>
 B9 PR (fun _ => False) (Instr.storeAt 48 t3 t14) <|
 K2 none) t7 (fun j => match j with | none => (J1) | some (.exit i) => (match Nat.beq i 0 with | true => (J1) | false => (E6)) | some .ret => (V8 (R (.slice none 0 0))) | some _ => E6)
theorem B0p : A9 PR 47 := A7 Tryz.func47 (by kernel_rfl) rfl
theorem B1k {X : Nat → Prop} {t0 : Value} {R : Value → WP} {w : World} (h : A5e X t0 R w) : Fn PR X 47 #[t0] w R := C9 (args := [t0]) mixed Tryz.func47 (by kernel_rfl) h
def A0Z (X : Nat → Prop) (t0 : Value) (R : Value → WP) : WP :=
 B2 PR X (Instr.box 176 t0) fun t1 =>
 A0 PR (Instr.makeFunc (.func 138) #[] #[t1]) fun t3 =>
 R t3
theorem A0M : A9 PR 90 := A7 Tryz.func90 (by kernel_rfl) rfl
theorem A55 {X : Nat → Prop} {t0 : Value} {R : Value → WP} {w : World} (h : A0Z X t0 R w) : Fn PR X 90 #[t0] w R := C9 (args := [t0]) mixed Tryz.func90 (by kernel_rfl) h
def A3E (X : Nat → Prop) (t0 t1 : Value) (R : Value → WP) : WP :=
 B2 PR X (Instr.box 9 t1) fun t3 =>
 A0 PR (Instr.makeFunc (.func 154) #[] #[t3]) fun t10 =>
 B1 PR X 153 [t0, t10] fun t11 =>
 A0 PR (Instr.extract t11 0) fun t12 =>
 A0 PR (Instr.extract t11 1) fun t13 =>
 jn (n := 1) (fun t6 =>
 R (.tuple #[t6, t13])) fun J1 =>
 gj t13 true (fun J => J t12) fun t16 =>
 gj t13 true (fun J => B1 PR X 113 [t16, (.int .i64 2)] J) fun t17 =>
 gj t13 true (fun J => A0 PR (binOp .mul 3 (.int .i64 2) t17) J) fun t18 =>
 gj t13 true (fun J => J t12) fun t19 =>
 gj t13 true (fun J => A0 PR (A8 .len #[94] 0 [t19]) J) fun t20 =>
 gj t13 true (fun J => A0 PR (binOp .gtr 3 t18 t20) J) fun t21 =>
 A0 PR (do pure (if ← asBool t13 then t21 else (.bool false))) fun t22 =>
 C3 t22 (
 B1 PR X 114 [t12] fun t24 =>
 J1 t24) (
 J1 t12)
theorem A2K : A9 PR 105 := A7 Tryz.func105 (by kernel_rfl) rfl
theorem A89 {X : Nat → Prop} {t0 t1 : Value} {R : Value → WP} {w : World} (h : A3E X t0 t1 R w) : Fn PR X 105 #[t0, t1] w R := C9 (args := [t0, t1]) mixed Tryz.func105 (by kernel_rfl) h
def A66 (X : Nat → Prop) (t0 t1 t2 t3 : Value) (R : Value → WP) : WP :=
 A0 PR (Instr.build 160 #[(0, (.int .i64 1)), (1, t1), (2, t2), (3, t3)]) fun t16 =>
 B2 PR X (Instr.alloc 160 true (.tuple #[])) fun t10 =>
 B9 PR X (Instr.storeAt 160 t10 t16) <|
 A0 PR (Instr.makeFunc (.func 155) #[] #[t10]) fun t19 =>
 B1 PR X 153 [t0, t19] fun t20 =>
 A0 PR (Instr.extract t20 0) fun t21 =>
 A0 PR (Instr.extract t20 1) fun t22 =>
 jn (n := 2) (fun t8 t9 =>
 R (.tuple #[t21, (.int .i64 0)])) fun J1 =>
 A0 PR (Op.unary .not t22) fun t24 =>
 C3 t24 (
 R (.tuple #[t21, (.int .i64 12)])) (
 J1 (.slice none 0 0) (.int .i64 0))
theorem A5d : A9 PR 106 := A7 Tryz.func106 (by kernel_rfl) rfl
theorem B37 {X : Nat → Prop} {t0 t1 t2 t3 : Value} {R : Value → WP} {w : World} (h : A66 X t0 t1 t2 t3 R w) : Fn PR X 106 #[t0, t1, t2, t3] w R := C9 (args := [t0, t1, t2, t3]) mixed Tryz.func106 (by kernel_rfl) h
def A5f (X : Nat → Prop) (t0 : Value) (R : Value → WP) : WP :=
 A0 PR (A8 .len #[94] 0 [t0]) fun t7 =>
 B1 PR X 37 [t7] fun t8 =>
 B2 PR X (Instr.alloc 176 true (.tuple #[])) fun t3 =>
 B9 PR X (Instr.storeAt 176 t3 t8) <|
 jn (n := 0) (
 A6 PR (Instr.loadAt 176 t3) fun t16 =>
 V8 (R t16)) fun J1 =>
 B1 PR X 90 [t0] fun t10 =>
 rng (N := 2) PR X (fun t11 t12 K2 =>
 B2 PR (fun _ => False) (Instr.alloc 160 true (.tuple #[])) fun t5 =>
 B9 PR (fun _ => False) (Instr.storeAt 160 t5 t12) <|
 bgn <|
 A6 PR (Instr.loadAt 176 t3) fun t13 =>
 A6 PR (Instr.loadAt 160 t5) fun t14 =>
 B1 PR (fun _ => False) 156 [t13, t14] fun t15 =>
 K2 none) t10 (fun j => match j with | none => (J1) | some (.exit i) => (match Nat.beq i 0 with | true => (J1) | false => (E6)) | some .ret => (V8 (R (.slice none 0 0))) | some _ => E6)
theorem A4n : A9 PR 114 := A7 Tryz.func114 (by kernel_rfl) rfl
theorem B14 {X : Nat → Prop} {t0 : Value} {R : Value → WP} {w : World} (h : A5f X t0 R w) : Fn PR X 114 #[t0] w R := C9 (args := [t0]) mixed Tryz.func114 (by kernel_rfl) h
def s4 (X : Nat → Prop) (t0 t1 : Value) (R : Value → WP) : WP :=
 A6 PR (Instr.loadAt 176 t1) fun t5 =>
 A0 PR (A8 .len #[176] 0 [t5]) fun t6 =>
 lp (n := 1) (fun L1 t7 =>
 A0 PR (binOp .lss 3 t7 t6) fun t8 =>
 jn (n := 0) (
 jn (n := 0) (
 A0 PR (binOp .add 3 t7 (.int .i64 1)) fun t22 =>
 L1 t22) fun J2 =>
 A0 PR (Instr.indexAt 176 t5 t7) fun t10 =>
 A6 PR (Instr.loadAt 160 t10) fun t11 =>
 B2 PR X (Instr.alloc 160 true (.tuple #[])) fun t4 =>
 B9 PR X (Instr.storeAt 160 t4 t11) <|
 A0 PR (Instr.fieldAt 160 t4 0) fun t12 =>
 A6 PR (Instr.loadAt 3 t12) fun t13 =>
 A0 PR (binOp .eql 3 t13 (.int .i64 1)) fun t14 =>
 gj t14 true (fun J => J t0) fun t16 =>
 gj t14 true (fun J => J t7) fun t17 =>
 gj t14 true (fun J => A6 PR (Instr.loadAt 160 t4) J) fun t18 =>
 gj t14 true (fun J => H9 PR X t16 [t17, t18] J) fun t19 =>
 gj t14 true (fun J => A0 PR (Op.unary .not t19) J) fun t20 =>
 A0 PR (do pure (if ← asBool t14 then t20 else (.bool false))) fun t21 =>
 C3 t21 (
 R (.tuple #[])) (
 J2)) fun J3 =>
 C3 t8 (
 J3) (
 R (.tuple #[]))) (.int .i64 0)
theorem A24 : A9 PR 138 := A7 Tryz.func138 (by kernel_rfl) rfl
theorem A3e {X : Nat → Prop} {t0 t1 : Value} {R : Value → WP} {w : World} (h : s4 X t0 t1 R w) : Fn PR X 138 #[t0, t1] w R := C9 (args := [t0, t1]) mixed Tryz.func138 (by kernel_rfl) h
theorem A3n {X : Nat → Prop} {t0 t1 : Value} {K : Value → WP} {w : World} (h : Fn PR X 138 #[t0, t1] w K) : w7 PR X 138 [t0, t1] K w := ⟨A24, h⟩
def A2L (X : Nat → Prop) (t0 t1 : Value) (R : Value → WP) : WP :=
 B1 PR X 111 [t0] fun t8 =>
 jn (n := 2) (fun t4 t5 =>
 R (.tuple #[t8, (.bool true)])) fun J1 =>
 H9 PR X t1 [t8] fun t11 =>
 A0 PR (Op.unary .not t11) fun t12 =>
 C3 t12 (
 R (.tuple #[t0, (.bool false)])) (
 J1 (.slice none 0 0) (.bool false))
theorem A1k : A9 PR 153 := A7 Tryz.func153 (by kernel_rfl) rfl
theorem A8D {X : Nat → Prop} {t0 t1 : Value} {R : Value → WP} {w : World} (h : A2L X t0 t1 R w) : Fn PR X 153 #[t0, t1] w R := C9 (args := [t0, t1]) mixed Tryz.func153 (by kernel_rfl) h
def A1Y (X : Nat → Prop) (t0 t1 : Value) (R : Value → WP) : WP :=
 A6 PR (Instr.loadAt 9 t1) fun t6 =>
 B1 PR X 150 [t0, t6] fun t7 =>
 jn (n := 1) (fun t3 =>
 A0 PR (Instr.build 160 #[(0, (.int .i64 2))]) fun t12 =>
 A0 PR (Instr.indexAt 176 t0 t7) fun t13 =>
 B9 PR X (Instr.storeAt 160 t13 t12) <|
 R (.bool true)) fun J1 =>
 A0 PR (binOp .lss 3 t7 (.int .i64 0)) fun t9 =>
 C3 t9 (
 R (.bool false)) (
 J1 (.bool false))
theorem A6A : A9 PR 154 := A7 Tryz.func154 (by kernel_rfl) rfl
theorem A60 {X : Nat → Prop} {t0 t1 : Value} {R : Value → WP} {w : World} (h : A1Y X t0 t1 R w) : Fn PR X 154 #[t0, t1] w R := C9 (args := [t0, t1]) mixed Tryz.func154 (by kernel_rfl) h
def A28 (X : Nat → Prop) (t0 t1 : Value) (R : Value → WP) : WP :=
 A6 PR (Instr.loadAt 160 t1) fun t5 =>
 B1 PR X 156 [t0, t5] fun t6 =>
 R t6
theorem A8Q : A9 PR 155 := A7 Tryz.func155 (by kernel_rfl) rfl
theorem A9s {X : Nat → Prop} {t0 t1 : Value} {R : Value → WP} {w : World} (h : A28 X t0 t1 R w) : Fn PR X 155 #[t0, t1] w R := C9 (args := [t0, t1]) mixed Tryz.func155 (by kernel_rfl) h
def A1E (X : Nat → Prop) (t0 t1 : Value) (R : Value → WP) : WP :=
 B2 PR X (Instr.box 160 t1) fun t3 =>
 A0 PR (Instr.fieldAt 160 t3 1) fun t7 =>
 A6 PR (Instr.loadAt 9 t7) fun t8 =>
 B1 PR X 150 [t0, t8] fun t9 =>
 jn (n := 1) (fun t5 =>
 jn (n := 1) (fun t4 =>
 A6 PR (Instr.loadAt 160 t3) fun t20 =>
 A0 PR (Instr.indexAt 176 t0 t5) fun t21 =>
 B9 PR X (Instr.storeAt 160 t21 t20) <|
 R (.bool true)) fun J1 =>
 A0 PR (binOp .lss 3 t5 (.int .i64 0)) fun t17 =>
 C3 t17 (
 R (.bool false)) (
 J1 (.bool false))) fun J2 =>
 A0 PR (binOp .lss 3 t9 (.int .i64 0)) fun t11 =>
 C3 t11 (
 A0 PR (Instr.fieldAt 160 t3 1) fun t13 =>
 A6 PR (Instr.loadAt 9 t13) fun t14 =>
 B1 PR X 201 [t0, t14] fun t15 =>
 J2 t15) (
 J2 t9)
theorem A0b : A9 PR 156 := A7 Tryz.func156 (by kernel_rfl) rfl
theorem A7G {X : Nat → Prop} {t0 t1 : Value} {R : Value → WP} {w : World} (h : A1E X t0 t1 R w) : Fn PR X 156 #[t0, t1] w R := C9 (args := [t0, t1]) mixed Tryz.func156 (by kernel_rfl) h
end Go.Proofs.YtpbmephflllolaaGreat
namespace Go.Proofs.YtpbmephflllolaaGreat
open Go
theorem B01 (l : List EnV) : (l.flatMap E5).all plain = true := by
 rw [List.all_eq_true]; intro v hv; rw [List.mem_flatMap] at hv
 obtain ⟨x, _, hx⟩ := hv
 simp only [E5, List.mem_cons, List.not_mem_nil, or_false] at hx
 rcases hx with rfl | rfl | rfl | rfl <;> rfl
theorem A1H {α : Type} {f : α → List Value} {k : Nat} (hk : ∀ x, (f x).length = k) (l : List α) (i : Nat) (y : α) (hi : i < l.length) : u4 (l.flatMap f) (i * k) (f y) = (l.set i y).flatMap f := by
 have e1 := B8T hk l i
 have e2 := A6r hk l (i + 1)
 rw [Nat.add_mul, Nat.one_mul] at e2
 rw [u4, hk, e1, e2, List.set_eq_take_append_cons_drop, if_pos hi, List.flatMap_append, List.flatMap_cons, List.append_assoc]
abbrev E3 (v : Value) (l : List EnV) : Res := .own 160 4 v l.length (l.flatMap E5)
def newE (n : Nat) : List EnV := List.replicate (min n 64) c9
theorem C3l (n : Nat) : (Builtin.zeroCells (Value.agg #[.int .i64 0, .string P2, .int .i64 0, .int .i64 0]).cells n).toList = (List.replicate n c9).flatMap E5 := by
 have h4 : (Value.agg #[.int .i64 0, .string P2, .int .i64 0, .int .i64 0]).cells.size = 4 := rfl
 have hz : (Builtin.zeroCells (Value.agg #[.int .i64 0, .string P2, .int .i64 0, .int .i64 0]).cells n).toList.length = n * 4 := by simp [size_zeroCells]
 have hr : ((List.replicate n c9).flatMap E5).length = n * 4 := by rw [H4 (k := 4) fun _ => rfl]; simp
 apply List.ext_getElem (by rw [hz, hr])
 intro i h1 h2
 rw [hz] at h1
 have hf := T0 (f := E5) (k := 4) (fun _ => rfl) (List.replicate n c9) (i / 4) (i % 4) (by omega)
 rw [show i / 4 * 4 + i % 4 = i by omega, List.getElem?_eq_getElem h2, List.getElem?_replicate_of_lt (by omega)] at hf
 have e : (Builtin.zeroCells (Value.agg #[.int .i64 0, .string P2, .int .i64 0, .int .i64 0]).cells n).toList[i]'(by rw [hz]; exact h1) = (Value.agg #[.int .i64 0, .string P2, .int .i64 0, .int .i64 0]).cells[i % 4]! := by
  simp [Builtin.zeroCells]
 rw [e]
 have h3 : i % 4 = 0 ∨ i % 4 = 1 ∨ i % 4 = 2 ∨ i % 4 = 3 := by omega
 rcases h3 with h3 | h3 | h3 | h3 <;> (rw [h3] at hf ⊢; simp [E5, c9] at hf ⊢; exact hf.symm)
theorem A32 (w : World) (n : Nat) (hn : n ≤ 1000000) : Fn PR B4 37 #[.int .i64 (n : Int)] w (Rn [] w (fun r u => u = r) fun r => [E3 r (newE n)]) := by
 refine B2q (TW.go (κ := false) (S := []) ?_)
 unfold A6Z
 have e : max 0 (min (n : Int) 64) = ((min n 64 : Nat) : Int) := by omega
 (have zz:=trivial;repeat((first|clear zz|with_reducible first|refine A3 ?_|refine A5 fun _=>?_|refine A4 fun _=>?_);try simp(disch:=first|omega|assumption|((repeat(first|exact A1|exact uH|apply A2|apply uT));first|done|fail)|(simp;first|done|omega|fail))[e]))
 refine B93 (by omega) (by omega) (by omega) (by omega) fun bs => ?_
 rw [Int.toNat_natCast]
 refine Z6 _ rfl ?_
 simp only [E3, newE, List.length_replicate, ← C3l]
 exact List.Sublist.refl _
def G7 (l : List EnV) (x : EnV) : Option (List EnV) :=
 let at0 := E0 l x.key
 let at1 := if at0 < 0 then V9 l x.key else at0
 if at1 < 0 then none else some (l.set at1.toNat x)
theorem B9B {key : ByteArray} {n : Nat} : ∀ L : List (Nat × EnV), (∀ p ∈ L, p.1 < n) → 0 ≤ H5 key L → (H5 key L).toNat < n := by
 intro L
 induction L with
 | nil => intro _ h; simp [H5] at h
 | cons p L ih =>
  intro h h0
  simp only [H5] at h0 ⊢
  split
  ·rw [if_pos ‹_›] at h0; simp at h0
  ·rw [if_neg ‹_›] at h0
   split
   ·simpa using h p (by simp)
   ·rw [if_neg ‹_›] at h0; exact ih (fun q hq => h q (by simp [hq])) h0
theorem B9m {n : Nat} : ∀ L : List (Nat × EnV), (∀ p ∈ L, p.1 < n) → 0 ≤ M9 L → (M9 L).toNat < n := by
 intro L
 induction L with
 | nil => intro _ h; simp [M9] at h
 | cons p L ih =>
  intro h h0
  simp only [M9] at h0 ⊢
  split
  ·rw [if_pos ‹_›] at h0; exact ih (fun q hq => h q (by simp [hq])) h0
  ·simpa using h p (by simp)
theorem B42 (l : List EnV) (key : ByteArray) : ∀ p ∈ Q4 l key, p.1 < l.length := by
 intro p hp
 obtain ⟨i, hi, rfl⟩ := List.mem_map.1 hp
 exact Nat.mod_lt _ (by simp at hi; omega)
theorem A0k {l : List EnV} {key : ByteArray} (h : 0 ≤ E0 l key) : (E0 l key).toNat < l.length := B9B _ (B42 l key) h
theorem A8g {l : List EnV} {key : ByteArray} (h : 0 ≤ V9 l key) : (V9 l key).toNat < l.length := by
 unfold V9 at h ⊢
 split
 ·rw [if_pos ‹_›] at h; simp at h
 ·rw [if_neg ‹_›] at h; exact B9m _ (B42 l key) h
theorem A5F {l m : List EnV} {x : EnV} (h : G7 l x = some m) : m.length = l.length := by
 unfold G7 at h
 simp only at h
 by_cases c : (if E0 l x.key < 0 then V9 l x.key else E0 l x.key) < 0
 ·rw [if_pos c] at h; cases h
 ·rw [if_neg c] at h; injection h with h; rw [← h]; simp
theorem B5D (w : World) (v : Value) (l : List EnV) (x : EnV) (hk : x.key.size < 2 ^ 60) (hn : l.length ≤ 1000000) (hw : LW false (B3 [E3 v l]) w [E3 v l] w) :
  Fn PR B4 156 #[v, .agg #[.int .i64 x.st, .string x.key, .int .i64 x.bk, .int .i64 x.dl]] w (Rn (B3 [E3 v l]) w (fun (_ : Unit) u => u = .bool (G7 l x).isSome) fun _ => [E3 v ((G7 l x).getD l)]) := by
 refine A7G (TW.goH (κ := false) (S := B3 [E3 v l]) ?_ hw)
 unfold A1E
 (have zz:=trivial;repeat((first|clear zz|with_reducible first|refine A3 ?_|refine A5 fun _=>?_|refine A4 fun _=>?_);try simp(disch:=first|omega|assumption|((repeat(first|exact A1|exact uH|apply A2|apply uT));first|done|fail)|(simp;first|done|omega|fail))[]))
 rename_i bx
 refine C4 d6 (fun w' hw' => l4 w' v l x.key hk hn (L5.own (by (repeat constructor)) w' hw')) ?_
 have Z1 : ∀ r : Int, 0 ≤ r → r.toNat < l.length → G7 l x = some (l.set r.toNat x) → TW false (B3 [E3 v l]) w [.pt bx (.cells #[.int .i64 x.st, .string x.key, .int .i64 x.bk, .int .i64 x.dl] 160), E3 v l]
   (A0 PR (Instr.indexAt 176 v (.int .i64 r)) fun t21 => B9 PR B4 (Instr.storeAt 160 t21 (.agg #[.int .i64 x.st, .string x.key, .int .i64 x.bk, .int .i64 x.dl])) <|
    Rn (B3 [E3 v l]) w (fun (_ : Unit) u => u = .bool (G7 l x).isSome) (fun _ => [E3 v ((G7 l x).getD l)]) (.bool true)) := by
  intro r h0 hi hp
  obtain ⟨i, rfl⟩ : ∃ i : Nat, r = i := ⟨r.toNat, by omega⟩
  rw [Int.toNat_natCast] at hi hp
  refine p4 (e := 160) (k := 4) (v := v) (q := l.length) (xs := l.flatMap E5) (by (repeat constructor)) (by omega) ?_
  rintro g c rfl
  (have zz:=trivial;repeat((first|clear zz|with_reducible first|refine A3 ?_|refine A5 fun _=>?_|refine A4 fun _=>?_);try simp(disch:=first|omega|assumption|((repeat(first|exact A1|exact uH|apply A2|apply uT));first|done|fail)|(simp;first|done|omega|fail))[hi]))
  refine f8 (by (repeat constructor)) (by simp) (by rw [p7]; omega) (by simp) ?_
  refine B8 () (by simp [hp]) ?_
  have := A1H (f := E5) (k := 4) (fun _ => rfl) l i x hi
  simp only [hp, Option.getD_some, E3, List.length_set, ← this]
  (repeat' constructor)
 by_cases c1 : E0 l x.key < 0
 ·(have zz:=trivial;repeat((first|clear zz|with_reducible first|refine A3 ?_|refine A5 fun _=>?_|refine A4 fun _=>?_);try simp(disch:=first|omega|assumption|((repeat(first|exact A1|exact uH|apply A2|apply uT));first|done|fail)|(simp;first|done|omega|fail))[c1]))
  refine C4 B0V (fun w' hw' => B26 w' v l x.key hk hn (L5.own (by (repeat constructor)) w' hw')) ?_
  by_cases c2 : V9 l x.key < 0
  ·have hp : G7 l x = none := by simp [G7, c1, c2]
   (have zz:=trivial;repeat((first|clear zz|with_reducible first|refine A3 ?_|refine A5 fun _=>?_|refine A4 fun _=>?_);try simp(disch:=first|omega|assumption|((repeat(first|exact A1|exact uH|apply A2|apply uT));first|done|fail)|(simp;first|done|omega|fail))[c2]))
   exact B8 () (by simp [hp]) (by simp only [hp, Option.getD_none]; (repeat' constructor))
  ·have hp : G7 l x = some (l.set (V9 l x.key).toNat x) := by simp [G7, c1, c2]
   have := Z1 _ (by omega) (A8g (by omega)) hp
   simp(disch:=first|omega|assumption|((repeat(first|exact A1|exact uH|apply A2|apply uT));first|done|fail)|(simp;first|done|omega|fail))[c2]
   exact this
 ·have hp : G7 l x = some (l.set (E0 l x.key).toNat x) := by simp [G7, c1]
  have := Z1 _ (by omega) (A0k (by omega)) hp
  simp(disch:=first|omega|assumption|((repeat(first|exact A1|exact uH|apply A2|apply uT));first|done|fail)|(simp;first|done|omega|fail))[c1]
  exact this
def N9 : Nat → List EnV → List (Nat × EnV)
 | _, [] => []
 | i, x :: r => if x.st = 1 then (i, x) :: N9 (i + 1) r else N9 (i + 1) r
def G2 (l : List EnV) : List (Nat × EnV) := N9 0 l
theorem B1J (i : Nat) (l m : List EnV) : N9 i (l ++ m) = N9 i l ++ N9 (i + l.length) m := by
 induction l generalizing i with
 | nil => simp [N9]
 | cons x l ih =>
  simp only [List.cons_append, N9, ih, List.length_cons]
  split
  ·simp only [List.cons_append]; congr 3; omega
  ·congr 2; omega
theorem B3D {l : List EnV} {i : Nat} {x : EnV} (hx : l[i]? = some x) : G2 (l.take (i + 1)) = G2 (l.take i) ++ (if x.st = 1 then [(i, x)] else []) := by
 obtain ⟨hi, _⟩ := List.getElem?_eq_some_iff.1 hx
 rw [List.take_add_one, hx, G2, B1J, Option.toList_some, List.length_take, Nat.zero_add, Nat.min_eq_left (by omega)]
 simp only [N9, G2]
theorem B79 {l : List EnV} {i : Nat} {x : EnV} (hx : l[i]? = some x) (h : x.st = 1) : (G2 l)[(G2 (l.take i)).length]? = some (i, x) := by
 have e : l = l.take (i + 1) ++ l.drop (i + 1) := (List.take_append_drop _ _).symm
 conv => lhs; arg 1; rw [e]
 rw [G2, B1J, ← G2, B3D hx, if_pos h, List.append_assoc, List.getElem?_append_right (by omega)]
 simp
abbrev C0r (b : Nat) : Value := .func (.func 138) #[] #[.pointer (some ⟨b, 0, none⟩)]
theorem B5W (w : World) (v : Value) (hv : ∃ a n c, v = .slice a n c) : Fn PR B4 90 #[v] w (Rn [] w (fun b u => u = C0r b) fun b => [.pt b (.cells #[v] 176)]) := by
 obtain ⟨a, n, c, rfl⟩ := hv
 refine A55 (TW.go (κ := false) (S := []) ?_)
 unfold A0Z
 (have zz:=trivial;repeat((first|clear zz|with_reducible first|refine A3 ?_|refine A5 fun _=>?_|refine A4 fun _=>?_);try simp(disch:=first|omega|assumption|((repeat(first|exact A1|exact uH|apply A2|apply uT));first|done|fail)|(simp;first|done|omega|fail))[]))
 rename_i b
 exact Z6 b rfl (by simp)
theorem B4w (b : Nat) (v : Value) (l : List EnV) (hn : l.length ≤ 1000000) : A1x (C0r b) [.pt b (.cells #[v] 176)] (RqS v l.length (l.flatMap E5)) ((G2 l).map A3j) := by
 refine ⟨_, _, _, rfl, fun y J E hJ hE stJ stE hy w0 h0 => ?_⟩
 obtain ⟨a, c, hv, hr⟩ := (hJ _ _ _ h0).2
 subst hv
 refine A3n (A3e (TW.at (κ := true) ?_ (hJ _ _ _ h0).1))
 unfold s4
 (have zz:=trivial;repeat((first|clear zz|with_reducible first|refine A3 ?_|refine A5 fun _=>?_|refine A4 fun _=>?_);try simp(disch:=first|omega|assumption|((repeat(first|exact A1|exact uH|apply A2|apply uT));first|done|fail)|(simp;first|done|omega|fail))[]))
 refine A2Q l.length (fun i => (G2 (l.take i)).length) (fun _ => _) hJ stJ (by simpa [G2, N9] using h0) fun i a' hi hJi hRi L hL => ?_
 by_cases hlt : i < l.length
 ·obtain ⟨_, _, hv, hr⟩ := hRi
  obtain ⟨b', o, hb, hrow, hnb⟩ := hr (by omega)
  cases hv
  subst hb
  obtain ⟨x, hx⟩ : ∃ x, l[i]? = some x := ⟨_, List.getElem?_eq_getElem hlt⟩
  have h1 := hrow.at (f := E5) (k := 4) (fun _ => rfl) hx
  rw [E5] at h1
  have hat := B3D hx
  by_cases c1 : x.st = 1
  ·have hg := B79 hx c1
   rw [if_pos c1] at hat
   obtain ⟨hgi, hg'⟩ := List.getElem?_eq_some_iff.1 hg
   have hlen : (G2 (l.take (i + 1))).length = (G2 (l.take i)).length + 1 := by rw [hat]; simp
   rw [hlen] at hL
   (have zz:=trivial;repeat((first|clear zz|with_reducible first|refine A3 ?_|refine A5 fun _=>?_|refine A4 fun _=>?_);try simp(disch:=first|omega|assumption|((repeat(first|exact A1|exact uH|apply A2|apply uT));first|done|fail)|(simp;first|done|omega|fail))[hlt, h1, c1]))
   refine A3M hJ hE stJ hy hJi (by simpa using hgi) (by rw [List.getElem_map, hg', A3j, c1]) (fun w3 h => ?_) (fun w3 h => ?_)
   ·(have zz:=trivial;repeat((first|clear zz|with_reducible first|refine A3 ?_|refine A5 fun _=>?_|refine A4 fun _=>?_);try simp(disch:=first|omega|assumption|((repeat(first|exact A1|exact uH|apply A2|apply uT));first|done|fail)|(simp;first|done|omega|fail))[]))
    exact fun w' hw' => hL hlt w' (stJ _ _ _ _ _ h (hw'.sub (by simp)))
   ·(have zz:=trivial;repeat((first|clear zz|with_reducible first|refine A3 ?_|refine A5 fun _=>?_|refine A4 fun _=>?_);try simp(disch:=first|omega|assumption|((repeat(first|exact A1|exact uH|apply A2|apply uT));first|done|fail)|(simp;first|done|omega|fail))[]))
    exact A1C stE h
  ·rw [if_neg c1, List.append_nil] at hat
   rw [hat] at hL
   (have zz:=trivial;repeat((first|clear zz|with_reducible first|refine A3 ?_|refine A5 fun _=>?_|refine A4 fun _=>?_);try simp(disch:=first|omega|assumption|((repeat(first|exact A1|exact uH|apply A2|apply uT));first|done|fail)|(simp;first|done|omega|fail))[hlt, h1, c1]))
   exact fun w' hw' => hL hlt w' (stJ _ _ _ _ _ hJi (hw'.sub (by simp)))
 ·obtain rfl : i = l.length := by omega
  rw [List.take_length] at hJi
  (have zz:=trivial;repeat((first|clear zz|with_reducible first|refine A3 ?_|refine A5 fun _=>?_|refine A4 fun _=>?_);try simp(disch:=first|omega|assumption|((repeat(first|exact A1|exact uH|apply A2|apply uT));first|done|fail)|(simp;first|done|omega|fail))[]))
  exact A09 stJ (by simpa using hJi)
end Go.Proofs.YtpbmephflllolaaGreat
namespace Go.Proofs.YtpbmephflllolaaGreat
open Go
theorem B5s {w : World} {b : Nat} {T : TypeId} {l : List Value} (h : bl w b = some (.cells l.toArray T (0, 0))) : b9 w b 0 l.length = some l := A2B fun i hi => by
 rw [H6 h]; simp
theorem A9x (w : World) (v : Value) (l : List EnV) (f : FuncId) (cap : List Value) (o : Option (List EnV)) (ho : ∀ m, o = some m → m.length = l.length) (hn : l.length ≤ 1000000) (hv : F5 w v l.length (l.flatMap E5)) (he : A9 PR f)
  (hf : ∀ w' r, KS false [] w w' → (∀ b ∈ B3 [E3 r l], sz w ≤ b) → LW false (B3 [E3 r l]) w' [E3 r l] w' → Fn PR B4 f (r :: cap).toArray w' (Rn (B3 [E3 r l]) w' (fun (_ : Unit) u => u = .bool o.isSome) fun _ => [E3 r (o.getD l)])) :
  Fn PR B4 153 #[v, .func (.func f) #[] cap.toArray] w (Rn [] w (fun r u => u = .tuple #[if o.isSome then r else v, .bool o.isSome]) fun r => [E3 r (o.getD l)]) := by
 refine A8D (TW.go (κ := false) (S := []) ?_)
 unfold A2L
 refine H2 Q8 (fun w' hw' => B1P w' v l.length (l.flatMap E5) hn (p7 l) (B01 l) (hv.ks hw'.ks (by simp))) ?_
 rintro _ r rfl
 (have zz:=trivial;repeat((first|clear zz|with_reducible first|refine A3 ?_|refine A5 fun _=>?_|refine A4 fun _=>?_);try simp(disch:=first|omega|assumption|((repeat(first|exact A1|exact uH|apply A2|apply uT));first|done|fail)|(simp;first|done|omega|fail))[]))
 refine D8 (Hc := [E3 r l]) he (fun w' hw hs => hf w' r hw.ks (fun b hb => by
  obtain ⟨s, hs1, hb1⟩ := G6.1 hb
  rcases (hw.own s (List.mem_append_left _ hs1) b hb1).1 with h | h
  ·simp at h
  ·exact h) hs) (by (repeat' constructor)) ?_
 rintro _ _ rfl
 cases o with
 | none =>
  (have zz:=trivial;repeat((first|clear zz|with_reducible first|refine A3 ?_|refine A5 fun _=>?_|refine A4 fun _=>?_);try simp(disch:=first|omega|assumption|((repeat(first|exact A1|exact uH|apply A2|apply uT));first|done|fail)|(simp;first|done|omega|fail))[]))
  exact B8 r rfl (by (repeat' constructor))
 | some m =>
  (have zz:=trivial;repeat((first|clear zz|with_reducible first|refine A3 ?_|refine A5 fun _=>?_|refine A4 fun _=>?_);try simp(disch:=first|omega|assumption|((repeat(first|exact A1|exact uH|apply A2|apply uT));first|done|fail)|(simp;first|done|omega|fail))[]))
  exact B8 r rfl (by (repeat' constructor))
theorem C0G (w : World) (v : Value) (l : List EnV) (x : EnV) (b : Nat) (hk : x.key.size < 2 ^ 60) (hn : l.length ≤ 1000000) (hx : b9 w b 0 4 = some (E5 x)) (hb : b ∉ B3 [E3 v l]) (hw : LW false (B3 [E3 v l]) w [E3 v l] w) :
  Fn PR B4 155 #[v, .pointer (some ⟨b, 0, none⟩)] w (Rn (B3 [E3 v l]) w (fun (_ : Unit) u => u = .bool (G7 l x).isSome) fun _ => [E3 v ((G7 l x).getD l)]) := by
 refine A9s (TW.goH (κ := false) (S := B3 [E3 v l]) ?_ hw)
 unfold A28
 rw [E5] at hx
 (have zz:=trivial;repeat((first|clear zz|with_reducible first|refine A3 ?_|refine A5 fun _=>?_|refine A4 fun _=>?_);try simp(disch:=first|omega|assumption|((repeat(first|exact A1|exact uH|apply A2|apply uT));first|done|fail)|(simp;first|done|omega|fail))[hx]))
 refine D8 (Hc := [E3 v l]) A0b (fun w' hw hs => B5D w' v l x hk hn hs) (by (repeat' constructor)) ?_
 rintro _ _ rfl
 exact B8 () rfl (by (repeat' constructor))
theorem A7v (w : World) (v : Value) (l : List EnV) (key : ByteArray) (bk dl : Int) (hk : key.size < 2 ^ 60) (hn : l.length ≤ 1000000) (hv : F5 w v l.length (l.flatMap E5)) :
  Fn PR B4 106 #[v, .string key, .int .i64 bk, .int .i64 dl] w (Rn [] w (fun r u => u = .tuple #[if (G7 l ⟨1, key, bk, dl⟩).isSome then r else v, .int .i64 (if (G7 l ⟨1, key, bk, dl⟩).isSome then 0 else 12)]) fun r => [E3 r ((G7 l ⟨1, key, bk, dl⟩).getD l)]) := by
 refine B37 (TW.go (κ := false) (S := []) ?_)
 unfold A66
 (have zz:=trivial;repeat((first|clear zz|with_reducible first|refine A3 ?_|refine A5 fun _=>?_|refine A4 fun _=>?_);try simp(disch:=first|omega|assumption|((repeat(first|exact A1|exact uH|apply A2|apply uT));first|done|fail)|(simp;first|done|omega|fail))[]))
 rename_i b
 refine H2 A1k (fun w' hw' => A9x w' v l 155 [.pointer (some ⟨b, 0, none⟩)] (G7 l ⟨1, key, bk, dl⟩) (fun m h => A5F h) hn (hv.ks hw'.ks (by simp)) A8Q
  fun w2 r h hf hr => ?_) ?_
 ·have hp := hw'.pt (b := b) (by (repeat constructor))
  have hb : b < sz w' := G9 hp
  refine C0G w2 r l ⟨1, key, bk, dl⟩ b hk hn ?_ (fun hc => by have := hf b hc; omega) hr
  have hp2 := h.2.1 b _ (by simp) rfl hp
  exact B5s hp2
 ·rintro r _ rfl
  cases h : G7 l ⟨1, key, bk, dl⟩ with
  | none =>
   (have zz:=trivial;repeat((first|clear zz|with_reducible first|refine A3 ?_|refine A5 fun _=>?_|refine A4 fun _=>?_);try simp(disch:=first|omega|assumption|((repeat(first|exact A1|exact uH|apply A2|apply uT));first|done|fail)|(simp;first|done|omega|fail))[]))
   exact B8 r (by simp) (by (repeat' constructor))
  | some m =>
   (have zz:=trivial;repeat((first|clear zz|with_reducible first|refine A3 ?_|refine A5 fun _=>?_|refine A4 fun _=>?_);try simp(disch:=first|omega|assumption|((repeat(first|exact A1|exact uH|apply A2|apply uT));first|done|fail)|(simp;first|done|omega|fail))[]))
   exact B8 r (by simp) (by (repeat' constructor))
def S1 : EnV := ⟨2, P2, 0, 0⟩
def L6 (l : List EnV) : Prop := ∀ x ∈ l, x.key.size < 2 ^ 60
def W4 (acc : List EnV) (x : EnV) : List EnV := (G7 acc x).getD acc
theorem B80 (acc : List EnV) (x : EnV) : (W4 acc x).length = acc.length := by
 unfold W4
 cases h : G7 acc x with
 | none => rfl
 | some m => exact A5F h
def d4 (l : List EnV) : List EnV := (G2 l).foldl (fun acc p => W4 acc p.2) (newE l.length)
theorem B3Y (L : List (Nat × EnV)) (a : List EnV) : (L.foldl (fun acc p => W4 acc p.2) a).length = a.length := by
 induction L generalizing a with
 | nil => rfl
 | cons p L ih => rw [List.foldl_cons, ih, B80]
theorem A5Y (n : Nat) : (newE n).length = min n 64 := by simp [newE]
theorem B1F {i : Nat} {l : List EnV} : ∀ p ∈ N9 i l, p.2 ∈ l ∧ p.2.st = 1 := by
 induction l generalizing i with
 | nil => intro p hp; cases hp
 | cons x l ih =>
  intro p hp
  simp only [N9] at hp
  split at hp
  ·rcases List.mem_cons.1 hp with rfl | hp
   ·exact ⟨by simp, ‹_›⟩
   ·obtain ⟨h1, h2⟩ := ih p hp; exact ⟨by simp [h1], h2⟩
  ·obtain ⟨h1, h2⟩ := ih p hp; exact ⟨by simp [h1], h2⟩
theorem Y2 {κ : Bool} {S : List Nat} {w0 : World} {H : List Res} {K0 : WP} {e : TypeId} {k : Nat} {v : Value} {q : Nat} {xs : List Value} (hm : Res.own e k v q xs ∈ H) (h : v.cells = #[v] → v.cells.size = 1 → v.cells.toList.all plain = true → TW κ S w0 H K0) : TW κ S w0 H K0 := fun w hw => by
 obtain ⟨a, c, rfl⟩ := M0.form (hw.hold _ hm); exact h rfl rfl rfl w hw
theorem Y6 {κ : Bool} {S : List Nat} {w0 : World} {H : List Res} {K0 : WP} {e : TypeId} {k : Nat} {v : Value} {q : Nat} {xs : List Value} (hm : Res.own e k v q xs ∈ H) (h : ∀ a c, v = .slice a q c → TW κ S w0 H K0) : TW κ S w0 H K0 := fun w hw => by
 obtain ⟨a, c, rfl⟩ := M0.form (hw.hold _ hm); exact h a c rfl w hw
theorem B4u (w : World) (v : Value) (l : List EnV) (hks : L6 l) (hn : l.length ≤ 1000000) (hv : F5 w v l.length (l.flatMap E5)) :
  Fn PR B4 114 #[v] w (Rn [] w (fun r u => u = r) fun r => [E3 r (d4 l)]) := by
 refine B14 (TW.go (κ := false) (S := []) ?_)
 unfold A5f
 obtain ⟨a, c, rfl, _⟩ := hv.form
 (have zz:=trivial;repeat((first|clear zz|with_reducible first|refine A3 ?_|refine A5 fun _=>?_|refine A4 fun _=>?_);try simp(disch:=first|omega|assumption|((repeat(first|exact A1|exact uH|apply A2|apply uT));first|done|fail)|(simp;first|done|omega|fail))[]))
 refine H2 A1j (fun w' _ => A32 w' l.length hn) ?_
 rintro _ r rfl
 refine Y2 (e := 160) (k := 4) (v := r) (q := (newE l.length).length) (xs := (newE l.length).flatMap E5) (by (repeat constructor)) fun hr1 hr2 hr3 => ?_
 (have zz:=trivial;repeat((first|clear zz|with_reducible first|refine A3 ?_|refine A5 fun _=>?_|refine A4 fun _=>?_);try simp(disch:=first|omega|assumption|((repeat(first|exact A1|exact uH|apply A2|apply uT));first|done|fail)|(simp;first|done|omega|fail))[hr1]))
 rename_i bt
 refine H2 A0M (fun w' _ => B5W w' (.slice a l.length c) ⟨_, _, _, rfl⟩) ?_
 rintro b _ rfl
 refine A0B (B4w b (.slice a l.length c) l hn) (A5M _) (fun i (acc : List EnV) => acc = ((G2 l).take i).foldl (fun acc p => W4 acc p.2) (newE l.length)) (fun _ acc => [.pt bt (.cells #[r] 176), E3 r acc])
  (fun c (y : Unit) => False) (fun y => []) (newE l.length) (by simp) ?_ ?_ ?_ ?_ (by simp)
 ·intro i _ F w1 _ hw
  exact RqS.of hv (fun h => by rw [p7]; omega) hw
 ·rintro i hi acc F hψ K' hK _
  have hi' : i < (G2 l).length := by simpa using hi
  have hm : (G2 l)[i] ∈ G2 l := List.getElem_mem hi'
  have hst : ((G2 l).take (i + 1)).foldl (fun acc p => W4 acc p.2) (newE l.length) = W4 acc (G2 l)[i].2 := by
   rw [List.take_add_one, List.getElem?_eq_getElem hi', Option.toList_some, List.foldl_append, ← hψ]; rfl
  have hlen : acc.length ≤ 64 := by rw [hψ, B3Y, A5Y]; omega
  simp only [List.getElem_map]
  generalize (G2 l)[i] = p at *
  have hkp := hks p.2 (B1F p hm).1
  simp only [A3j, VF.app]
  (have zz:=trivial;repeat((first|clear zz|with_reducible first|refine A3 ?_|refine A5 fun _=>?_|refine A4 fun _=>?_);try simp(disch:=first|omega|assumption|((repeat(first|exact A1|exact uH|apply A2|apply uT));first|done|fail)|(simp;first|done|omega|fail))[]))
  refine D8 (Hc := [E3 r acc]) A0b (fun w' hw hs => B5D w' r acc p.2 hkp (by omega) hs) (by (repeat' constructor)) ?_
  rintro _ _ rfl
  refine TW.sub (TW.perm (hK (W4 acc p.2) hst.symm) ?_) (H' := E3 r (W4 acc p.2) :: .pt bt (.cells #[r] 176) :: F) ?_
  ·exact List.Perm.swap ..
  ·simp only [W4]; ((try simp only [List.cons_append, List.nil_append, List.append_assoc]); (repeat (first | exact List.Sublist.refl _ | exact List.nil_sublist _ | with_reducible apply List.Sublist.cons_cons | apply List.Sublist.cons)); first | done | fail)
 ·intro acc hψ
  simp only [List.length_map, List.take_length] at hψ
  subst hψ
  (have zz:=trivial;repeat((first|clear zz|with_reducible first|refine A3 ?_|refine A5 fun _=>?_|refine A4 fun _=>?_);try simp(disch:=first|omega|assumption|((repeat(first|exact A1|exact uH|apply A2|apply uT));first|done|fail)|(simp;first|done|omega|fail))[]))
  exact B8 r rfl (by simp only [d4]; (repeat' constructor))
 ·rintro _ _ h; exact h.elim
def W3 (l : List EnV) (key : ByteArray) : Option (List EnV) := if E0 l key < 0 then none else some (l.set (E0 l key).toNat S1)
theorem B3k {l m : List EnV} {key : ByteArray} (h : W3 l key = some m) : m.length = l.length := by
 unfold W3 at h
 by_cases c : E0 l key < 0
 ·rw [if_pos c] at h; cases h
 ·rw [if_neg c] at h; injection h with h; rw [← h]; simp
def L7 (u : List EnV) : List EnV := if u.length < 2 * M7 u 2 then d4 u else u
def r4 (l : List EnV) (key : ByteArray) : List EnV := match W3 l key with | some u => L7 u | none => l
theorem B4H (w : World) (v : Value) (l : List EnV) (key : ByteArray) (b : Nat) (hk : key.size < 2 ^ 60) (hn : l.length ≤ 1000000) (hx : w.cell? ⟨b, 0, none⟩ = some (.string key)) (hb : b ∉ B3 [E3 v l]) (hw : LW false (B3 [E3 v l]) w [E3 v l] w) :
  Fn PR B4 154 #[v, .pointer (some ⟨b, 0, none⟩)] w (Rn (B3 [E3 v l]) w (fun (_ : Unit) u => u = .bool (W3 l key).isSome) fun _ => [E3 v ((W3 l key).getD l)]) := by
 refine A60 (TW.goH (κ := false) (S := B3 [E3 v l]) ?_ hw)
 unfold A1Y
 (have zz:=trivial;repeat((first|clear zz|with_reducible first|refine A3 ?_|refine A5 fun _=>?_|refine A4 fun _=>?_);try simp(disch:=first|omega|assumption|((repeat(first|exact A1|exact uH|apply A2|apply uT));first|done|fail)|(simp;first|done|omega|fail))[hx]))
 refine C4 d6 (fun w' hw' => l4 w' v l key hk hn (L5.own (by (repeat constructor)) w' hw')) ?_
 by_cases c1 : E0 l key < 0
 ·have hd : W3 l key = none := if_pos c1
  (have zz:=trivial;repeat((first|clear zz|with_reducible first|refine A3 ?_|refine A5 fun _=>?_|refine A4 fun _=>?_);try simp(disch:=first|omega|assumption|((repeat(first|exact A1|exact uH|apply A2|apply uT));first|done|fail)|(simp;first|done|omega|fail))[c1]))
  exact B8 () (by simp [hd]) (by simp only [hd, Option.getD_none]; (repeat' constructor))
 ·have hd : W3 l key = some (l.set (E0 l key).toNat S1) := if_neg c1
  have hlt := A0k (l := l) (key := key) (by omega)
  have h0 : 0 ≤ E0 l key := by omega
  obtain ⟨i, hi⟩ : ∃ i : Nat, E0 l key = i := ⟨(E0 l key).toNat, by omega⟩
  rw [hi] at hd hlt c1 ⊢
  rw [Int.toNat_natCast] at hd hlt
  refine p4 (e := 160) (k := 4) (v := v) (q := l.length) (xs := l.flatMap E5) (by (repeat constructor)) (by omega) ?_
  rintro g c rfl
  (have zz:=trivial;repeat((first|clear zz|with_reducible first|refine A3 ?_|refine A5 fun _=>?_|refine A4 fun _=>?_);try simp(disch:=first|omega|assumption|((repeat(first|exact A1|exact uH|apply A2|apply uT));first|done|fail)|(simp;first|done|omega|fail))[c1, hlt]))
  refine f8 (by (repeat constructor)) (by simp) (by rw [p7]; omega) (by simp) ?_
  refine B8 () (by simp [hd]) ?_
  have := A1H (f := E5) (k := 4) (fun _ => rfl) l i S1 hlt
  simp only [hd, Option.getD_some, E3, List.length_set, ← this]
  (repeat' constructor)
theorem A4U (w : World) (v : Value) (l : List EnV) (key : ByteArray) (hk : key.size < 2 ^ 60) (hks : L6 l) (hn : l.length ≤ 1000000) (hv : F5 w v l.length (l.flatMap E5)) :
  Fn PR B4 105 #[v, .string key] w (Rn [] w (fun r u => u = .tuple #[if (W3 l key).isSome then r else v, .bool (W3 l key).isSome]) fun r => [E3 r (r4 l key)]) := by
 refine A89 (TW.go (κ := false) (S := []) ?_)
 unfold A3E
 (have zz:=trivial;repeat((first|clear zz|with_reducible first|refine A3 ?_|refine A5 fun _=>?_|refine A4 fun _=>?_);try simp(disch:=first|omega|assumption|((repeat(first|exact A1|exact uH|apply A2|apply uT));first|done|fail)|(simp;first|done|omega|fail))[]))
 rename_i b
 refine H2 A1k (fun w' hw' => A9x w' v l 154 [.pointer (some ⟨b, 0, none⟩)] (W3 l key) (fun m h => B3k h) hn (hv.ks hw'.ks (by simp)) A6A
  fun w2 r h hf hr => ?_) ?_
 ·have hp := hw'.pt (b := b) (by (repeat constructor))
  have hb : b < sz w' := G9 hp
  exact B4H w2 r l key b hk hn (h.cell (by simp) (hw'.cell1 (by (repeat constructor)))) (fun hc => by have := hf b hc; omega) hr
 ·rintro r _ rfl
  cases h : W3 l key with
  | none =>
   have e : r4 l key = l := by simp [r4, h]
   (have zz:=trivial;repeat((first|clear zz|with_reducible first|refine A3 ?_|refine A5 fun _=>?_|refine A4 fun _=>?_);try simp(disch:=first|omega|assumption|((repeat(first|exact A1|exact uH|apply A2|apply uT));first|done|fail)|(simp;first|done|omega|fail))[]))
   exact B8 r (by simp) (by rw [e]; (repeat' constructor))
  | some m =>
   have e : r4 l key = L7 m := by simp [r4, h]
   have hml := B3k h
   have hmk : L6 m := by
    unfold W3 at h
    by_cases c : E0 l key < 0
    ·rw [if_pos c] at h; cases h
    ·rw [if_neg c] at h; injection h with h; rw [← h]
     intro x hx
     rcases List.mem_or_eq_of_mem_set hx with hx | rfl
     ·exact hks x hx
     ·simp [S1]
   simp only [Option.isSome_some, if_true, Option.getD_some]
   refine Y6 (e := 160) (k := 4) (v := r) (q := m.length) (xs := m.flatMap E5) (by (repeat constructor)) ?_
   rintro ra rc rfl
   (have zz:=trivial;repeat((first|clear zz|with_reducible first|refine A3 ?_|refine A5 fun _=>?_|refine A4 fun _=>?_);try simp(disch:=first|omega|assumption|((repeat(first|exact A1|exact uH|apply A2|apply uT));first|done|fail)|(simp;first|done|omega|fail))[]))
   refine C4 y7 (fun w' hw' => A8G w' _ m 2 (by omega) (L5.own (by (repeat constructor)) w' hw')) ?_
   have hcl : M7 m 2 ≤ m.length := List.countP_le_length
   by_cases c1 : m.length < 2 * M7 m 2
   ·have c1' : (m.length : Int) < 2 * (M7 m 2 : Nat) := by omega
    have e2 : r4 l key = d4 m := by rw [e, L7, if_pos c1]
    (have zz:=trivial;repeat((first|clear zz|with_reducible first|refine A3 ?_|refine A5 fun _=>?_|refine A4 fun _=>?_);try simp(disch:=first|omega|assumption|((repeat(first|exact A1|exact uH|apply A2|apply uT));first|done|fail)|(simp;first|done|omega|fail))[c1']))
    refine H2 A4n (fun w' hw' => B4u w' _ m hmk (by omega) (L5.own (by (repeat constructor)) w' hw')) ?_
    rintro _ r rfl
    exact B8 r rfl (by rw [e2]; (repeat' constructor))
   ·have c1' : ¬ (m.length : Int) < 2 * (M7 m 2 : Nat) := by omega
    have e2 : r4 l key = m := by rw [e, L7, if_neg c1]
    (have zz:=trivial;repeat((first|clear zz|with_reducible first|refine A3 ?_|refine A5 fun _=>?_|refine A4 fun _=>?_);try simp(disch:=first|omega|assumption|((repeat(first|exact A1|exact uH|apply A2|apply uT));first|done|fail)|(simp;first|done|omega|fail))[c1']))
    exact B8 (.slice ra m.length rc) rfl (by rw [e2]; (repeat' constructor))
def A0K (l : List EnV) : List ByteArray := (G2 l).map (·.2.key)
theorem C1A (w : World) (v : Value) (l : List EnV) (hn : l.length ≤ 1000000) (hv : F5 w v l.length (l.flatMap E5)) :
  Fn PR B4 47 #[v] w (Rn [] w (fun r u => u = r) fun r => [.own 9 1 r (A0K l).length ((A0K l).map Value.string)]) := by
 refine B1k (TW.go (κ := false) (S := []) ?_)
 unfold A5e
 obtain ⟨a, c, rfl, _⟩ := hv.form
 (have zz:=trivial;repeat((first|clear zz|with_reducible first|refine A3 ?_|refine A5 fun _=>?_|refine A4 fun _=>?_);try simp(disch:=first|omega|assumption|((repeat(first|exact A1|exact uH|apply A2|apply uT));first|done|fail)|(simp;first|done|omega|fail))[]))
 rename_i bt
 refine H2 A0M (fun w' _ => B5W w' (.slice a l.length c) ⟨_, _, _, rfl⟩) ?_
 rintro b _ rfl
 refine n5 9 1 ?_
 have hll : (G2 l).length ≤ l.length := by
  have : ∀ (m : List EnV) (i : Nat), (N9 i m).length ≤ m.length := by
   intro m
   induction m with
   | nil => intro i; simp [N9]
   | cons x m ih => intro i; have := ih (i + 1); simp only [N9]; split <;> simp <;> omega
  exact this l 0
 refine TW.eqH (H' := [.own 9 1 (.slice none 0 0) 0 [], .pt b (.cells #[.slice a l.length c] 176), .pt bt (.cells #[.slice none 0 0] 48)]) (by simp) ?_
 refine TW.perm ?_ (H' := [.pt b (.cells #[.slice a l.length c] 176), .own 9 1 (.slice none 0 0) 0 [], .pt bt (.cells #[.slice none 0 0] 48)]) (List.Perm.swap ..)
 refine A0B (B4w b (.slice a l.length c) l hn) (A5M _) (fun i (x : Option Addr × Nat) => True) (fun i x => [.own 9 1 (.slice x.1 i x.2) i (((G2 l).map fun p => Value.string p.2.key).take i), .pt bt (.cells #[.slice x.1 i x.2] 48)])
  (fun c (y : Unit) => False) (fun y => []) (none, 0) trivial ?_ ?_ ?_ ?_ (by simp)
 ·intro i _ F w1 _ hw
  exact RqS.of hv (fun h => by rw [p7]; omega) hw
 ·rintro i hi ⟨xa, xc⟩ F _ K' hK _
  have hi' : i < (G2 l).length := by simpa using hi
  have hst : ((G2 l).map fun p => Value.string p.2.key).take (i + 1) = ((G2 l).map fun p => Value.string p.2.key).take i ++ [Value.string (G2 l)[i].2.key] := by
   rw [List.take_add_one, List.getElem?_map, List.getElem?_eq_getElem hi']; rfl
  simp only [hst] at hK
  simp only [List.getElem_map]
  generalize (G2 l)[i] = p at *
  simp only [A3j, VF.app]
  (have zz:=trivial;repeat((first|clear zz|with_reducible first|refine A3 ?_|refine A5 fun _=>?_|refine A4 fun _=>?_|refine D0 fun _=>?_|refine D5 (hK:=fun _=>?_)|refine D1 (hK:=fun _=>?_)|refine D2 (hK:=fun _=>?_)|refine D3 (hK:=fun _=>?_)|refine D4 (hK:=fun _=>?_));try simp(disch:=first|omega|assumption|((repeat(first|exact A1|exact uH|apply A2|apply uT));first|done|fail)|(simp;first|done|omega|fail))[]))
  refine A00 (e := 9) (k := 1) (q := i) (r := 1) (xs := ((G2 l).map fun p => Value.string p.2.key).take i) (news := [Value.string p.2.key]) (by (repeat constructor)) (L5.own (by (repeat constructor))) (by decide) (by simp) (by simp) (by simp only [maxLen]; omega) (by omega) fun a' c' => ?_
  (have zz:=trivial;repeat((first|clear zz|with_reducible first|refine A3 ?_|refine A5 fun _=>?_|refine A4 fun _=>?_);try simp(disch:=first|omega|assumption|((repeat(first|exact A1|exact uH|apply A2|apply uT));first|done|fail)|(simp;first|done|omega|fail))[]))
  refine TW.sub (TW.perm (hK (a', c') trivial) ?_) (H' := .own 9 1 (.slice a' (i + 1) c') (i + 1) (((G2 l).map fun p => Value.string p.2.key).take i ++ [Value.string p.2.key]) :: .pt bt (.cells #[.slice a' (i + 1) c'] 48) :: F) ?_
  ·exact List.Perm.refl _
  ·((try simp only [List.cons_append, List.nil_append, List.append_assoc]); (repeat (first | exact List.Sublist.refl _ | exact List.nil_sublist _ | with_reducible apply List.Sublist.cons_cons | apply List.Sublist.cons)); first | done | fail)
 ·rintro ⟨xa, xc⟩ _
  (have zz:=trivial;repeat((first|clear zz|with_reducible first|refine A3 ?_|refine A5 fun _=>?_|refine A4 fun _=>?_);try simp(disch:=first|omega|assumption|((repeat(first|exact A1|exact uH|apply A2|apply uT));first|done|fail)|(simp;first|done|omega|fail))[]))
  refine B8 (.slice xa (G2 l).length xc) rfl ?_
  rw [List.take_of_length_le (by simp)]
  simp only [A0K, List.length_map, List.map_map]
  exact Sels.cons Sel.here Sels.nil
 ·rintro _ _ h; exact h.elim
def Q2 (l : List EnV) : Bool := (G2 l).all fun p => decide (E0 l p.2.key = p.1)
end Go.Proofs.YtpbmephflllolaaGreat
namespace Go.Proofs.YtpbmephflllolaaGreat
open Go
def A7N (X : Nat → Prop) (t0 : Value) (R : Value → WP) : WP :=
 jn (n := 2) (fun t3 t10 =>
 R t3) fun J1 =>
 B1 PR X 108 [t0] fun t7 =>
 B1 PR X 107 [t7, (.func (.func 109) #[] #[])] fun t8 =>
 A0 PR (A8 .len #[208] 0 [t8]) fun t9 =>
 lp (n := 2) (fun L2 t3_1 t10_1 =>
 A0 PR (binOp .lss 3 t10_1 t9) fun t11 =>
 jn (n := 0) (
 jn (n := 1) (fun t3_2 =>
 A0 PR (binOp .add 3 t10_1 (.int .i64 1)) fun t18 =>
 L2 t3_2 t18) fun J3 =>
 A0 PR (Instr.indexAt 208 t8 t10_1) fun t12 =>
 A6 PR (Instr.loadAt 211 t12) fun t13 =>
 B2 PR X (Instr.alloc 211 true (.tuple #[])) fun t5 =>
 B9 PR X (Instr.storeAt 211 t5 t13) <|
 A6 PR (Instr.loadAt 211 t5) fun t15 =>
 B2 PR X (Instr.buildSlice 90 1 #[(0, t15)]) fun t16 =>
 B2 PR X (A8 .append #[90, 90] 90 [t3_1, t16]) fun t17 =>
 J3 t17) fun J4 =>
 C3 t11 (
 J4) (
 J1 t3_1 t10_1)) (.slice none 0 0) (.int .i64 0)
theorem A5r : A9 PR 59 := A7 Tryz.func59 (by kernel_rfl) rfl
theorem B25 {X : Nat → Prop} {t0 : Value} {R : Value → WP} {w : World} (h : A7N X t0 R w) : Fn PR X 59 #[t0] w R := C9 (args := [t0]) mixed Tryz.func59 (by kernel_rfl) h
def A4f (X : Nat → Prop) (t0 : Value) (R : Value → WP) : WP :=
 B2 PR X (Instr.box 32 t0) fun t1 =>
 A0 PR (Instr.makeFunc (.func 159) #[] #[t1]) fun t3 =>
 R t3
theorem A87 : A9 PR 108 := A7 Tryz.func108 (by kernel_rfl) rfl
theorem B0g {X : Nat → Prop} {t0 : Value} {R : Value → WP} {w : World} (h : A4f X t0 R w) : Fn PR X 108 #[t0] w R := C9 (args := [t0]) mixed Tryz.func108 (by kernel_rfl) h
def w8 (X : Nat → Prop) (t0 t1 : Value) (R : Value → WP) : WP :=
 B2 PR X (Instr.box 211 t0) fun t2 =>
 B2 PR X (Instr.box 211 t1) fun t3 =>
 drw <|
 A0 PR (Instr.fieldAt 211 t2 0) fun t5 =>
 A6 PR (Instr.loadAt 129 t5) fun t6 =>
 A0 PR (Instr.fieldAt 211 t3 0) fun t7 =>
 A6 PR (Instr.loadAt 129 t7) fun t8 =>
 A0 PR (Instr.fieldAt 211 t2 1) fun t10 =>
 A6 PR (Instr.loadAt 3 t10) fun t11 =>
 A0 PR (Instr.fieldAt 211 t3 1) fun t12 =>
 A6 PR (Instr.loadAt 3 t12) fun t13 =>
 B1 PR X 162 [t6, t8] fun t9 =>
 watch PR [(none, (Instr.loadAt 3 t12), t13), (none, (Instr.loadAt 3 t10), t11)] <|
 B1 PR X 69 [t11, t13] fun t14 =>
 B2 PR X (Instr.buildSlice 34 2 #[(0, t9), (1, t14)]) fun t15 =>
 B1 PR X 161 [t15] fun t16 =>
 R t16
theorem A3z : A9 PR 109 := A7 Tryz.func109 (by kernel_rfl) rfl
theorem A4m {X : Nat → Prop} {t0 t1 : Value} {R : Value → WP} {w : World} (h : w8 X t0 t1 R w) : Fn PR X 109 #[t0, t1] w R := C9 (args := [t0, t1]) mixed Tryz.func109 (by kernel_rfl) h
def A1m (X : Nat → Prop) (t0 t1 : Value) (R : Value → WP) : WP :=
 A6 PR (Instr.loadAt 32 t1) fun t6 =>
 A0 PR (A8 .len #[32] 0 [t6]) fun t7 =>
 lp (n := 1) (fun L1 t8 =>
 A0 PR (binOp .lss 3 t8 t7) fun t9 =>
 jn (n := 0) (
 jn (n := 1) (fun t17 =>
 A0 PR (binOp .add 3 t8 (.int .i64 1)) fun t31 =>
 L1 t31) fun J2 =>
 A0 PR (Instr.indexAt 32 t6 t8) fun t10 =>
 A6 PR (Instr.loadAt 75 t10) fun t11 =>
 B2 PR X (Instr.alloc 75 true (.tuple #[])) fun t4 =>
 B9 PR X (Instr.storeAt 75 t4 t11) <|
 A0 PR (Instr.fieldAt 75 t4 1) fun t12 =>
 A6 PR (Instr.loadAt 3 t12) fun t13 =>
 A0 PR (A8 .min #[3, 3] 0 [t13, (.int .i64 16)]) fun t14 =>
 A0 PR (A8 .max #[3, 3] 0 [(.int .i64 0), t14]) fun t15 =>
 A0 PR (binOp .mul 3 (.int .i64 8) t15) fun t16 =>
 lp (n := 1) (fun L3 t17_1 =>
 A0 PR (binOp .lss 3 t17_1 t16) fun t18 =>
 jn (n := 0) (
 jn (n := 0) (
 A0 PR (binOp .add 3 t17_1 (.int .i64 1)) fun t30 =>
 L3 t30) fun J4 =>
 drw <|
 A0 PR (Instr.fieldAt 75 t4 0) fun t21 =>
 A6 PR (Instr.loadAt 3 t21) fun t22 =>
 A0 PR (Instr.fieldAt 75 t4 0) fun t25 =>
 A6 PR (Instr.loadAt 3 t25) fun t26 =>
 B1 PR X 160 [t22, t17_1] fun t24 =>
 watch PR [(none, (Instr.loadAt 3 t25), t26)] <|
 A0 PR (Instr.build 211 #[(0, t24), (1, t26)]) fun t27 =>
 H9 PR X t0 [t27] fun t28 =>
 A0 PR (Op.unary .not t28) fun t29 =>
 C3 t29 (
 R (.tuple #[])) (
 J4)) fun J5 =>
 C3 t18 (
 J5) (
 J2 t17_1)) (.int .i64 0)) fun J6 =>
 C3 t9 (
 J6) (
 R (.tuple #[]))) (.int .i64 0)
theorem A6w : A9 PR 159 := A7 Tryz.func159 (by kernel_rfl) rfl
theorem A7c {X : Nat → Prop} {t0 t1 : Value} {R : Value → WP} {w : World} (h : A1m X t0 t1 R w) : Fn PR X 159 #[t0, t1] w R := C9 (args := [t0, t1]) mixed Tryz.func159 (by kernel_rfl) h
theorem A7p {X : Nat → Prop} {t0 t1 : Value} {K : Value → WP} {w : World} (h : Fn PR X 159 #[t0, t1] w K) : w7 PR X 159 [t0, t1] K w := ⟨A6w, h⟩
def A4P (X : Nat → Prop) (t0 t1 : Value) (R : Value → WP) : WP :=
 A0 PR (convert 3 129 t0) fun t6 =>
 B1 PR X 55 [t6, (.int .i64 4)] fun t7 =>
 B1 PR X 102 [t7] fun t8 =>
 A0 PR (convert 3 129 t1) fun t10 =>
 B1 PR X 55 [t10, (.int .i64 2)] fun t11 =>
 B1 PR X 55 [(.int .u64 0), (.int .i64 4)] fun t12 =>
 A0 PR (binOp .add 9 t11 t12) fun t13 =>
 B1 PR X 149 [t8, t13] fun t14 =>
 R t14
theorem A9F : A9 PR 160 := A7 Tryz.func160 (by kernel_rfl) rfl
theorem B00 {X : Nat → Prop} {t0 t1 : Value} {R : Value → WP} {w : World} (h : A4P X t0 t1 R w) : Fn PR X 160 #[t0, t1] w R := C9 (args := [t0, t1]) mixed Tryz.func160 (by kernel_rfl) h
end Go.Proofs.YtpbmephflllolaaGreat
namespace Go.Proofs.YtpbmephflllolaaGreat
open Go
def B6G (id : Int) (n : Nat) : Nat := B6v (a7 (E7 (IntKind.u64.wrap id) 4)) (E7 n 2 ++ E7 0 4)
theorem C1m (w : World) (id : Int) (n : Nat) (hn : n < 2 ^ 62) : Fn PR B4 160 #[.int .i64 id, .int .i64 (n : Int)] w (fun v w' => v = .int .u64 (B6G id n : Nat) ∧ C5 [] w w') := by
 refine Fn.pure (B00 (TW.go (κ := false) (S := []) ?_))
 unfold A4P
 (have zz:=trivial;repeat((first|clear zz|with_reducible first|refine A3 ?_|refine A5 fun _=>?_|refine A4 fun _=>?_);try simp(disch:=first|omega|assumption|((repeat(first|exact A1|exact uH|apply A2|apply uT));first|done|fail)|(simp;first|done|omega|fail))[]))
 refine C4 G0 (fun w' hw' => V7 w' _ _) ?_
 (have zz:=trivial;repeat((first|clear zz|with_reducible first|refine A3 ?_|refine A5 fun _=>?_|refine A4 fun _=>?_);try simp(disch:=first|omega|assumption|((repeat(first|exact A1|exact uH|apply A2|apply uT));first|done|fail)|(simp;first|done|omega|fail))[]))
 refine C4 r7 (fun w' _ => A07 w' _ (by simp)) ?_
 (have zz:=trivial;repeat((first|clear zz|with_reducible first|refine A3 ?_|refine A5 fun _=>?_|refine A4 fun _=>?_);try simp(disch:=first|omega|assumption|((repeat(first|exact A1|exact uH|apply A2|apply uT));first|done|fail)|(simp;first|done|omega|fail))[]))
 refine C4 G0 (fun w' hw' => V7 w' _ _) ?_
 (have zz:=trivial;repeat((first|clear zz|with_reducible first|refine A3 ?_|refine A5 fun _=>?_|refine A4 fun _=>?_);try simp(disch:=first|omega|assumption|((repeat(first|exact A1|exact uH|apply A2|apply uT));first|done|fail)|(simp;first|done|omega|fail))[]))
 refine C4 G0 (fun w' hw' => V7 w' _ _) ?_
 (have zz:=trivial;repeat((first|clear zz|with_reducible first|refine A3 ?_|refine A5 fun _=>?_|refine A4 fun _=>?_);try simp(disch:=first|omega|assumption|((repeat(first|exact A1|exact uH|apply A2|apply uT));first|done|fail)|(simp;first|done|omega|fail))[T3]))
 refine C4 A62 (fun w' _ => B43 w' _ _ (B0s _) (by simp)) ?_
 exact B0 rfl
def wtN (b : F9) : Nat := 8 * (max 0 (min b.2 16)).toNat
def A8n (b : F9) : List (Nat × Int) := (List.range (wtN b)).map fun n => (B6G b.1 n, b.1)
def F2 (p : List F9) : List (Nat × Int) := p.flatMap A8n
def F8 (x : Nat × Int) : List Value := [.int .u64 (x.1 : Nat), .int .i64 x.2]
def ptA (x : Nat × Int) : List Value := [.agg #[.int .u64 (x.1 : Nat), .int .i64 x.2]]
abbrev A9K (b : Nat) : Value := .func (.func 159) #[] #[.pointer (some ⟨b, 0, none⟩)]
theorem B8j (w : World) (v : Value) (hv : ∃ a n c, v = .slice a n c) : Fn PR B4 108 #[v] w (Rn [] w (fun b u => u = A9K b) fun b => [.pt b (.cells #[v] 32)]) := by
 obtain ⟨a, n, c, rfl⟩ := hv
 refine B0g (TW.go (κ := false) (S := []) ?_)
 unfold A4f
 (have zz:=trivial;repeat((first|clear zz|with_reducible first|refine A3 ?_|refine A5 fun _=>?_|refine A4 fun _=>?_);try simp(disch:=first|omega|assumption|((repeat(first|exact A1|exact uH|apply A2|apply uT));first|done|fail)|(simp;first|done|omega|fail))[]))
 rename_i b
 exact Z6 b rfl (by simp)
theorem B47 {p : List F9} {i : Nat} {x : F9} (hx : p[i]? = some x) : F2 (p.take (i + 1)) = F2 (p.take i) ++ A8n x := by
 rw [List.take_add_one, hx]; simp [F2]
theorem B97 {p : List F9} {i n : Nat} {x : F9} (hx : p[i]? = some x) (hn : n < wtN x) : (F2 p)[(F2 (p.take i)).length + n]? = some (B6G x.1 n, x.1) := by
 have e : p = p.take (i + 1) ++ p.drop (i + 1) := (List.take_append_drop _ _).symm
 conv => lhs; arg 1; rw [e]
 have h2 : F2 (p.take (i + 1) ++ p.drop (i + 1)) = F2 (p.take (i + 1)) ++ F2 (p.drop (i + 1)) := by simp only [F2, List.flatMap_append]
 rw [h2, B47 hx, List.append_assoc, List.getElem?_append_right (by omega), Nat.add_sub_cancel_left, List.getElem?_append_left (by simp [A8n, hn])]
 simp [A8n, hn]
theorem B9C (b : Nat) (v : Value) (p : List F9) (hn : p.length ≤ 1000000) : A1x (A9K b) [.pt b (.cells #[v] 32)] (RqS v p.length (p.flatMap E1)) ((F2 p).map ptA) := by
 refine ⟨_, _, _, rfl, fun y J E hJ hE stJ stE hy w0 h0 => ?_⟩
 obtain ⟨a, c, hv, hr⟩ := (hJ _ _ _ h0).2
 subst hv
 refine A7p (A7c (TW.at (κ := true) ?_ (hJ _ _ _ h0).1))
 unfold A1m
 (have zz:=trivial;repeat((first|clear zz|with_reducible first|refine A3 ?_|refine A5 fun _=>?_|refine A4 fun _=>?_);try simp(disch:=first|omega|assumption|((repeat(first|exact A1|exact uH|apply A2|apply uT));first|done|fail)|(simp;first|done|omega|fail))[]))
 refine A2Q p.length (fun i => (F2 (p.take i)).length) (fun _ => _) hJ stJ (by simpa [F2] using h0) fun i a' hi hJi hRi L hL => ?_
 by_cases hlt : i < p.length
 ·obtain ⟨_, _, hv, hr⟩ := hRi
  obtain ⟨b', o, hb, hrow, hnb⟩ := hr (by omega)
  cases hv
  subst hb
  obtain ⟨x, hx⟩ : ∃ x, p[i]? = some x := ⟨_, List.getElem?_eq_getElem hlt⟩
  have h1 := hrow.at (f := E1) (k := 2) (fun _ => rfl) hx
  rw [E1] at h1
  have hlen : (F2 (p.take (i + 1))).length = (F2 (p.take i)).length + wtN x := by rw [B47 hx]; simp [A8n]
  rw [hlen] at hL
  have hw : 8 * max 0 (min x.2 16) = (wtN x : Nat) := by unfold wtN; omega
  have hwl : wtN x ≤ 128 := by unfold wtN; omega
  (have zz:=trivial;repeat((first|clear zz|with_reducible first|refine A3 ?_|refine A5 fun _=>?_|refine A4 fun _=>?_);try simp(disch:=first|omega|assumption|((repeat(first|exact A1|exact uH|apply A2|apply uT));first|done|fail)|(simp;first|done|omega|fail))[hlt, h1]))
  rename_i b4
  rw [hw]
  refine A2Q (wtN x) (fun n => (F2 (p.take i)).length + n) (fun _ => _) hJ stJ hJi fun n a2 hi2 hJn hRn L2 hL2 => ?_
  by_cases hlt2 : n < wtN x
  ·have hg := B97 hx hlt2
   obtain ⟨hgi, hg'⟩ := List.getElem?_eq_some_iff.1 hg
   (have zz:=trivial;repeat((first|clear zz|with_reducible first|refine A3 ?_|refine A5 fun _=>?_|refine A4 fun _=>?_);try simp(disch:=first|omega|assumption|((repeat(first|exact A1|exact uH|apply A2|apply uT));first|done|fail)|(simp;first|done|omega|fail))[hlt2]))
   refine C4 A9F (fun w' _ => C1m w' x.1 n (by omega)) ?_
   (have zz:=trivial;repeat((first|clear zz|with_reducible first|refine A3 ?_|refine A5 fun _=>?_|refine A4 fun _=>?_);try simp(disch:=first|omega|assumption|((repeat(first|exact A1|exact uH|apply A2|apply uT));first|done|fail)|(simp;first|done|omega|fail))[]))
   refine A3M hJ hE stJ hy hJn (by simpa using hgi) (by rw [List.getElem_map, hg', ptA]) (fun w3 h => ?_) (fun w3 h => ?_)
   ·(have zz:=trivial;repeat((first|clear zz|with_reducible first|refine A3 ?_|refine A5 fun _=>?_|refine A4 fun _=>?_);try simp(disch:=first|omega|assumption|((repeat(first|exact A1|exact uH|apply A2|apply uT));first|done|fail)|(simp;first|done|omega|fail))[]))
    exact fun w' hw' => hL2 hlt2 w' (stJ _ _ _ _ _ h hw')
   ·(have zz:=trivial;repeat((first|clear zz|with_reducible first|refine A3 ?_|refine A5 fun _=>?_|refine A4 fun _=>?_);try simp(disch:=first|omega|assumption|((repeat(first|exact A1|exact uH|apply A2|apply uT));first|done|fail)|(simp;first|done|omega|fail))[]))
    exact A1C stE h
  ·obtain rfl : n = wtN x := by omega
   (have zz:=trivial;repeat((first|clear zz|with_reducible first|refine A3 ?_|refine A5 fun _=>?_|refine A4 fun _=>?_);try simp(disch:=first|omega|assumption|((repeat(first|exact A1|exact uH|apply A2|apply uT));first|done|fail)|(simp;first|done|omega|fail))[]))
   exact fun w' hw' => hL hlt w' (stJ _ _ _ _ _ hJn (hw'.sub (by simp)))
 ·obtain rfl : i = p.length := by omega
  rw [List.take_length] at hJi
  (have zz:=trivial;repeat((first|clear zz|with_reducible first|refine A3 ?_|refine A5 fun _=>?_|refine A4 fun _=>?_);try simp(disch:=first|omega|assumption|((repeat(first|exact A1|exact uH|apply A2|apply uT));first|done|fail)|(simp;first|done|omega|fail))[]))
  exact A09 stJ (by simpa using hJi)
end Go.Proofs.YtpbmephflllolaaGreat
