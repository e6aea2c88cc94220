/- The proof of a given statement, a part of it (ShFlows Flows Flows2 ShPoints Points). No condition but what each lemma says. -/
import Derived.Test.YtpbmephflllolaaGreatE14
set_option linter.unusedVariables false
set_option linter.unusedSimpArgs false
namespace Go.Proofs.YtpbmephflllolaaGreat
open Go
def A6W (X : Nat → Prop) (t0 : Value) (R : Value → WP) : WP :=
 A0 PR (A8 .min #[3, 3] 0 [t0, (.int .i64 64)]) fun t4 =>
 A0 PR (A8 .max #[3, 3] 0 [(.int .i64 0), t4]) fun t5 =>
 B1 PR X (Instr.makeSlice 94 t5 t5) fun t6 =>
 R t6
theorem A46 : A9 PR 37 := A7 Tryz.func37 (by kernel_rfl) rfl
theorem B2B {X : Nat → Prop} {t0 : Value} {R : Value → WP} {w : World} (h : A6W X t0 R w) : Fn PR X 37 #[t0] w R := D5 (args := [t0]) mixed Tryz.func37 (by kernel_rfl) h
def A5D (X : Nat → Prop) (t0 : Value) (R : Value → WP) : WP :=
 B1 PR X (Instr.alloc 48 true (.tuple #[])) fun t3 =>
 jn (n := 0) (
 A6 PR (Instr.loadAt 48 t3) fun t15 =>
 V5 (R t15)) fun J1 =>
 B2 PR X 90 [t0] fun t7 =>
 rng (N := 2) PR X (fun t8 t9 K2 =>
 B1 PR (fun _ => False) (Instr.alloc 160 true (.tuple #[])) fun t5 =>
 C3 PR (fun _ => False) (Instr.storeAt 160 t5 t9) <|
 bgn <|
 A6 PR (Instr.loadAt 48 t3) fun t10 =>
 A0 PR (Instr.fieldAt 160 t5 1) fun t11 =>
 A6 PR (Instr.loadAt 9 t11) fun t12 =>
 B1 PR (fun _ => False) (Instr.buildSlice 48 1 #[(0, t12)]) fun t13 =>
 B1 PR (fun _ => False) (A8 .append #[48, 48] 48 [t10, t13]) fun t14 =>
 C3 PR (fun _ => False) (Instr.storeAt 48 t3 t14) <|
 K2 none) t7 (fun j => match j with | none => (J1) | some (.exit i) => (match Nat.beq i 0 with | true => (J1) | false => (E0)) | some .ret => (V5 (R (.slice none 0 0))) | some _ => E0)
theorem A9u : A9 PR 47 := A7 Tryz.func47 (by kernel_rfl) rfl
theorem B03 {X : Nat → Prop} {t0 : Value} {R : Value → WP} {w : World} (h : A5D X t0 R w) : Fn PR X 47 #[t0] w R := D5 (args := [t0]) mixed Tryz.func47 (by kernel_rfl) h
def A0Q (X : Nat → Prop) (t0 : Value) (R : Value → WP) : WP :=
 B1 PR X (Instr.box 176 t0) fun t1 =>
 A0 PR (Instr.makeFunc (.func 138) #[] #[t1]) fun t3 =>
 R t3
theorem A0B : A9 PR 90 := A7 Tryz.func90 (by kernel_rfl) rfl
theorem A5Y {X : Nat → Prop} {t0 : Value} {R : Value → WP} {w : World} (h : A0Q X t0 R w) : Fn PR X 90 #[t0] w R := D5 (args := [t0]) mixed Tryz.func90 (by kernel_rfl) h
def A3N (X : Nat → Prop) (t0 t1 : Value) (R : Value → WP) : WP :=
 B1 PR X (Instr.box 9 t1) fun t3 =>
 A0 PR (Instr.makeFunc (.func 154) #[] #[t3]) fun t10 =>
 B2 PR X 153 [t0, t10] fun t11 =>
 A0 PR (Instr.extract t11 0) fun t12 =>
 A0 PR (Instr.extract t11 1) fun t13 =>
 jn (n := 1) (fun t6 =>
 R (.tuple #[t6, t13])) fun J1 =>
 gj t13 true (fun J => J t12) fun t16 =>
 gj t13 true (fun J => B2 PR X 113 [t16, (.int .i64 2)] J) fun t17 =>
 gj t13 true (fun J => A0 PR (binOp .mul 3 (.int .i64 2) t17) J) fun t18 =>
 gj t13 true (fun J => J t12) fun t19 =>
 gj t13 true (fun J => A0 PR (A8 .len #[94] 0 [t19]) J) fun t20 =>
 gj t13 true (fun J => A0 PR (binOp .gtr 3 t18 t20) J) fun t21 =>
 A0 PR (do pure (if ← asBool t13 then t21 else (.bool false))) fun t22 =>
 C5 t22 (
 B2 PR X 114 [t12] fun t24 =>
 J1 t24) (
 J1 t12)
theorem A75 : A9 PR 105 := A7 Tryz.func105 (by kernel_rfl) rfl
theorem A8J {X : Nat → Prop} {t0 t1 : Value} {R : Value → WP} {w : World} (h : A3N X t0 t1 R w) : Fn PR X 105 #[t0, t1] w R := D5 (args := [t0, t1]) mixed Tryz.func105 (by kernel_rfl) h
def A59 (X : Nat → Prop) (t0 t1 t2 t3 : Value) (R : Value → WP) : WP :=
 A0 PR (Instr.build 160 #[(0, (.int .i64 1)), (1, t1), (2, t2), (3, t3)]) fun t16 =>
 B1 PR X (Instr.alloc 160 true (.tuple #[])) fun t10 =>
 C3 PR X (Instr.storeAt 160 t10 t16) <|
 A0 PR (Instr.makeFunc (.func 155) #[] #[t10]) fun t19 =>
 B2 PR X 153 [t0, t19] fun t20 =>
 A0 PR (Instr.extract t20 0) fun t21 =>
 A0 PR (Instr.extract t20 1) fun t22 =>
 jn (n := 2) (fun t8 t9 =>
 R (.tuple #[t21, (.int .i64 0)])) fun J1 =>
 A0 PR (Op.unary .not t22) fun t24 =>
 C5 t24 (
 R (.tuple #[t21, (.int .i64 12)])) (
 J1 (.slice none 0 0) (.int .i64 0))
theorem B1B : A9 PR 106 := A7 Tryz.func106 (by kernel_rfl) rfl
theorem B1m {X : Nat → Prop} {t0 t1 t2 t3 : Value} {R : Value → WP} {w : World} (h : A59 X t0 t1 t2 t3 R w) : Fn PR X 106 #[t0, t1, t2, t3] w R := D5 (args := [t0, t1, t2, t3]) mixed Tryz.func106 (by kernel_rfl) h
def A5K (X : Nat → Prop) (t0 : Value) (R : Value → WP) : WP :=
 A0 PR (A8 .len #[94] 0 [t0]) fun t7 =>
 B2 PR X 37 [t7] fun t8 =>
 B1 PR X (Instr.alloc 176 true (.tuple #[])) fun t3 =>
 C3 PR X (Instr.storeAt 176 t3 t8) <|
 jn (n := 0) (
 A6 PR (Instr.loadAt 176 t3) fun t16 =>
 V5 (R t16)) fun J1 =>
 B2 PR X 90 [t0] fun t10 =>
 rng (N := 2) PR X (fun t11 t12 K2 =>
 B1 PR (fun _ => False) (Instr.alloc 160 true (.tuple #[])) fun t5 =>
 C3 PR (fun _ => False) (Instr.storeAt 160 t5 t12) <|
 bgn <|
 A6 PR (Instr.loadAt 176 t3) fun t13 =>
 A6 PR (Instr.loadAt 160 t5) fun t14 =>
 B2 PR (fun _ => False) 156 [t13, t14] fun t15 =>
 K2 none) t10 (fun j => match j with | none => (J1) | some (.exit i) => (match Nat.beq i 0 with | true => (J1) | false => (E0)) | some .ret => (V5 (R (.slice none 0 0))) | some _ => E0)
theorem A4N : A9 PR 114 := A7 Tryz.func114 (by kernel_rfl) rfl
theorem B0u {X : Nat → Prop} {t0 : Value} {R : Value → WP} {w : World} (h : A5K X t0 R w) : Fn PR X 114 #[t0] w R := D5 (args := [t0]) mixed Tryz.func114 (by kernel_rfl) h
def q8 (X : Nat → Prop) (t0 t1 : Value) (R : Value → WP) : WP :=
 A6 PR (Instr.loadAt 176 t1) fun t5 =>
 A0 PR (A8 .len #[176] 0 [t5]) fun t6 =>
 lp (n := 1) (fun L1 t7 =>
 A0 PR (binOp .lss 3 t7 t6) fun t8 =>
 jn (n := 0) (
 jn (n := 0) (
 A0 PR (binOp .add 3 t7 (.int .i64 1)) fun t22 =>
 L1 t22) fun J2 =>
 A0 PR (Instr.indexAt 176 t5 t7) fun t10 =>
 A6 PR (Instr.loadAt 160 t10) fun t11 =>
 B1 PR X (Instr.alloc 160 true (.tuple #[])) fun t4 =>
 C3 PR X (Instr.storeAt 160 t4 t11) <|
 A0 PR (Instr.fieldAt 160 t4 0) fun t12 =>
 A6 PR (Instr.loadAt 3 t12) fun t13 =>
 A0 PR (binOp .eql 3 t13 (.int .i64 1)) fun t14 =>
 gj t14 true (fun J => J t0) fun t16 =>
 gj t14 true (fun J => J t7) fun t17 =>
 gj t14 true (fun J => A6 PR (Instr.loadAt 160 t4) J) fun t18 =>
 gj t14 true (fun J => H3 PR X t16 [t17, t18] J) fun t19 =>
 gj t14 true (fun J => A0 PR (Op.unary .not t19) J) fun t20 =>
 A0 PR (do pure (if ← asBool t14 then t20 else (.bool false))) fun t21 =>
 C5 t21 (
 R (.tuple #[])) (
 J2)) fun J3 =>
 C5 t8 (
 J3) (
 R (.tuple #[]))) (.int .i64 0)
theorem A2p : A9 PR 138 := A7 Tryz.func138 (by kernel_rfl) rfl
theorem A3e {X : Nat → Prop} {t0 t1 : Value} {R : Value → WP} {w : World} (h : q8 X t0 t1 R w) : Fn PR X 138 #[t0, t1] w R := D5 (args := [t0, t1]) mixed Tryz.func138 (by kernel_rfl) h
theorem A3k {X : Nat → Prop} {t0 t1 : Value} {K : Value → WP} {w : World} (h : Fn PR X 138 #[t0, t1] w K) : s7 PR X 138 [t0, t1] K w := ⟨A2p, h⟩
def A2M (X : Nat → Prop) (t0 t1 : Value) (R : Value → WP) : WP :=
 B2 PR X 111 [t0] fun t8 =>
 jn (n := 2) (fun t4 t5 =>
 R (.tuple #[t8, (.bool true)])) fun J1 =>
 H3 PR X t1 [t8] fun t11 =>
 A0 PR (Op.unary .not t11) fun t12 =>
 C5 t12 (
 R (.tuple #[t0, (.bool false)])) (
 J1 (.slice none 0 0) (.bool false))
theorem A1g : A9 PR 153 := A7 Tryz.func153 (by kernel_rfl) rfl
theorem A7y {X : Nat → Prop} {t0 t1 : Value} {R : Value → WP} {w : World} (h : A2M X t0 t1 R w) : Fn PR X 153 #[t0, t1] w R := D5 (args := [t0, t1]) mixed Tryz.func153 (by kernel_rfl) h
def A1F (X : Nat → Prop) (t0 t1 : Value) (R : Value → WP) : WP :=
 A6 PR (Instr.loadAt 9 t1) fun t6 =>
 B2 PR X 150 [t0, t6] fun t7 =>
 jn (n := 1) (fun t3 =>
 A0 PR (Instr.build 160 #[(0, (.int .i64 2))]) fun t12 =>
 A0 PR (Instr.indexAt 176 t0 t7) fun t13 =>
 C3 PR X (Instr.storeAt 160 t13 t12) <|
 R (.bool true)) fun J1 =>
 A0 PR (binOp .lss 3 t7 (.int .i64 0)) fun t9 =>
 C5 t9 (
 R (.bool false)) (
 J1 (.bool false))
theorem A5b : A9 PR 154 := A7 Tryz.func154 (by kernel_rfl) rfl
theorem A6b {X : Nat → Prop} {t0 t1 : Value} {R : Value → WP} {w : World} (h : A1F X t0 t1 R w) : Fn PR X 154 #[t0, t1] w R := D5 (args := [t0, t1]) mixed Tryz.func154 (by kernel_rfl) h
def A3G (X : Nat → Prop) (t0 t1 : Value) (R : Value → WP) : WP :=
 A6 PR (Instr.loadAt 160 t1) fun t5 =>
 B2 PR X 156 [t0, t5] fun t6 =>
 R t6
theorem A8B : A9 PR 155 := A7 Tryz.func155 (by kernel_rfl) rfl
theorem A8g {X : Nat → Prop} {t0 t1 : Value} {R : Value → WP} {w : World} (h : A3G X t0 t1 R w) : Fn PR X 155 #[t0, t1] w R := D5 (args := [t0, t1]) mixed Tryz.func155 (by kernel_rfl) h
def A03 (X : Nat → Prop) (t0 t1 : Value) (R : Value → WP) : WP :=
 B1 PR X (Instr.box 160 t1) fun t3 =>
 A0 PR (Instr.fieldAt 160 t3 1) fun t7 =>
 A6 PR (Instr.loadAt 9 t7) fun t8 =>
 B2 PR X 150 [t0, t8] fun t9 =>
 jn (n := 1) (fun t5 =>
 jn (n := 1) (fun t4 =>
 A6 PR (Instr.loadAt 160 t3) fun t20 =>
 A0 PR (Instr.indexAt 176 t0 t5) fun t21 =>
 C3 PR X (Instr.storeAt 160 t21 t20) <|
 R (.bool true)) fun J1 =>
 A0 PR (binOp .lss 3 t5 (.int .i64 0)) fun t17 =>
 C5 t17 (
 R (.bool false)) (
 J1 (.bool false))) fun J2 =>
 A0 PR (binOp .lss 3 t9 (.int .i64 0)) fun t11 =>
 C5 t11 (
 A0 PR (Instr.fieldAt 160 t3 1) fun t13 =>
 A6 PR (Instr.loadAt 9 t13) fun t14 =>
 B2 PR X 201 [t0, t14] fun t15 =>
 J2 t15) (
 J2 t9)
theorem A0P : A9 PR 156 := A7 Tryz.func156 (by kernel_rfl) rfl
theorem A6P {X : Nat → Prop} {t0 t1 : Value} {R : Value → WP} {w : World} (h : A03 X t0 t1 R w) : Fn PR X 156 #[t0, t1] w R := D5 (args := [t0, t1]) mixed Tryz.func156 (by kernel_rfl) h
end Go.Proofs.YtpbmephflllolaaGreat
namespace Go.Proofs.YtpbmephflllolaaGreat
open Go
theorem B0K (l : List EnV) : (l.flatMap F3).all plain = true := by
 rw [List.all_eq_true]; intro v hv; rw [List.mem_flatMap] at hv
 obtain ⟨x, _, hx⟩ := hv
 simp only [F3, List.mem_cons, List.not_mem_nil, or_false] at hx
 rcases hx with rfl | rfl | rfl | rfl <;> rfl
theorem A6C {α : Type} {f : α → List Value} {k : Nat} (hk : ∀ x, (f x).length = k) (l : List α) (i : Nat) (y : α) (hi : i < l.length) : A3j (l.flatMap f) (i * k) (f y) = (l.set i y).flatMap f := by
 have e1 := B6q hk l i
 have e2 := A6Q hk l (i + 1)
 rw [Nat.add_mul, Nat.one_mul] at e2
 rw [A3j, hk, e1, e2, List.set_eq_take_append_cons_drop, if_pos hi, List.flatMap_append, List.flatMap_cons, List.append_assoc]
abbrev E7 (v : Value) (l : List EnV) : Res := .own 160 4 v l.length (l.flatMap F3)
def newE (n : Nat) : List EnV := List.replicate (min n 64) d5
theorem C3Y (n : Nat) : (Builtin.zeroCells (Value.agg #[.int .i64 0, .string P4, .int .i64 0, .int .i64 0]).cells n).toList = (List.replicate n d5).flatMap F3 := by
 have h4 : (Value.agg #[.int .i64 0, .string P4, .int .i64 0, .int .i64 0]).cells.size = 4 := rfl
 have hz : (Builtin.zeroCells (Value.agg #[.int .i64 0, .string P4, .int .i64 0, .int .i64 0]).cells n).toList.length = n * 4 := by simp [size_zeroCells]
 have hr : ((List.replicate n d5).flatMap F3).length = n * 4 := by rw [Q6 (k := 4) fun _ => rfl]; simp
 apply List.ext_getElem (by rw [hz, hr])
 intro i h1 h2
 rw [hz] at h1
 have hf := A2g (f := F3) (k := 4) (fun _ => rfl) (List.replicate n d5) (i / 4) (i % 4) (by omega)
 rw [show i / 4 * 4 + i % 4 = i by omega, List.getElem?_eq_getElem h2, List.getElem?_replicate_of_lt (by omega)] at hf
 have e : (Builtin.zeroCells (Value.agg #[.int .i64 0, .string P4, .int .i64 0, .int .i64 0]).cells n).toList[i]'(by rw [hz]; exact h1) = (Value.agg #[.int .i64 0, .string P4, .int .i64 0, .int .i64 0]).cells[i % 4]! := by
  simp [Builtin.zeroCells]
 rw [e]
 have h3 : i % 4 = 0 ∨ i % 4 = 1 ∨ i % 4 = 2 ∨ i % 4 = 3 := by omega
 rcases h3 with h3 | h3 | h3 | h3 <;> (rw [h3] at hf ⊢; simp [F3, d5] at hf ⊢; exact hf.symm)
theorem A7Y (w : World) (n : Nat) (hn : n ≤ 1000000) : Fn PR B5 37 #[.int .i64 (n : Int)] w (Rn [] w (fun r u => u = r) fun r => [E7 r (newE n)]) := by
 refine B2B (TW.go (κ := false) (S := []) ?_)
 unfold A6W
 have e : max 0 (min (n : Int) 64) = ((min n 64 : Nat) : Int) := by omega
 (have zz:=trivial;repeat((first|clear zz|with_reducible first|refine A3 ?_|refine A5 fun _=>?_|refine A4 fun _=>?_);try simp(disch:=first|omega|assumption|((repeat(first|exact A1|exact uH|apply A2|apply uT));first|done|fail)|(simp;first|done|omega|fail))[e]))
 refine C1l (by omega) (by omega) (by omega) (by omega) fun bs => ?_
 rw [Int.toNat_natCast]
 refine W9 _ rfl ?_
 simp only [E7, newE, List.length_replicate, ← C3Y]
 exact List.Sublist.refl _
def G5 (l : List EnV) (x : EnV) : Option (List EnV) :=
 let at0 := D6 l x.key
 let at1 := if at0 < 0 then W0 l x.key else at0
 if at1 < 0 then none else some (l.set at1.toNat x)
theorem B7y {key : ByteArray} {n : Nat} : ∀ L : List (Nat × EnV), (∀ p ∈ L, p.1 < n) → 0 ≤ G9 key L → (G9 key L).toNat < n := by
 intro L
 induction L with
 | nil => intro _ h; simp [G9] at h
 | cons p L ih =>
  intro h h0
  simp only [G9] at h0 ⊢
  split
  ·rw [if_pos ‹_›] at h0; simp at h0
  ·rw [if_neg ‹_›] at h0
   split
   ·simpa using h p (by simp)
   ·rw [if_neg ‹_›] at h0; exact ih (fun q hq => h q (by simp [hq])) h0
theorem B7x {n : Nat} : ∀ L : List (Nat × EnV), (∀ p ∈ L, p.1 < n) → 0 ≤ N0 L → (N0 L).toNat < n := by
 intro L
 induction L with
 | nil => intro _ h; simp [N0] at h
 | cons p L ih =>
  intro h h0
  simp only [N0] at h0 ⊢
  split
  ·rw [if_pos ‹_›] at h0; exact ih (fun q hq => h q (by simp [hq])) h0
  ·simpa using h p (by simp)
theorem B4F (l : List EnV) (key : ByteArray) : ∀ p ∈ Q7 l key, p.1 < l.length := by
 intro p hp
 obtain ⟨i, hi, rfl⟩ := List.mem_map.1 hp
 exact Nat.mod_lt _ (by simp at hi; omega)
theorem u5 {l : List EnV} {key : ByteArray} (h : 0 ≤ D6 l key) : (D6 l key).toNat < l.length := B7y _ (B4F l key) h
theorem A71 {l : List EnV} {key : ByteArray} (h : 0 ≤ W0 l key) : (W0 l key).toNat < l.length := by
 unfold W0 at h ⊢
 split
 ·rw [if_pos ‹_›] at h; simp at h
 ·rw [if_neg ‹_›] at h; exact B7x _ (B4F l key) h
theorem A4l {l m : List EnV} {x : EnV} (h : G5 l x = some m) : m.length = l.length := by
 unfold G5 at h
 simp only at h
 by_cases c : (if D6 l x.key < 0 then W0 l x.key else D6 l x.key) < 0
 ·rw [if_pos c] at h; cases h
 ·rw [if_neg c] at h; injection h with h; rw [← h]; simp
theorem B33 (w : World) (v : Value) (l : List EnV) (x : EnV) (hk : x.key.size < 2 ^ 60) (hn : l.length ≤ 1000000) (hw : LW false (B3 [E7 v l]) w [E7 v l] w) :
  Fn PR B5 156 #[v, .agg #[.int .i64 x.st, .string x.key, .int .i64 x.bk, .int .i64 x.dl]] w (Rn (B3 [E7 v l]) w (fun (_ : Unit) u => u = .bool (G5 l x).isSome) fun _ => [E7 v ((G5 l x).getD l)]) := by
 refine A6P (TW.goH (κ := false) (S := B3 [E7 v l]) ?_ hw)
 unfold A03
 (have zz:=trivial;repeat((first|clear zz|with_reducible first|refine A3 ?_|refine A5 fun _=>?_|refine A4 fun _=>?_);try simp(disch:=first|omega|assumption|((repeat(first|exact A1|exact uH|apply A2|apply uT));first|done|fail)|(simp;first|done|omega|fail))[]))
 rename_i bx
 refine D2 n8 (fun w' hw' => y9 w' v l x.key hk hn (P2.own (by (repeat constructor)) w' hw')) ?_
 have S7 : ∀ r : Int, 0 ≤ r → r.toNat < l.length → G5 l x = some (l.set r.toNat x) → TW false (B3 [E7 v l]) w [.pt bx (.cells #[.int .i64 x.st, .string x.key, .int .i64 x.bk, .int .i64 x.dl] 160), E7 v l]
   (A0 PR (Instr.indexAt 176 v (.int .i64 r)) fun t21 => C3 PR B5 (Instr.storeAt 160 t21 (.agg #[.int .i64 x.st, .string x.key, .int .i64 x.bk, .int .i64 x.dl])) <|
    Rn (B3 [E7 v l]) w (fun (_ : Unit) u => u = .bool (G5 l x).isSome) (fun _ => [E7 v ((G5 l x).getD l)]) (.bool true)) := by
  intro r h0 hi hp
  obtain ⟨i, rfl⟩ : ∃ i : Nat, r = i := ⟨r.toNat, by omega⟩
  rw [Int.toNat_natCast] at hi hp
  refine x9 (e := 160) (k := 4) (v := v) (q := l.length) (xs := l.flatMap F3) (by (repeat constructor)) (by omega) ?_
  rintro g c rfl
  (have zz:=trivial;repeat((first|clear zz|with_reducible first|refine A3 ?_|refine A5 fun _=>?_|refine A4 fun _=>?_);try simp(disch:=first|omega|assumption|((repeat(first|exact A1|exact uH|apply A2|apply uT));first|done|fail)|(simp;first|done|omega|fail))[hi]))
  refine A4x (by (repeat constructor)) (by simp) (by rw [m5]; omega) (by simp) ?_
  refine D4 () (by simp [hp]) ?_
  have := A6C (f := F3) (k := 4) (fun _ => rfl) l i x hi
  simp only [hp, Option.getD_some, E7, List.length_set, ← this]
  (repeat' constructor)
 by_cases c1 : D6 l x.key < 0
 ·(have zz:=trivial;repeat((first|clear zz|with_reducible first|refine A3 ?_|refine A5 fun _=>?_|refine A4 fun _=>?_);try simp(disch:=first|omega|assumption|((repeat(first|exact A1|exact uH|apply A2|apply uT));first|done|fail)|(simp;first|done|omega|fail))[c1]))
  refine D2 A9f (fun w' hw' => B2s w' v l x.key hk hn (P2.own (by (repeat constructor)) w' hw')) ?_
  by_cases c2 : W0 l x.key < 0
  ·have hp : G5 l x = none := by simp [G5, c1, c2]
   (have zz:=trivial;repeat((first|clear zz|with_reducible first|refine A3 ?_|refine A5 fun _=>?_|refine A4 fun _=>?_);try simp(disch:=first|omega|assumption|((repeat(first|exact A1|exact uH|apply A2|apply uT));first|done|fail)|(simp;first|done|omega|fail))[c2]))
   exact D4 () (by simp [hp]) (by simp only [hp, Option.getD_none]; (repeat' constructor))
  ·have hp : G5 l x = some (l.set (W0 l x.key).toNat x) := by simp [G5, c1, c2]
   have := S7 _ (by omega) (A71 (by omega)) hp
   simp(disch:=first|omega|assumption|((repeat(first|exact A1|exact uH|apply A2|apply uT));first|done|fail)|(simp;first|done|omega|fail))[c2]
   exact this
 ·have hp : G5 l x = some (l.set (D6 l x.key).toNat x) := by simp [G5, c1]
  have := S7 _ (by omega) (u5 (by omega)) hp
  simp(disch:=first|omega|assumption|((repeat(first|exact A1|exact uH|apply A2|apply uT));first|done|fail)|(simp;first|done|omega|fail))[c1]
  exact this
def M2 : Nat → List EnV → List (Nat × EnV)
 | _, [] => []
 | i, x :: r => if x.st = 1 then (i, x) :: M2 (i + 1) r else M2 (i + 1) r
def F8 (l : List EnV) : List (Nat × EnV) := M2 0 l
theorem B0a (i : Nat) (l m : List EnV) : M2 i (l ++ m) = M2 i l ++ M2 (i + l.length) m := by
 induction l generalizing i with
 | nil => simp [M2]
 | cons x l ih =>
  simp only [List.cons_append, M2, ih, List.length_cons]
  split
  ·simp only [List.cons_append]; congr 3; omega
  ·congr 2; omega
theorem B1j {l : List EnV} {i : Nat} {x : EnV} (hx : l[i]? = some x) : F8 (l.take (i + 1)) = F8 (l.take i) ++ (if x.st = 1 then [(i, x)] else []) := by
 obtain ⟨hi, _⟩ := List.getElem?_eq_some_iff.1 hx
 rw [List.take_add_one, hx, F8, B0a, Option.toList_some, List.length_take, Nat.zero_add, Nat.min_eq_left (by omega)]
 simp only [M2, F8]
theorem B6U {l : List EnV} {i : Nat} {x : EnV} (hx : l[i]? = some x) (h : x.st = 1) : (F8 l)[(F8 (l.take i)).length]? = some (i, x) := by
 have e : l = l.take (i + 1) ++ l.drop (i + 1) := (List.take_append_drop _ _).symm
 conv => lhs; arg 1; rw [e]
 rw [F8, B0a, ← F8, B1j hx, if_pos h, List.append_assoc, List.getElem?_append_right (by omega)]
 simp
abbrev B9m (b : Nat) : Value := .func (.func 138) #[] #[.pointer (some ⟨b, 0, none⟩)]
theorem B4a (w : World) (v : Value) (hv : ∃ a n c, v = .slice a n c) : Fn PR B5 90 #[v] w (Rn [] w (fun b u => u = B9m b) fun b => [.pt b (.cells #[v] 176)]) := by
 obtain ⟨a, n, c, rfl⟩ := hv
 refine A5Y (TW.go (κ := false) (S := []) ?_)
 unfold A0Q
 (have zz:=trivial;repeat((first|clear zz|with_reducible first|refine A3 ?_|refine A5 fun _=>?_|refine A4 fun _=>?_);try simp(disch:=first|omega|assumption|((repeat(first|exact A1|exact uH|apply A2|apply uT));first|done|fail)|(simp;first|done|omega|fail))[]))
 rename_i b
 exact W9 b rfl (by simp)
theorem B4E (b : Nat) (v : Value) (l : List EnV) (hn : l.length ≤ 1000000) : A1u (B9m b) [.pt b (.cells #[v] 176)] (RqS v l.length (l.flatMap F3)) ((F8 l).map A3l) := by
 refine ⟨_, _, _, rfl, fun y J E hJ hE stJ stE hy w0 h0 => ?_⟩
 obtain ⟨a, c, hv, hr⟩ := (hJ _ _ _ h0).2
 subst hv
 refine A3k (A3e (TW.at (κ := true) ?_ (hJ _ _ _ h0).1))
 unfold q8
 (have zz:=trivial;repeat((first|clear zz|with_reducible first|refine A3 ?_|refine A5 fun _=>?_|refine A4 fun _=>?_);try simp(disch:=first|omega|assumption|((repeat(first|exact A1|exact uH|apply A2|apply uT));first|done|fail)|(simp;first|done|omega|fail))[]))
 refine A2c l.length (fun i => (F8 (l.take i)).length) (fun _ => _) hJ stJ (by simpa [F8, M2] using h0) fun i a' hi hJi hRi L hL => ?_
 by_cases hlt : i < l.length
 ·obtain ⟨_, _, hv, hr⟩ := hRi
  obtain ⟨b', o, hb, hrow, hnb⟩ := hr (by omega)
  cases hv
  subst hb
  obtain ⟨x, hx⟩ : ∃ x, l[i]? = some x := ⟨_, List.getElem?_eq_getElem hlt⟩
  have h1 := hrow.at (f := F3) (k := 4) (fun _ => rfl) hx
  rw [F3] at h1
  have hat := B1j hx
  by_cases c1 : x.st = 1
  ·have hg := B6U hx c1
   rw [if_pos c1] at hat
   obtain ⟨hgi, hg'⟩ := List.getElem?_eq_some_iff.1 hg
   have hlen : (F8 (l.take (i + 1))).length = (F8 (l.take i)).length + 1 := by rw [hat]; simp
   rw [hlen] at hL
   (have zz:=trivial;repeat((first|clear zz|with_reducible first|refine A3 ?_|refine A5 fun _=>?_|refine A4 fun _=>?_);try simp(disch:=first|omega|assumption|((repeat(first|exact A1|exact uH|apply A2|apply uT));first|done|fail)|(simp;first|done|omega|fail))[hlt, h1, c1]))
   refine A3H hJ hE stJ hy hJi (by simpa using hgi) (by rw [List.getElem_map, hg', A3l, c1]) (fun w3 h => ?_) (fun w3 h => ?_)
   ·(have zz:=trivial;repeat((first|clear zz|with_reducible first|refine A3 ?_|refine A5 fun _=>?_|refine A4 fun _=>?_);try simp(disch:=first|omega|assumption|((repeat(first|exact A1|exact uH|apply A2|apply uT));first|done|fail)|(simp;first|done|omega|fail))[]))
    exact fun w' hw' => hL hlt w' (stJ _ _ _ _ _ h (hw'.sub (by simp)))
   ·(have zz:=trivial;repeat((first|clear zz|with_reducible first|refine A3 ?_|refine A5 fun _=>?_|refine A4 fun _=>?_);try simp(disch:=first|omega|assumption|((repeat(first|exact A1|exact uH|apply A2|apply uT));first|done|fail)|(simp;first|done|omega|fail))[]))
    exact A1B stE h
  ·rw [if_neg c1, List.append_nil] at hat
   rw [hat] at hL
   (have zz:=trivial;repeat((first|clear zz|with_reducible first|refine A3 ?_|refine A5 fun _=>?_|refine A4 fun _=>?_);try simp(disch:=first|omega|assumption|((repeat(first|exact A1|exact uH|apply A2|apply uT));first|done|fail)|(simp;first|done|omega|fail))[hlt, h1, c1]))
   exact fun w' hw' => hL hlt w' (stJ _ _ _ _ _ hJi (hw'.sub (by simp)))
 ·obtain rfl : i = l.length := by omega
  rw [List.take_length] at hJi
  (have zz:=trivial;repeat((first|clear zz|with_reducible first|refine A3 ?_|refine A5 fun _=>?_|refine A4 fun _=>?_);try simp(disch:=first|omega|assumption|((repeat(first|exact A1|exact uH|apply A2|apply uT));first|done|fail)|(simp;first|done|omega|fail))[]))
  exact A1N stJ (by simpa using hJi)
end Go.Proofs.YtpbmephflllolaaGreat
namespace Go.Proofs.YtpbmephflllolaaGreat
open Go
theorem B41 {w : World} {b : Nat} {T : TypeId} {l : List Value} (h : bl w b = some (.cells l.toArray T (0, 0))) : d4 w b 0 l.length = some l := A13 fun i hi => by
 rw [G7 h]; simp
theorem A8m (w : World) (v : Value) (l : List EnV) (f : FuncId) (cap : List Value) (o : Option (List EnV)) (ho : ∀ m, o = some m → m.length = l.length) (hn : l.length ≤ 1000000) (hv : G1 w v l.length (l.flatMap F3)) (he : A9 PR f)
  (hf : ∀ w' r, KS false [] w w' → (∀ b ∈ B3 [E7 r l], sz w ≤ b) → LW false (B3 [E7 r l]) w' [E7 r l] w' → Fn PR B5 f (r :: cap).toArray w' (Rn (B3 [E7 r l]) w' (fun (_ : Unit) u => u = .bool o.isSome) fun _ => [E7 r (o.getD l)])) :
  Fn PR B5 153 #[v, .func (.func f) #[] cap.toArray] w (Rn [] w (fun r u => u = .tuple #[if o.isSome then r else v, .bool o.isSome]) fun r => [E7 r (o.getD l)]) := by
 refine A7y (TW.go (κ := false) (S := []) ?_)
 unfold A2M
 refine N7 S3 (fun w' hw' => B0M w' v l.length (l.flatMap F3) hn (m5 l) (B0K l) (hv.ks hw'.ks (by simp))) ?_
 rintro _ r rfl
 (have zz:=trivial;repeat((first|clear zz|with_reducible first|refine A3 ?_|refine A5 fun _=>?_|refine A4 fun _=>?_);try simp(disch:=first|omega|assumption|((repeat(first|exact A1|exact uH|apply A2|apply uT));first|done|fail)|(simp;first|done|omega|fail))[]))
 refine D8 (Hc := [E7 r l]) he (fun w' hw hs => hf w' r hw.ks (fun b hb => by
  obtain ⟨s, hs1, hb1⟩ := N1.1 hb
  rcases (hw.own s (List.mem_append_left _ hs1) b hb1).1 with h | h
  ·simp at h
  ·exact h) hs) (by (repeat' constructor)) ?_
 rintro _ _ rfl
 cases o with
 | none =>
  (have zz:=trivial;repeat((first|clear zz|with_reducible first|refine A3 ?_|refine A5 fun _=>?_|refine A4 fun _=>?_);try simp(disch:=first|omega|assumption|((repeat(first|exact A1|exact uH|apply A2|apply uT));first|done|fail)|(simp;first|done|omega|fail))[]))
  exact D4 r rfl (by (repeat' constructor))
 | some m =>
  (have zz:=trivial;repeat((first|clear zz|with_reducible first|refine A3 ?_|refine A5 fun _=>?_|refine A4 fun _=>?_);try simp(disch:=first|omega|assumption|((repeat(first|exact A1|exact uH|apply A2|apply uT));first|done|fail)|(simp;first|done|omega|fail))[]))
  exact D4 r rfl (by (repeat' constructor))
theorem B75 (w : World) (v : Value) (l : List EnV) (x : EnV) (b : Nat) (hk : x.key.size < 2 ^ 60) (hn : l.length ≤ 1000000) (hx : d4 w b 0 4 = some (F3 x)) (hb : b ∉ B3 [E7 v l]) (hw : LW false (B3 [E7 v l]) w [E7 v l] w) :
  Fn PR B5 155 #[v, .pointer (some ⟨b, 0, none⟩)] w (Rn (B3 [E7 v l]) w (fun (_ : Unit) u => u = .bool (G5 l x).isSome) fun _ => [E7 v ((G5 l x).getD l)]) := by
 refine A8g (TW.goH (κ := false) (S := B3 [E7 v l]) ?_ hw)
 unfold A3G
 rw [F3] at hx
 (have zz:=trivial;repeat((first|clear zz|with_reducible first|refine A3 ?_|refine A5 fun _=>?_|refine A4 fun _=>?_);try simp(disch:=first|omega|assumption|((repeat(first|exact A1|exact uH|apply A2|apply uT));first|done|fail)|(simp;first|done|omega|fail))[hx]))
 refine D8 (Hc := [E7 v l]) A0P (fun w' hw hs => B33 w' v l x hk hn hs) (by (repeat' constructor)) ?_
 rintro _ _ rfl
 exact D4 () rfl (by (repeat' constructor))
theorem B3b (w : World) (v : Value) (l : List EnV) (key : ByteArray) (bk dl : Int) (hk : key.size < 2 ^ 60) (hn : l.length ≤ 1000000) (hv : G1 w v l.length (l.flatMap F3)) :
  Fn PR B5 106 #[v, .string key, .int .i64 bk, .int .i64 dl] w (Rn [] w (fun r u => u = .tuple #[if (G5 l ⟨1, key, bk, dl⟩).isSome then r else v, .int .i64 (if (G5 l ⟨1, key, bk, dl⟩).isSome then 0 else 12)]) fun r => [E7 r ((G5 l ⟨1, key, bk, dl⟩).getD l)]) := by
 refine B1m (TW.go (κ := false) (S := []) ?_)
 unfold A59
 (have zz:=trivial;repeat((first|clear zz|with_reducible first|refine A3 ?_|refine A5 fun _=>?_|refine A4 fun _=>?_);try simp(disch:=first|omega|assumption|((repeat(first|exact A1|exact uH|apply A2|apply uT));first|done|fail)|(simp;first|done|omega|fail))[]))
 rename_i b
 refine N7 A1g (fun w' hw' => A8m w' v l 155 [.pointer (some ⟨b, 0, none⟩)] (G5 l ⟨1, key, bk, dl⟩) (fun m h => A4l h) hn (hv.ks hw'.ks (by simp)) A8B
  fun w2 r h hf hr => ?_) ?_
 ·have hp := hw'.pt (b := b) (by (repeat constructor))
  have hb : b < sz w' := G3 hp
  refine B75 w2 r l ⟨1, key, bk, dl⟩ b hk hn ?_ (fun hc => by have := hf b hc; omega) hr
  have hp2 := h.2.1 b _ (by simp) rfl hp
  exact B41 hp2
 ·rintro r _ rfl
  cases h : G5 l ⟨1, key, bk, dl⟩ with
  | none =>
   (have zz:=trivial;repeat((first|clear zz|with_reducible first|refine A3 ?_|refine A5 fun _=>?_|refine A4 fun _=>?_);try simp(disch:=first|omega|assumption|((repeat(first|exact A1|exact uH|apply A2|apply uT));first|done|fail)|(simp;first|done|omega|fail))[]))
   exact D4 r (by simp) (by (repeat' constructor))
  | some m =>
   (have zz:=trivial;repeat((first|clear zz|with_reducible first|refine A3 ?_|refine A5 fun _=>?_|refine A4 fun _=>?_);try simp(disch:=first|omega|assumption|((repeat(first|exact A1|exact uH|apply A2|apply uT));first|done|fail)|(simp;first|done|omega|fail))[]))
   exact D4 r (by simp) (by (repeat' constructor))
def Q4 : EnV := ⟨2, P4, 0, 0⟩
def L8 (l : List EnV) : Prop := ∀ x ∈ l, x.key.size < 2 ^ 60
def W6 (acc : List EnV) (x : EnV) : List EnV := (G5 acc x).getD acc
theorem B9D (acc : List EnV) (x : EnV) : (W6 acc x).length = acc.length := by
 unfold W6
 cases h : G5 acc x with
 | none => rfl
 | some m => exact A4l h
def b8 (l : List EnV) : List EnV := (F8 l).foldl (fun acc p => W6 acc p.2) (newE l.length)
theorem B29 (L : List (Nat × EnV)) (a : List EnV) : (L.foldl (fun acc p => W6 acc p.2) a).length = a.length := by
 induction L generalizing a with
 | nil => rfl
 | cons p L ih => rw [List.foldl_cons, ih, B9D]
theorem A43 (n : Nat) : (newE n).length = min n 64 := by simp [newE]
theorem B0r {i : Nat} {l : List EnV} : ∀ p ∈ M2 i l, p.2 ∈ l ∧ p.2.st = 1 := by
 induction l generalizing i with
 | nil => intro p hp; cases hp
 | cons x l ih =>
  intro p hp
  simp only [M2] at hp
  split at hp
  ·rcases List.mem_cons.1 hp with rfl | hp
   ·exact ⟨by simp, ‹_›⟩
   ·obtain ⟨h1, h2⟩ := ih p hp; exact ⟨by simp [h1], h2⟩
  ·obtain ⟨h1, h2⟩ := ih p hp; exact ⟨by simp [h1], h2⟩
theorem A1D {κ : Bool} {S : List Nat} {w0 : World} {H : List Res} {K0 : WP} {e : TypeId} {k : Nat} {v : Value} {q : Nat} {xs : List Value} (hm : Res.own e k v q xs ∈ H) (h : v.cells = #[v] → v.cells.size = 1 → v.cells.toList.all plain = true → TW κ S w0 H K0) : TW κ S w0 H K0 := fun w hw => by
 obtain ⟨a, c, rfl⟩ := M8.form (hw.hold _ hm); exact h rfl rfl rfl w hw
theorem k9 {κ : Bool} {S : List Nat} {w0 : World} {H : List Res} {K0 : WP} {e : TypeId} {k : Nat} {v : Value} {q : Nat} {xs : List Value} (hm : Res.own e k v q xs ∈ H) (h : ∀ a c, v = .slice a q c → TW κ S w0 H K0) : TW κ S w0 H K0 := fun w hw => by
 obtain ⟨a, c, rfl⟩ := M8.form (hw.hold _ hm); exact h a c rfl w hw
theorem B35 (w : World) (v : Value) (l : List EnV) (hks : L8 l) (hn : l.length ≤ 1000000) (hv : G1 w v l.length (l.flatMap F3)) :
  Fn PR B5 114 #[v] w (Rn [] w (fun r u => u = r) fun r => [E7 r (b8 l)]) := by
 refine B0u (TW.go (κ := false) (S := []) ?_)
 unfold A5K
 obtain ⟨a, c, rfl, _⟩ := hv.form
 (have zz:=trivial;repeat((first|clear zz|with_reducible first|refine A3 ?_|refine A5 fun _=>?_|refine A4 fun _=>?_);try simp(disch:=first|omega|assumption|((repeat(first|exact A1|exact uH|apply A2|apply uT));first|done|fail)|(simp;first|done|omega|fail))[]))
 refine N7 A46 (fun w' _ => A7Y w' l.length hn) ?_
 rintro _ r rfl
 refine A1D (e := 160) (k := 4) (v := r) (q := (newE l.length).length) (xs := (newE l.length).flatMap F3) (by (repeat constructor)) fun hr1 hr2 hr3 => ?_
 (have zz:=trivial;repeat((first|clear zz|with_reducible first|refine A3 ?_|refine A5 fun _=>?_|refine A4 fun _=>?_);try simp(disch:=first|omega|assumption|((repeat(first|exact A1|exact uH|apply A2|apply uT));first|done|fail)|(simp;first|done|omega|fail))[hr1]))
 rename_i bt
 refine N7 A0B (fun w' _ => B4a w' (.slice a l.length c) ⟨_, _, _, rfl⟩) ?_
 rintro b _ rfl
 refine y4 (B4E b (.slice a l.length c) l hn) (A4r _) (fun i (acc : List EnV) => acc = ((F8 l).take i).foldl (fun acc p => W6 acc p.2) (newE l.length)) (fun _ acc => [.pt bt (.cells #[r] 176), E7 r acc])
  (fun c (y : Unit) => False) (fun y => []) (newE l.length) (by simp) ?_ ?_ ?_ ?_ (by simp)
 ·intro i _ F w1 _ hw
  exact RqS.of hv (fun h => by rw [m5]; omega) hw
 ·rintro i hi acc F hψ K' hK _
  have hi' : i < (F8 l).length := by simpa using hi
  have hm : (F8 l)[i] ∈ F8 l := List.getElem_mem hi'
  have hst : ((F8 l).take (i + 1)).foldl (fun acc p => W6 acc p.2) (newE l.length) = W6 acc (F8 l)[i].2 := by
   rw [List.take_add_one, List.getElem?_eq_getElem hi', Option.toList_some, List.foldl_append, ← hψ]; rfl
  have hlen : acc.length ≤ 64 := by rw [hψ, B29, A43]; omega
  simp only [List.getElem_map]
  generalize (F8 l)[i] = p at *
  have hkp := hks p.2 (B0r p hm).1
  simp only [A3l, VF.app]
  (have zz:=trivial;repeat((first|clear zz|with_reducible first|refine A3 ?_|refine A5 fun _=>?_|refine A4 fun _=>?_);try simp(disch:=first|omega|assumption|((repeat(first|exact A1|exact uH|apply A2|apply uT));first|done|fail)|(simp;first|done|omega|fail))[]))
  refine D8 (Hc := [E7 r acc]) A0P (fun w' hw hs => B33 w' r acc p.2 hkp (by omega) hs) (by (repeat' constructor)) ?_
  rintro _ _ rfl
  refine TW.sub (TW.perm (hK (W6 acc p.2) hst.symm) ?_) (H' := E7 r (W6 acc p.2) :: .pt bt (.cells #[r] 176) :: F) ?_
  ·exact List.Perm.swap ..
  ·simp only [W6]; ((try simp only [List.cons_append, List.nil_append, List.append_assoc]); (repeat (first | exact List.Sublist.refl _ | exact List.nil_sublist _ | with_reducible apply List.Sublist.cons_cons | apply List.Sublist.cons)); first | done | fail)
 ·intro acc hψ
  simp only [List.length_map, List.take_length] at hψ
  subst hψ
  (have zz:=trivial;repeat((first|clear zz|with_reducible first|refine A3 ?_|refine A5 fun _=>?_|refine A4 fun _=>?_);try simp(disch:=first|omega|assumption|((repeat(first|exact A1|exact uH|apply A2|apply uT));first|done|fail)|(simp;first|done|omega|fail))[]))
  exact D4 r rfl (by simp only [b8]; (repeat' constructor))
 ·rintro _ _ h; exact h.elim
def V7 (l : List EnV) (key : ByteArray) : Option (List EnV) := if D6 l key < 0 then none else some (l.set (D6 l key).toNat Q4)
theorem B2w {l m : List EnV} {key : ByteArray} (h : V7 l key = some m) : m.length = l.length := by
 unfold V7 at h
 by_cases c : D6 l key < 0
 ·rw [if_pos c] at h; cases h
 ·rw [if_neg c] at h; injection h with h; rw [← h]; simp
def L0 (u : List EnV) : List EnV := if u.length < 2 * L6 u 2 then b8 u else u
def T1 (l : List EnV) (key : ByteArray) : List EnV := match V7 l key with | some u => L0 u | none => l
theorem B3N (w : World) (v : Value) (l : List EnV) (key : ByteArray) (b : Nat) (hk : key.size < 2 ^ 60) (hn : l.length ≤ 1000000) (hx : w.cell? ⟨b, 0, none⟩ = some (.string key)) (hb : b ∉ B3 [E7 v l]) (hw : LW false (B3 [E7 v l]) w [E7 v l] w) :
  Fn PR B5 154 #[v, .pointer (some ⟨b, 0, none⟩)] w (Rn (B3 [E7 v l]) w (fun (_ : Unit) u => u = .bool (V7 l key).isSome) fun _ => [E7 v ((V7 l key).getD l)]) := by
 refine A6b (TW.goH (κ := false) (S := B3 [E7 v l]) ?_ hw)
 unfold A1F
 (have zz:=trivial;repeat((first|clear zz|with_reducible first|refine A3 ?_|refine A5 fun _=>?_|refine A4 fun _=>?_);try simp(disch:=first|omega|assumption|((repeat(first|exact A1|exact uH|apply A2|apply uT));first|done|fail)|(simp;first|done|omega|fail))[hx]))
 refine D2 n8 (fun w' hw' => y9 w' v l key hk hn (P2.own (by (repeat constructor)) w' hw')) ?_
 by_cases c1 : D6 l key < 0
 ·have hd : V7 l key = none := if_pos c1
  (have zz:=trivial;repeat((first|clear zz|with_reducible first|refine A3 ?_|refine A5 fun _=>?_|refine A4 fun _=>?_);try simp(disch:=first|omega|assumption|((repeat(first|exact A1|exact uH|apply A2|apply uT));first|done|fail)|(simp;first|done|omega|fail))[c1]))
  exact D4 () (by simp [hd]) (by simp only [hd, Option.getD_none]; (repeat' constructor))
 ·have hd : V7 l key = some (l.set (D6 l key).toNat Q4) := if_neg c1
  have hlt := u5 (l := l) (key := key) (by omega)
  have h0 : 0 ≤ D6 l key := by omega
  obtain ⟨i, hi⟩ : ∃ i : Nat, D6 l key = i := ⟨(D6 l key).toNat, by omega⟩
  rw [hi] at hd hlt c1 ⊢
  rw [Int.toNat_natCast] at hd hlt
  refine x9 (e := 160) (k := 4) (v := v) (q := l.length) (xs := l.flatMap F3) (by (repeat constructor)) (by omega) ?_
  rintro g c rfl
  (have zz:=trivial;repeat((first|clear zz|with_reducible first|refine A3 ?_|refine A5 fun _=>?_|refine A4 fun _=>?_);try simp(disch:=first|omega|assumption|((repeat(first|exact A1|exact uH|apply A2|apply uT));first|done|fail)|(simp;first|done|omega|fail))[c1, hlt]))
  refine A4x (by (repeat constructor)) (by simp) (by rw [m5]; omega) (by simp) ?_
  refine D4 () (by simp [hd]) ?_
  have := A6C (f := F3) (k := 4) (fun _ => rfl) l i Q4 hlt
  simp only [hd, Option.getD_some, E7, List.length_set, ← this]
  (repeat' constructor)
theorem A9S (w : World) (v : Value) (l : List EnV) (key : ByteArray) (hk : key.size < 2 ^ 60) (hks : L8 l) (hn : l.length ≤ 1000000) (hv : G1 w v l.length (l.flatMap F3)) :
  Fn PR B5 105 #[v, .string key] w (Rn [] w (fun r u => u = .tuple #[if (V7 l key).isSome then r else v, .bool (V7 l key).isSome]) fun r => [E7 r (T1 l key)]) := by
 refine A8J (TW.go (κ := false) (S := []) ?_)
 unfold A3N
 (have zz:=trivial;repeat((first|clear zz|with_reducible first|refine A3 ?_|refine A5 fun _=>?_|refine A4 fun _=>?_);try simp(disch:=first|omega|assumption|((repeat(first|exact A1|exact uH|apply A2|apply uT));first|done|fail)|(simp;first|done|omega|fail))[]))
 rename_i b
 refine N7 A1g (fun w' hw' => A8m w' v l 154 [.pointer (some ⟨b, 0, none⟩)] (V7 l key) (fun m h => B2w h) hn (hv.ks hw'.ks (by simp)) A5b
  fun w2 r h hf hr => ?_) ?_
 ·have hp := hw'.pt (b := b) (by (repeat constructor))
  have hb : b < sz w' := G3 hp
  exact B3N w2 r l key b hk hn (h.cell (by simp) (hw'.cell1 (by (repeat constructor)))) (fun hc => by have := hf b hc; omega) hr
 ·rintro r _ rfl
  cases h : V7 l key with
  | none =>
   have e : T1 l key = l := by simp [T1, h]
   (have zz:=trivial;repeat((first|clear zz|with_reducible first|refine A3 ?_|refine A5 fun _=>?_|refine A4 fun _=>?_);try simp(disch:=first|omega|assumption|((repeat(first|exact A1|exact uH|apply A2|apply uT));first|done|fail)|(simp;first|done|omega|fail))[]))
   exact D4 r (by simp) (by rw [e]; (repeat' constructor))
  | some m =>
   have e : T1 l key = L0 m := by simp [T1, h]
   have hml := B2w h
   have hmk : L8 m := by
    unfold V7 at h
    by_cases c : D6 l key < 0
    ·rw [if_pos c] at h; cases h
    ·rw [if_neg c] at h; injection h with h; rw [← h]
     intro x hx
     rcases List.mem_or_eq_of_mem_set hx with hx | rfl
     ·exact hks x hx
     ·simp [Q4]
   simp only [Option.isSome_some, if_true, Option.getD_some]
   refine k9 (e := 160) (k := 4) (v := r) (q := m.length) (xs := m.flatMap F3) (by (repeat constructor)) ?_
   rintro ra rc rfl
   (have zz:=trivial;repeat((first|clear zz|with_reducible first|refine A3 ?_|refine A5 fun _=>?_|refine A4 fun _=>?_);try simp(disch:=first|omega|assumption|((repeat(first|exact A1|exact uH|apply A2|apply uT));first|done|fail)|(simp;first|done|omega|fail))[]))
   refine D2 A2w (fun w' hw' => B2p w' _ m 2 (by omega) (P2.own (by (repeat constructor)) w' hw')) ?_
   have hcl : L6 m 2 ≤ m.length := List.countP_le_length
   by_cases c1 : m.length < 2 * L6 m 2
   ·have c1' : (m.length : Int) < 2 * (L6 m 2 : Nat) := by omega
    have e2 : T1 l key = b8 m := by rw [e, L0, if_pos c1]
    (have zz:=trivial;repeat((first|clear zz|with_reducible first|refine A3 ?_|refine A5 fun _=>?_|refine A4 fun _=>?_);try simp(disch:=first|omega|assumption|((repeat(first|exact A1|exact uH|apply A2|apply uT));first|done|fail)|(simp;first|done|omega|fail))[c1']))
    refine N7 A4N (fun w' hw' => B35 w' _ m hmk (by omega) (P2.own (by (repeat constructor)) w' hw')) ?_
    rintro _ r rfl
    exact D4 r rfl (by rw [e2]; (repeat' constructor))
   ·have c1' : ¬ (m.length : Int) < 2 * (L6 m 2 : Nat) := by omega
    have e2 : T1 l key = m := by rw [e, L0, if_neg c1]
    (have zz:=trivial;repeat((first|clear zz|with_reducible first|refine A3 ?_|refine A5 fun _=>?_|refine A4 fun _=>?_);try simp(disch:=first|omega|assumption|((repeat(first|exact A1|exact uH|apply A2|apply uT));first|done|fail)|(simp;first|done|omega|fail))[c1']))
    exact D4 (.slice ra m.length rc) rfl (by rw [e2]; (repeat' constructor))
def s0 (l : List EnV) : List ByteArray := (F8 l).map (·.2.key)
theorem B90 (w : World) (v : Value) (l : List EnV) (hn : l.length ≤ 1000000) (hv : G1 w v l.length (l.flatMap F3)) :
  Fn PR B5 47 #[v] w (Rn [] w (fun r u => u = r) fun r => [.own 9 1 r (s0 l).length ((s0 l).map Value.string)]) := by
 refine B03 (TW.go (κ := false) (S := []) ?_)
 unfold A5D
 obtain ⟨a, c, rfl, _⟩ := hv.form
 (have zz:=trivial;repeat((first|clear zz|with_reducible first|refine A3 ?_|refine A5 fun _=>?_|refine A4 fun _=>?_);try simp(disch:=first|omega|assumption|((repeat(first|exact A1|exact uH|apply A2|apply uT));first|done|fail)|(simp;first|done|omega|fail))[]))
 rename_i bt
 refine N7 A0B (fun w' _ => B4a w' (.slice a l.length c) ⟨_, _, _, rfl⟩) ?_
 rintro b _ rfl
 refine s6 9 1 ?_
 have hll : (F8 l).length ≤ l.length := by
  have : ∀ (m : List EnV) (i : Nat), (M2 i m).length ≤ m.length := by
   intro m
   induction m with
   | nil => intro i; simp [M2]
   | cons x m ih => intro i; have := ih (i + 1); simp only [M2]; split <;> simp <;> omega
  exact this l 0
 refine TW.eqH (H' := [.own 9 1 (.slice none 0 0) 0 [], .pt b (.cells #[.slice a l.length c] 176), .pt bt (.cells #[.slice none 0 0] 48)]) (by simp) ?_
 refine TW.perm ?_ (H' := [.pt b (.cells #[.slice a l.length c] 176), .own 9 1 (.slice none 0 0) 0 [], .pt bt (.cells #[.slice none 0 0] 48)]) (List.Perm.swap ..)
 refine y4 (B4E b (.slice a l.length c) l hn) (A4r _) (fun i (x : Option Addr × Nat) => True) (fun i x => [.own 9 1 (.slice x.1 i x.2) i (((F8 l).map fun p => Value.string p.2.key).take i), .pt bt (.cells #[.slice x.1 i x.2] 48)])
  (fun c (y : Unit) => False) (fun y => []) (none, 0) trivial ?_ ?_ ?_ ?_ (by simp)
 ·intro i _ F w1 _ hw
  exact RqS.of hv (fun h => by rw [m5]; omega) hw
 ·rintro i hi ⟨xa, xc⟩ F _ K' hK _
  have hi' : i < (F8 l).length := by simpa using hi
  have hst : ((F8 l).map fun p => Value.string p.2.key).take (i + 1) = ((F8 l).map fun p => Value.string p.2.key).take i ++ [Value.string (F8 l)[i].2.key] := by
   rw [List.take_add_one, List.getElem?_map, List.getElem?_eq_getElem hi']; rfl
  simp only [hst] at hK
  simp only [List.getElem_map]
  generalize (F8 l)[i] = p at *
  simp only [A3l, VF.app]
  (have zz:=trivial;repeat((first|clear zz|with_reducible first|refine A3 ?_|refine A5 fun _=>?_|refine A4 fun _=>?_|refine D0 fun _=>?_|refine C7 (hK:=fun _=>?_)|refine C9 (hK:=fun _=>?_)|refine D1 (hK:=fun _=>?_)|refine C8 (hK:=fun _=>?_)|refine C6 (hK:=fun _=>?_));try simp(disch:=first|omega|assumption|((repeat(first|exact A1|exact uH|apply A2|apply uT));first|done|fail)|(simp;first|done|omega|fail))[]))
  refine A0v (e := 9) (k := 1) (q := i) (r := 1) (xs := ((F8 l).map fun p => Value.string p.2.key).take i) (news := [Value.string p.2.key]) (by (repeat constructor)) (P2.own (by (repeat constructor))) (by decide) (by simp) (by simp) (by simp only [maxLen]; omega) (by omega) fun a' c' => ?_
  (have zz:=trivial;repeat((first|clear zz|with_reducible first|refine A3 ?_|refine A5 fun _=>?_|refine A4 fun _=>?_);try simp(disch:=first|omega|assumption|((repeat(first|exact A1|exact uH|apply A2|apply uT));first|done|fail)|(simp;first|done|omega|fail))[]))
  refine TW.sub (TW.perm (hK (a', c') trivial) ?_) (H' := .own 9 1 (.slice a' (i + 1) c') (i + 1) (((F8 l).map fun p => Value.string p.2.key).take i ++ [Value.string p.2.key]) :: .pt bt (.cells #[.slice a' (i + 1) c'] 48) :: F) ?_
  ·exact List.Perm.refl _
  ·((try simp only [List.cons_append, List.nil_append, List.append_assoc]); (repeat (first | exact List.Sublist.refl _ | exact List.nil_sublist _ | with_reducible apply List.Sublist.cons_cons | apply List.Sublist.cons)); first | done | fail)
 ·rintro ⟨xa, xc⟩ _
  (have zz:=trivial;repeat((first|clear zz|with_reducible first|refine A3 ?_|refine A5 fun _=>?_|refine A4 fun _=>?_);try simp(disch:=first|omega|assumption|((repeat(first|exact A1|exact uH|apply A2|apply uT));first|done|fail)|(simp;first|done|omega|fail))[]))
  refine D4 (.slice xa (F8 l).length xc) rfl ?_
  rw [List.take_of_length_le (by simp)]
  simp only [s0, List.length_map, List.map_map]
  exact Sels.cons Sel.here Sels.nil
 ·rintro _ _ h; exact h.elim
def P5 (l : List EnV) : Bool := (F8 l).all fun p => decide (D6 l p.2.key = p.1)
end Go.Proofs.YtpbmephflllolaaGreat
namespace Go.Proofs.YtpbmephflllolaaGreat
open Go
def A6Y (X : Nat → Prop) (t0 : Value) (R : Value → WP) : WP :=
 jn (n := 2) (fun t3 t10 =>
 R t3) fun J1 =>
 B2 PR X 108 [t0] fun t7 =>
 B2 PR X 107 [t7, (.func (.func 109) #[] #[])] fun t8 =>
 A0 PR (A8 .len #[208] 0 [t8]) fun t9 =>
 lp (n := 2) (fun L2 t3_1 t10_1 =>
 A0 PR (binOp .lss 3 t10_1 t9) fun t11 =>
 jn (n := 0) (
 jn (n := 1) (fun t3_2 =>
 A0 PR (binOp .add 3 t10_1 (.int .i64 1)) fun t18 =>
 L2 t3_2 t18) fun J3 =>
 A0 PR (Instr.indexAt 208 t8 t10_1) fun t12 =>
 A6 PR (Instr.loadAt 211 t12) fun t13 =>
 B1 PR X (Instr.alloc 211 true (.tuple #[])) fun t5 =>
 C3 PR X (Instr.storeAt 211 t5 t13) <|
 A6 PR (Instr.loadAt 211 t5) fun t15 =>
 B1 PR X (Instr.buildSlice 90 1 #[(0, t15)]) fun t16 =>
 B1 PR X (A8 .append #[90, 90] 90 [t3_1, t16]) fun t17 =>
 J3 t17) fun J4 =>
 C5 t11 (
 J4) (
 J1 t3_1 t10_1)) (.slice none 0 0) (.int .i64 0)
theorem B1L : A9 PR 59 := A7 Tryz.func59 (by kernel_rfl) rfl
theorem B2a {X : Nat → Prop} {t0 : Value} {R : Value → WP} {w : World} (h : A6Y X t0 R w) : Fn PR X 59 #[t0] w R := D5 (args := [t0]) mixed Tryz.func59 (by kernel_rfl) h
def A33 (X : Nat → Prop) (t0 : Value) (R : Value → WP) : WP :=
 B1 PR X (Instr.box 32 t0) fun t1 =>
 A0 PR (Instr.makeFunc (.func 159) #[] #[t1]) fun t3 =>
 R t3
theorem A8n : A9 PR 108 := A7 Tryz.func108 (by kernel_rfl) rfl
theorem A9Q {X : Nat → Prop} {t0 : Value} {R : Value → WP} {w : World} (h : A33 X t0 R w) : Fn PR X 108 #[t0] w R := D5 (args := [t0]) mixed Tryz.func108 (by kernel_rfl) h
def v6 (X : Nat → Prop) (t0 t1 : Value) (R : Value → WP) : WP :=
 B1 PR X (Instr.box 211 t0) fun t2 =>
 B1 PR X (Instr.box 211 t1) fun t3 =>
 drw <|
 A0 PR (Instr.fieldAt 211 t2 0) fun t5 =>
 A6 PR (Instr.loadAt 129 t5) fun t6 =>
 A0 PR (Instr.fieldAt 211 t3 0) fun t7 =>
 A6 PR (Instr.loadAt 129 t7) fun t8 =>
 A0 PR (Instr.fieldAt 211 t2 1) fun t10 =>
 A6 PR (Instr.loadAt 3 t10) fun t11 =>
 A0 PR (Instr.fieldAt 211 t3 1) fun t12 =>
 A6 PR (Instr.loadAt 3 t12) fun t13 =>
 B2 PR X 162 [t6, t8] fun t9 =>
 watch PR [(none, (Instr.loadAt 3 t12), t13), (none, (Instr.loadAt 3 t10), t11)] <|
 B2 PR X 69 [t11, t13] fun t14 =>
 B1 PR X (Instr.buildSlice 34 2 #[(0, t9), (1, t14)]) fun t15 =>
 B2 PR X 161 [t15] fun t16 =>
 R t16
theorem A3p : A9 PR 109 := A7 Tryz.func109 (by kernel_rfl) rfl
theorem A31 {X : Nat → Prop} {t0 t1 : Value} {R : Value → WP} {w : World} (h : v6 X t0 t1 R w) : Fn PR X 109 #[t0, t1] w R := D5 (args := [t0, t1]) mixed Tryz.func109 (by kernel_rfl) h
def A1k (X : Nat → Prop) (t0 t1 : Value) (R : Value → WP) : WP :=
 A6 PR (Instr.loadAt 32 t1) fun t6 =>
 A0 PR (A8 .len #[32] 0 [t6]) fun t7 =>
 lp (n := 1) (fun L1 t8 =>
 A0 PR (binOp .lss 3 t8 t7) fun t9 =>
 jn (n := 0) (
 jn (n := 1) (fun t17 =>
 A0 PR (binOp .add 3 t8 (.int .i64 1)) fun t31 =>
 L1 t31) fun J2 =>
 A0 PR (Instr.indexAt 32 t6 t8) fun t10 =>
 A6 PR (Instr.loadAt 75 t10) fun t11 =>
 B1 PR X (Instr.alloc 75 true (.tuple #[])) fun t4 =>
 C3 PR X (Instr.storeAt 75 t4 t11) <|
 A0 PR (Instr.fieldAt 75 t4 1) fun t12 =>
 A6 PR (Instr.loadAt 3 t12) fun t13 =>
 A0 PR (A8 .min #[3, 3] 0 [t13, (.int .i64 16)]) fun t14 =>
 A0 PR (A8 .max #[3, 3] 0 [(.int .i64 0), t14]) fun t15 =>
 A0 PR (binOp .mul 3 (.int .i64 8) t15) fun t16 =>
 lp (n := 1) (fun L3 t17_1 =>
 A0 PR (binOp .lss 3 t17_1 t16) fun t18 =>
 jn (n := 0) (
 jn (n := 0) (
 A0 PR (binOp .add 3 t17_1 (.int .i64 1)) fun t30 =>
 L3 t30) fun J4 =>
 drw <|
 A0 PR (Instr.fieldAt 75 t4 0) fun t21 =>
 A6 PR (Instr.loadAt 3 t21) fun t22 =>
 A0 PR (Instr.fieldAt 75 t4 0) fun t25 =>
 A6 PR (Instr.loadAt 3 t25) fun t26 =>
 B2 PR X 160 [t22, t17_1] fun t24 =>
 watch PR [(none, (Instr.loadAt 3 t25), t26)] <|
 A0 PR (Instr.build 211 #[(0, t24), (1, t26)]) fun t27 =>
 H3 PR X t0 [t27] fun t28 =>
 A0 PR (Op.unary .not t28) fun t29 =>
 C5 t29 (
 R (.tuple #[])) (
 J4)) fun J5 =>
 C5 t18 (
 J5) (
 J2 t17_1)) (.int .i64 0)) fun J6 =>
 C5 t9 (
 J6) (
 R (.tuple #[]))) (.int .i64 0)
theorem A5x : A9 PR 159 := A7 Tryz.func159 (by kernel_rfl) rfl
theorem A7E {X : Nat → Prop} {t0 t1 : Value} {R : Value → WP} {w : World} (h : A1k X t0 t1 R w) : Fn PR X 159 #[t0, t1] w R := D5 (args := [t0, t1]) mixed Tryz.func159 (by kernel_rfl) h
theorem A7H {X : Nat → Prop} {t0 t1 : Value} {K : Value → WP} {w : World} (h : Fn PR X 159 #[t0, t1] w K) : s7 PR X 159 [t0, t1] K w := ⟨A5x, h⟩
def A4F (X : Nat → Prop) (t0 t1 : Value) (R : Value → WP) : WP :=
 A0 PR (convert 3 129 t0) fun t6 =>
 B2 PR X 55 [t6, (.int .i64 4)] fun t7 =>
 B2 PR X 102 [t7] fun t8 =>
 A0 PR (convert 3 129 t1) fun t10 =>
 B2 PR X 55 [t10, (.int .i64 2)] fun t11 =>
 B2 PR X 55 [(.int .u64 0), (.int .i64 4)] fun t12 =>
 A0 PR (binOp .add 9 t11 t12) fun t13 =>
 B2 PR X 149 [t8, t13] fun t14 =>
 R t14
theorem A84 : A9 PR 160 := A7 Tryz.func160 (by kernel_rfl) rfl
theorem A94 {X : Nat → Prop} {t0 t1 : Value} {R : Value → WP} {w : World} (h : A4F X t0 t1 R w) : Fn PR X 160 #[t0, t1] w R := D5 (args := [t0, t1]) mixed Tryz.func160 (by kernel_rfl) h
end Go.Proofs.YtpbmephflllolaaGreat
namespace Go.Proofs.YtpbmephflllolaaGreat
open Go
def B5j (id : Int) (n : Nat) : Nat := B4y (c9 (B7 (IntKind.u64.wrap id) 4)) (B7 n 2 ++ B7 0 4)
theorem C0g (w : World) (id : Int) (n : Nat) (hn : n < 2 ^ 62) : Fn PR B5 160 #[.int .i64 id, .int .i64 (n : Int)] w (fun v w' => v = .int .u64 (B5j id n : Nat) ∧ C4 [] w w') := by
 refine Fn.pure (A94 (TW.go (κ := false) (S := []) ?_))
 unfold A4F
 (have zz:=trivial;repeat((first|clear zz|with_reducible first|refine A3 ?_|refine A5 fun _=>?_|refine A4 fun _=>?_);try simp(disch:=first|omega|assumption|((repeat(first|exact A1|exact uH|apply A2|apply uT));first|done|fail)|(simp;first|done|omega|fail))[]))
 refine D2 F6 (fun w' hw' => V8 w' _ _) ?_
 (have zz:=trivial;repeat((first|clear zz|with_reducible first|refine A3 ?_|refine A5 fun _=>?_|refine A4 fun _=>?_);try simp(disch:=first|omega|assumption|((repeat(first|exact A1|exact uH|apply A2|apply uT));first|done|fail)|(simp;first|done|omega|fail))[]))
 refine D2 A0y (fun w' _ => A3C w' _ (by simp)) ?_
 (have zz:=trivial;repeat((first|clear zz|with_reducible first|refine A3 ?_|refine A5 fun _=>?_|refine A4 fun _=>?_);try simp(disch:=first|omega|assumption|((repeat(first|exact A1|exact uH|apply A2|apply uT));first|done|fail)|(simp;first|done|omega|fail))[]))
 refine D2 F6 (fun w' hw' => V8 w' _ _) ?_
 (have zz:=trivial;repeat((first|clear zz|with_reducible first|refine A3 ?_|refine A5 fun _=>?_|refine A4 fun _=>?_);try simp(disch:=first|omega|assumption|((repeat(first|exact A1|exact uH|apply A2|apply uT));first|done|fail)|(simp;first|done|omega|fail))[]))
 refine D2 F6 (fun w' hw' => V8 w' _ _) ?_
 (have zz:=trivial;repeat((first|clear zz|with_reducible first|refine A3 ?_|refine A5 fun _=>?_|refine A4 fun _=>?_);try simp(disch:=first|omega|assumption|((repeat(first|exact A1|exact uH|apply A2|apply uT));first|done|fail)|(simp;first|done|omega|fail))[T7]))
 refine D2 A6j (fun w' _ => B31 w' _ _ (A9V _) (by simp)) ?_
 exact B0 rfl
def wtN (b : F9) : Nat := 8 * (max 0 (min b.2 16)).toNat
def A7n (b : F9) : List (Nat × Int) := (List.range (wtN b)).map fun n => (B5j b.1 n, b.1)
def E5 (p : List F9) : List (Nat × Int) := p.flatMap A7n
def F2 (x : Nat × Int) : List Value := [.int .u64 (x.1 : Nat), .int .i64 x.2]
def ptA (x : Nat × Int) : List Value := [.agg #[.int .u64 (x.1 : Nat), .int .i64 x.2]]
abbrev A8l (b : Nat) : Value := .func (.func 159) #[] #[.pointer (some ⟨b, 0, none⟩)]
theorem B9M (w : World) (v : Value) (hv : ∃ a n c, v = .slice a n c) : Fn PR B5 108 #[v] w (Rn [] w (fun b u => u = A8l b) fun b => [.pt b (.cells #[v] 32)]) := by
 obtain ⟨a, n, c, rfl⟩ := hv
 refine A9Q (TW.go (κ := false) (S := []) ?_)
 unfold A33
 (have zz:=trivial;repeat((first|clear zz|with_reducible first|refine A3 ?_|refine A5 fun _=>?_|refine A4 fun _=>?_);try simp(disch:=first|omega|assumption|((repeat(first|exact A1|exact uH|apply A2|apply uT));first|done|fail)|(simp;first|done|omega|fail))[]))
 rename_i b
 exact W9 b rfl (by simp)
theorem B39 {p : List F9} {i : Nat} {x : F9} (hx : p[i]? = some x) : E5 (p.take (i + 1)) = E5 (p.take i) ++ A7n x := by
 rw [List.take_add_one, hx]; simp [E5]
theorem B8j {p : List F9} {i n : Nat} {x : F9} (hx : p[i]? = some x) (hn : n < wtN x) : (E5 p)[(E5 (p.take i)).length + n]? = some (B5j x.1 n, x.1) := by
 have e : p = p.take (i + 1) ++ p.drop (i + 1) := (List.take_append_drop _ _).symm
 conv => lhs; arg 1; rw [e]
 have h2 : E5 (p.take (i + 1) ++ p.drop (i + 1)) = E5 (p.take (i + 1)) ++ E5 (p.drop (i + 1)) := by simp only [E5, List.flatMap_append]
 rw [h2, B39 hx, List.append_assoc, List.getElem?_append_right (by omega), Nat.add_sub_cancel_left, List.getElem?_append_left (by simp [A7n, hn])]
 simp [A7n, hn]
theorem B9P (b : Nat) (v : Value) (p : List F9) (hn : p.length ≤ 1000000) : A1u (A8l b) [.pt b (.cells #[v] 32)] (RqS v p.length (p.flatMap F7)) ((E5 p).map ptA) := by
 refine ⟨_, _, _, rfl, fun y J E hJ hE stJ stE hy w0 h0 => ?_⟩
 obtain ⟨a, c, hv, hr⟩ := (hJ _ _ _ h0).2
 subst hv
 refine A7H (A7E (TW.at (κ := true) ?_ (hJ _ _ _ h0).1))
 unfold A1k
 (have zz:=trivial;repeat((first|clear zz|with_reducible first|refine A3 ?_|refine A5 fun _=>?_|refine A4 fun _=>?_);try simp(disch:=first|omega|assumption|((repeat(first|exact A1|exact uH|apply A2|apply uT));first|done|fail)|(simp;first|done|omega|fail))[]))
 refine A2c p.length (fun i => (E5 (p.take i)).length) (fun _ => _) hJ stJ (by simpa [E5] using h0) fun i a' hi hJi hRi L hL => ?_
 by_cases hlt : i < p.length
 ·obtain ⟨_, _, hv, hr⟩ := hRi
  obtain ⟨b', o, hb, hrow, hnb⟩ := hr (by omega)
  cases hv
  subst hb
  obtain ⟨x, hx⟩ : ∃ x, p[i]? = some x := ⟨_, List.getElem?_eq_getElem hlt⟩
  have h1 := hrow.at (f := F7) (k := 2) (fun _ => rfl) hx
  rw [F7] at h1
  have hlen : (E5 (p.take (i + 1))).length = (E5 (p.take i)).length + wtN x := by rw [B39 hx]; simp [A7n]
  rw [hlen] at hL
  have hw : 8 * max 0 (min x.2 16) = (wtN x : Nat) := by unfold wtN; omega
  have hwl : wtN x ≤ 128 := by unfold wtN; omega
  (have zz:=trivial;repeat((first|clear zz|with_reducible first|refine A3 ?_|refine A5 fun _=>?_|refine A4 fun _=>?_);try simp(disch:=first|omega|assumption|((repeat(first|exact A1|exact uH|apply A2|apply uT));first|done|fail)|(simp;first|done|omega|fail))[hlt, h1]))
  rename_i b4
  rw [hw]
  refine A2c (wtN x) (fun n => (E5 (p.take i)).length + n) (fun _ => _) hJ stJ hJi fun n a2 hi2 hJn hRn L2 hL2 => ?_
  by_cases hlt2 : n < wtN x
  ·have hg := B8j hx hlt2
   obtain ⟨hgi, hg'⟩ := List.getElem?_eq_some_iff.1 hg
   (have zz:=trivial;repeat((first|clear zz|with_reducible first|refine A3 ?_|refine A5 fun _=>?_|refine A4 fun _=>?_);try simp(disch:=first|omega|assumption|((repeat(first|exact A1|exact uH|apply A2|apply uT));first|done|fail)|(simp;first|done|omega|fail))[hlt2]))
   refine D2 A84 (fun w' _ => C0g w' x.1 n (by omega)) ?_
   (have zz:=trivial;repeat((first|clear zz|with_reducible first|refine A3 ?_|refine A5 fun _=>?_|refine A4 fun _=>?_);try simp(disch:=first|omega|assumption|((repeat(first|exact A1|exact uH|apply A2|apply uT));first|done|fail)|(simp;first|done|omega|fail))[]))
   refine A3H hJ hE stJ hy hJn (by simpa using hgi) (by rw [List.getElem_map, hg', ptA]) (fun w3 h => ?_) (fun w3 h => ?_)
   ·(have zz:=trivial;repeat((first|clear zz|with_reducible first|refine A3 ?_|refine A5 fun _=>?_|refine A4 fun _=>?_);try simp(disch:=first|omega|assumption|((repeat(first|exact A1|exact uH|apply A2|apply uT));first|done|fail)|(simp;first|done|omega|fail))[]))
    exact fun w' hw' => hL2 hlt2 w' (stJ _ _ _ _ _ h hw')
   ·(have zz:=trivial;repeat((first|clear zz|with_reducible first|refine A3 ?_|refine A5 fun _=>?_|refine A4 fun _=>?_);try simp(disch:=first|omega|assumption|((repeat(first|exact A1|exact uH|apply A2|apply uT));first|done|fail)|(simp;first|done|omega|fail))[]))
    exact A1B stE h
  ·obtain rfl : n = wtN x := by omega
   (have zz:=trivial;repeat((first|clear zz|with_reducible first|refine A3 ?_|refine A5 fun _=>?_|refine A4 fun _=>?_);try simp(disch:=first|omega|assumption|((repeat(first|exact A1|exact uH|apply A2|apply uT));first|done|fail)|(simp;first|done|omega|fail))[]))
   exact fun w' hw' => hL hlt w' (stJ _ _ _ _ _ hJn (hw'.sub (by simp)))
 ·obtain rfl : i = p.length := by omega
  rw [List.take_length] at hJi
  (have zz:=trivial;repeat((first|clear zz|with_reducible first|refine A3 ?_|refine A5 fun _=>?_|refine A4 fun _=>?_);try simp(disch:=first|omega|assumption|((repeat(first|exact A1|exact uH|apply A2|apply uT));first|done|fail)|(simp;first|done|omega|fail))[]))
  exact A1N stJ (by simpa using hJi)
end Go.Proofs.YtpbmephflllolaaGreat
