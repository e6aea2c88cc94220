/- The proof of a given statement, a part of it (Map ShIp6 ShIp4 ShSum Sum Ip4 Ip6 Port). No condition but what each lemma says. -/
import Derived.MapKept
import Derived.Test.YtlplkjgcfjdinaaI10
set_option linter.unusedVariables false
set_option linter.unusedSimpArgs false
namespace Go.Proofs.Ytlplkjgcfjdinaa
open Go
section
variable {κ : Type} [DecidableEq κ]
def M5 (enc : κ → Value) : List (κ × Value) → Nat → List MapEntry
 | [], _ => []
 | p :: l, i => ⟨enc p.1, p.2, i⟩ :: M5 enc l (i + 1)
def U3 (enc : κ → Value) (l : List (κ × Value)) : Obj := .map (M5 enc l 0).toArray l.length
def r6 (k : κ) : List (κ × Value) → Nat → Option (Nat × Value)
 | [], _ => none
 | p :: l, i => if k = p.1 then some (i, p.2) else r6 k l (i + 1)
def V3 (k : κ) : List (κ × Value) → Option Value
 | [] => none
 | p :: l => if k = p.1 then some p.2 else V3 k l
def S7 (k : κ) (v : Value) : List (κ × Value) → List (κ × Value)
 | [] => [(k, v)]
 | p :: l => if k = p.1 then (k, v) :: l else p :: S7 k v l
theorem B1B (k k' : κ) (v : Value) (l : List (κ × Value)) : V3 k' (S7 k v l) = if k' = k then some v else V3 k' l := by
 induction l with
 | nil => simp [S7, V3]
 | cons p l ih =>
  simp only [S7]
  by_cases h : k = p.1
  ·rw [if_pos h]; simp only [V3]
   by_cases h' : k' = k
   ·rw [if_pos h', if_pos h']
   ·rw [if_neg h', if_neg h', if_neg (by rw [← h]; exact h')]
  ·rw [if_neg h]; simp only [V3, ih]
   by_cases h' : k' = p.1
   ·rw [if_pos h', if_pos h', if_neg (by rw [h']; exact fun e => h e.symm)]
   ·rw [if_neg h', if_neg h']
theorem B1C (k : κ) (l : List (κ × Value)) (i : Nat) : (r6 k l i).map (·.2) = V3 k l := by
 induction l generalizing i with
 | nil => rfl
 | cons p l ih => simp only [r6, V3]; split <;> simp [ih]
@[simp] theorem B7y {α : Type} (enc : α → Value) (l : List (α × Value)) (i : Nat) : (M5 enc l i).length = l.length := by
 induction l generalizing i with
 | nil => rfl
 | cons p l ih => simp [M5, ih]
theorem A76 {α : Type} (enc : α → Value) (l m : List (α × Value)) (i : Nat) : M5 enc (l ++ m) i = M5 enc l i ++ M5 enc m (i + l.length) := by
 induction l generalizing i with
 | nil => simp [M5]
 | cons p l ih => simp only [List.cons_append, M5, ih, List.length_cons]; congr 3; omega
theorem B0T (k : κ) (v : Value) (l : List (κ × Value)) (j : Nat) (h : r6 k l j = none) : S7 k v l = l ++ [(k, v)] := by
 induction l generalizing j with
 | nil => rfl
 | cons p l ih =>
  simp only [r6] at h
  split at h
  ·cases h
  ·rename_i hn; simp only [S7, if_neg hn, List.cons_append, ih _ h]
theorem B18 (enc : κ → Value) (k : κ) (v : Value) (l : List (κ × Value)) : ∀ (j n : Nat) (u : Value), r6 k l j = some (n, u) → j ≤ n ∧ n < j + l.length ∧ ((M5 enc l j)[n - j]?).map (·.key) = some (enc k) ∧
  M5 enc (S7 k v l) j = (M5 enc l j).modify (n - j) (fun e => { e with key := enc k, val := v }) := by
 induction l with
 | nil => intro j n u h; cases h
 | cons p l ih =>
  intro j n u h
  simp only [r6] at h
  split at h
  ·rename_i hk; cases h
   refine ⟨Nat.le_refl _, by simp, by simp [M5, hk], ?_⟩
   simp only [S7, if_pos hk, M5, Nat.sub_self, List.modify_zero_cons]
  ·rename_i hn
   obtain ⟨h1, h2, h3, h4⟩ := ih _ _ _ h
   have e : n - j = n - (j + 1) + 1 := by omega
   refine ⟨by omega, by simp only [List.length_cons]; omega, by rw [e]; simpa [M5] using h3, ?_⟩
   simp only [S7, if_neg hn, M5, e, List.modify_succ_cons, h4]
structure KeyT (P : Program) (kt : TypeId) (enc : κ → Value) : Prop where
 find : ∀ k l j w, (Instr.findKey kt (enc k) (M5 enc l j)).run P w = .ok (r6 k l 0) w
 check : ∀ k e w, (Instr.checkKey e 10000 kt (enc k)).run P w = .ok () w
 stays : ∀ k, Instr.sameBits 10000 (enc k) (enc k) = true
theorem A28 {d : TypeDesc} {enc : κ → Value} (hs : ∀ a b, Instr.sameNow d (enc a) (enc b) = some (decide (a = b))) (k : κ) (l : List (κ × Value)) : ∀ j i, Instr.findNow d (enc k) (M5 enc l j) i = some (r6 k l i) := by
 induction l with
 | nil => intro j i; rfl
 | cons p l ih =>
  intro j i
  simp only [M5, Instr.findNow, hs, r6]
  by_cases h : k = p.1
  ·simp [h]
  ·simp [h, ih]
end
theorem KeyT.int {P : Program} {kt : TypeId} {n m : Nat} {z : Value} (h : TI P kt (.int .i64) n m z) : KeyT P kt (fun a : Int => Value.int .i64 a) := by
 refine ⟨fun k l j w => ?_, fun k e w => ?_, fun k => ?_⟩
 ·exact MapKept.run_findKey h.und (A28 (fun a b => by simp [Instr.sameNow]; exact A5G a b) k l j 0)
 ·exact MapKept.run_checkKey h.und (by trivial) e 9999
 ·simp [Instr.sameBits]
theorem KeyT.string {P : Program} {kt : TypeId} {n m : Nat} {z : Value} (h : TI P kt .string n m z) : KeyT P kt Value.string := by
 refine ⟨fun k l j w => ?_, fun k e w => ?_, fun k => ?_⟩
 ·exact MapKept.run_findKey h.und (A28 (fun a b => by simp only [Instr.sameNow, B0U]) k l j 0)
 ·exact MapKept.run_checkKey h.und (by trivial) e 9999
 ·simp only [Instr.sameBits, B0U, decide_true]
section
variable {κ : Type} [DecidableEq κ] {enc : κ → Value} {σ : Bool} {P : Program} {X : Nat → Prop} {S : List Nat} {w0 : World} {H H' : List Res} {K : Value → WP} {K0 : WP} {t kt et : TypeId} {n m n2 m2 : Nat} {z z2 : Value} {d : TypeDesc}
theorem A8m {α : Type} (enc : α → Value) (hK : ∀ r, TW σ S w0 (.pt r (U3 enc []) :: H) (K (.map (some r)))) : TW σ S w0 H (B1 P X (Instr.makeMap t none) K) := fun w hw => by
 have : (Instr.makeMap t none).run P w = .ok (.map (some (sz w))) (w.alloc (U3 enc [])) := by simp [Instr.makeMap, run_newObj, U3, M5, sz]
 rw [M9 this (Sk.alloc X w _ (Or.inl rfl))]
 exact hK _ _ (hw.new rfl (Or.inl rfl))
theorem A36 (hm : TI P t (.map kt et) n m z) (he : TI P et d n2 m2 z2) (hk : KeyT P kt enc) {r : Nat} {l : List (κ × Value)} {k : κ} (hr : Res.pt r (U3 enc l) ∈ H) :
  TW σ S w0 H (A6 P (Instr.lookup t (.map (some r)) (enc k) false) K) = TW σ S w0 H (K ((V3 k l).getD z2)) := TW.congr fun w hw => by
 have hb : w.heap[r]? = some (.map (M5 enc l 0).toArray l.length) := hw.pt hr
 refine P8 ?_ K
 have h1 : (getObj r).run P w = .ok (.map (M5 enc l 0).toArray l.length) w := MapKept.run_getObj_map hb
 simp only [Instr.lookup, Sem.run_bind, hm.run_und, Result.andThen_ok, h1, Sem.run_pure, hk.check, hk.find]
 rw [← B1C k l 0]
 cases r6 k l 0 with
 | none => simp [he.run_zero]
 | some p => simp
theorem A3j (hm : TI P t (.map kt et) n m z) (hk : KeyT P kt enc) {r : Nat} {l : List (κ × Value)} {k : κ} {v : Value} (hu : Up (.pt r (U3 enc l)) (.pt r (U3 enc (S7 k v l))) H H') (hK : TW σ S w0 H' K0) :
  TW σ S w0 H (C8 P X (Instr.mapUpdate t (.map (some r)) (enc k) v) K0) := fun w hw => by
 have hmem : Res.pt r (U3 enc l) ∈ H := by obtain ⟨A, B, rfl, _⟩ := hu.parts; simp
 have hb0 := hw.pt hmem
 have hb : w.heap[r]? = some (.map (M5 enc l 0).toArray l.length) := hb0
 have h1 : (getObj r).run P w = .ok (.map (M5 enc l 0).toArray l.length) w := MapKept.run_getObj_map hb
 have hrun : (Instr.mapUpdate t (.map (some r)) (enc k) v).run P w = .ok () (World.putb w r (U3 enc (S7 k v l))) := by
  simp only [Instr.mapUpdate, Sem.run_bind, hm.run_und, Result.andThen_ok, h1, hk.check, hk.find]
  cases hf : r6 k l 0 with
  | none =>
   have e := B0T k v l 0 hf
   simp [U3, e, A76, M5, World.putb, MapKept.run_setObj_map _ hb]
  | some p =>
   obtain ⟨i, u⟩ := p
   obtain ⟨_, h2, h3, h4⟩ := B18 enc k v l 0 i u hf
   have hl : (S7 k v l).length = l.length := by
    have := congrArg List.length h4; simpa using this
   simp only [Nat.sub_zero] at h3 h4
   simp [U3, h4, hl, World.putb, MapKept.run_setObj_map _ hb, Instr.keyThatStays, h3, hk.stays]
 have hks : KS σ [r] w (World.putb w r (U3 enc (S7 k v l))) := by
  refine ((B5.refl [r] w).putb _ (Or.inl (by simp))).ks fun _ => ?_
  have h2 : ∀ (q : Nat) x, (∀ c T, x ≠ Obj.map c T) → w.heap[q]? = some x → (World.putb w r (U3 enc (S7 k v l))).heap[q]? = some x := fun q x hx e => by
   have : r ≠ q := by rintro rfl; rw [hb] at e; cases e; exact hx _ _ rfl
   exact (U5 (w := w) (o := U3 enc (S7 k v l)) this).trans e
  exact ⟨by simp [World.putb], fun q d => h2 q _ (by simp), fun q lo _ => h2 q _ (by simp), rfl, rfl⟩
 have hsk : Sk X w (World.putb w r (U3 enc (S7 k v l))) := by
  have h2 : ∀ (q : Nat) x, (∀ c T, x ≠ Obj.map c T) → w.heap[q]? = some x → (World.putb w r (U3 enc (S7 k v l))).heap[q]? = some x := fun q x hx e => by
   have : r ≠ q := by rintro rfl; rw [hb] at e; cases e; exact hx _ _ rfl
   exact (U5 (w := w) (o := U3 enc (S7 k v l)) this).trans e
  exact ⟨by simp [World.putb], fun q d => h2 q _ (by simp), fun q lo _ => h2 q _ (by simp), rfl, rfl⟩
 rw [B03 hrun hsk]
 refine hK _ (hw.up hu ⟨hks, ?_, ?_, by simp⟩)
 ·simp only [List.mem_singleton, forall_eq, Res.holds]; exact ⟨K9 (G3 hb0), rfl⟩
 ·simp only [List.mem_singleton, forall_eq, Res.foot]; exact ⟨Or.inl (by simp), by have := G3 hb0; simpa using this⟩
end
end Go.Proofs.Ytlplkjgcfjdinaa
namespace Go.Proofs.Ytlplkjgcfjdinaa
open Go
def A4s (X : Nat → Prop) (t0 t1 : Value) (R : Value → WP) : WP :=
 B1 PR X (Instr.box 79 t0) fun t2 =>
 jn (n := 2) (fun t4 t5 =>
 B1 PR X (Instr.alloc 103 true (.tuple #[])) fun t6 =>
 C6 PR X 43 [t6, (.int .i64 1610612736), (.int .i64 4)] fun t34 =>
 A0 PR (A7 .len #[9] 0 [t1]) fun t36 =>
 C6 PR X 43 [t6, t36, (.int .i64 2)] fun t37 =>
 A0 PR (Instr.fieldAt 79 t2 2) fun t38 =>
 A6 PR (Instr.loadAt 3 t38) fun t39 =>
 C6 PR X 43 [t6, t39, (.int .i64 1)] fun t40 =>
 C6 PR X 43 [t6, (.int .i64 64), (.int .i64 1)] fun t41 =>
 jn (n := 1) (fun t49 =>
 A0 PR (Instr.fieldAt 103 t6 0) fun t57 =>
 C6 PR X 45 [t57] fun t58 =>
 R (.tuple #[t58, (.int .i64 0)])) fun J1 =>
 A0 PR (Instr.fieldAt 79 t2 0) fun t42 =>
 A6 PR (Instr.loadAt 9 t42) fun t43 =>
 A0 PR (Instr.fieldAt 79 t2 1) fun t44 =>
 A6 PR (Instr.loadAt 9 t44) fun t45 =>
 B1 PR X (Instr.buildSlice 105 3 #[(0, t43), (1, t45), (2, t1)]) fun t47 =>
 A0 PR (A7 .len #[105] 0 [t47]) fun t48 =>
 lp (n := 1) (fun L2 t49_1 =>
 A0 PR (binOp .lss 3 t49_1 t48) fun t50 =>
 jn (n := 0) (
 jn (n := 0) (
 A0 PR (binOp .add 3 t49_1 (.int .i64 1)) fun t56 =>
 L2 t56) fun J3 =>
 A0 PR (Instr.indexAt 105 t47 t49_1) fun t51 =>
 A6 PR (Instr.loadAt 9 t51) fun t52 =>
 A0 PR (Instr.fieldAt 103 t6 0) fun t53 =>
 C6 PR X 44 [t53, t52] fun t55 =>
 J3) fun J4 =>
 C9 t50 (
 J4) (
 J1 t49_1)) (.int .i64 0)) fun J5 =>
 A0 PR (Instr.fieldAt 79 t2 0) fun t10 =>
 A6 PR (Instr.loadAt 9 t10) fun t11 =>
 A0 PR (A7 .len #[9] 0 [t11]) fun t12 =>
 A0 PR (binOp .neq 3 t12 (.int .i64 16)) fun t13 =>
 gj t13 false (fun J => A0 PR (Instr.fieldAt 79 t2 1) J) fun t15 =>
 gj t13 false (fun J => A6 PR (Instr.loadAt 9 t15) J) fun t16 =>
 gj t13 false (fun J => A0 PR (A7 .len #[9] 0 [t16]) J) fun t17 =>
 gj t13 false (fun J => A0 PR (binOp .neq 3 t17 (.int .i64 16)) J) fun t18 =>
 A0 PR (do pure (if ← asBool t13 then (.bool true) else t18)) fun t19 =>
 gj t19 false (fun J => A0 PR (Instr.fieldAt 79 t2 2) J) fun t21 =>
 gj t19 false (fun J => A6 PR (Instr.loadAt 3 t21) J) fun t22 =>
 gj t19 false (fun J => A0 PR (binOp .lss 3 t22 (.int .i64 0)) J) fun t23 =>
 A0 PR (do pure (if ← asBool t19 then (.bool true) else t23)) fun t24 =>
 gj t24 false (fun J => A0 PR (Instr.fieldAt 79 t2 2) J) fun t26 =>
 gj t24 false (fun J => A6 PR (Instr.loadAt 3 t26) J) fun t27 =>
 gj t24 false (fun J => A0 PR (binOp .gtr 3 t27 (.int .i64 255)) J) fun t28 =>
 A0 PR (do pure (if ← asBool t24 then (.bool true) else t28)) fun t29 =>
 C9 t29 (
 R (.tuple #[(.string (ByteArray.mk #[])), (.int .i64 1)])) (
 A0 PR (A7 .len #[9] 0 [t1]) fun t32 =>
 A0 PR (binOp .gtr 3 t32 (.int .i64 65535)) fun t33 =>
 C9 t33 (
 R (.tuple #[(.string (ByteArray.mk #[])), (.int .i64 4)])) (
 J5 (.string (ByteArray.mk #[])) (.int .i64 0)))
theorem A71 : B0 PR 25 := A9 Try.func25 (by kernel_rfl) rfl
theorem A9k {X : Nat → Prop} {t0 t1 : Value} {R : Value → WP} {w : World} (h : A4s X t0 t1 R w) : Fn PR X 25 #[t0, t1] w R := D3 (args := [t0, t1]) mixed Try.func25 (by kernel_rfl) h
def g9 (X : Nat → Prop) (t0 t1 t2 : Value) (R : Value → WP) : WP :=
 drw <|
 A0 PR (r5 t0) fun t7 =>
 A0 PR (Instr.fieldAt 103 t7 0) fun t8 =>
 A0 PR (convert 3 112 t1) fun t10 =>
 C6 PR X 47 [t10, t2] fun t12 =>
 C6 PR X 44 [t8, t12] fun t13 =>
 R (.tuple #[])
theorem M1 : B0 PR 43 := A9 Try.func43 (by kernel_rfl) rfl
theorem A1m {X : Nat → Prop} {t0 t1 t2 : Value} {R : Value → WP} {w : World} (h : g9 X t0 t1 t2 R w) : Fn PR X 43 #[t0, t1, t2] w R := D3 (args := [t0, t1, t2]) mixed Try.func43 (by kernel_rfl) h
def A2y (X : Nat → Prop) (t0 : Value) (R : Value → WP) : WP :=
 B1 PR X (Instr.alloc 79 true (.tuple #[])) fun t2 =>
 jn (n := 2) (fun t3 t4 =>
 jn (n := 2) (fun t3_1 t4_1 =>
 B1 PR X (Instr.buildSlice 37 6 #[(0, (.int .i64 4)), (1, (.int .i64 2)), (2, (.int .i64 1)), (3, (.int .i64 1)), (4, (.int .i64 16)), (5, (.int .i64 16))]) fun t19 =>
 C6 PR X 83 [t0, t19] fun t20 =>
 A0 PR (Instr.indexAt 105 t20 (.int .i64 1)) fun t23 =>
 A6 PR (Instr.loadAt 9 t23) fun t24 =>
 C6 PR X 72 [t24, (.int .i64 0), (.int .i64 2)] fun t25 =>
 A0 PR (Instr.extract t25 0) fun t26 =>
 A0 PR (Instr.extract t25 1) fun t27 =>
 A0 PR (Instr.indexAt 105 t20 (.int .i64 6)) fun t29 =>
 A6 PR (Instr.loadAt 9 t29) fun t30 =>
 jn (n := 2) (fun t3_2 t4_2 =>
 drw <|
 A0 PR (Instr.indexAt 105 t20 (.int .i64 4)) fun t38 =>
 A6 PR (Instr.loadAt 9 t38) fun t39 =>
 A0 PR (Instr.indexAt 105 t20 (.int .i64 5)) fun t41 =>
 A6 PR (Instr.loadAt 9 t41) fun t42 =>
 A0 PR (Instr.indexAt 105 t20 (.int .i64 2)) fun t44 =>
 A6 PR (Instr.loadAt 9 t44) fun t45 =>
 A0 PR (Instr.index 9 t45 (.int .i64 0)) fun t46 =>
 A0 PR (convert 5 3 t46) fun t47 =>
 A0 PR (Instr.build 79 #[(0, t39), (1, t42), (2, t47)]) fun t48 =>
 A0 PR (Instr.sliceAt 9 t30 none (some t26) none) fun t51 =>
 C8 PR X (Instr.storeAt 79 t2 t48) <|
 A6 PR (E7 [.c 79 t2, .v t51, .v (.int .i64 0)]) R) fun J1 =>
 A0 PR (A7 .len #[9] 0 [t30]) fun t33 =>
 A0 PR (convert 3 112 t33) fun t34 =>
 A0 PR (binOp .gtr 112 t26 t34) fun t35 =>
 C9 t35 (
 A0 PR (Instr.build 79 #[]) fun t36 =>
 C8 PR X (Instr.storeAt 79 t2 t36) <|
 A6 PR (E7 [.c 79 t2, .v (.string (ByteArray.mk #[])), .v (.int .i64 4)]) R) (
 J1 t3_1 t4_1)) fun J2 =>
 A0 PR (Instr.index 9 t0 (.int .i64 0)) fun t14 =>
 A0 PR (binOp .shr 5 t14 (.int .u64 4)) fun t15 =>
 A0 PR (binOp .neq 5 t15 (.int .u8 6)) fun t16 =>
 C9 t16 (
 A0 PR (Instr.build 79 #[]) fun t17 =>
 C8 PR X (Instr.storeAt 79 t2 t17) <|
 A6 PR (E7 [.c 79 t2, .v (.string (ByteArray.mk #[])), .v (.int .i64 3)]) R) (
 J2 t3 t4)) fun J3 =>
 A0 PR (A7 .len #[9] 0 [t0]) fun t10 =>
 A0 PR (binOp .lss 3 t10 (.int .i64 40)) fun t11 =>
 C9 t11 (
 A0 PR (Instr.build 79 #[]) fun t12 =>
 C8 PR X (Instr.storeAt 79 t2 t12) <|
 A6 PR (E7 [.c 79 t2, .v (.string (ByteArray.mk #[])), .v (.int .i64 2)]) R) (
 J3 (.string (ByteArray.mk #[])) (.int .i64 0))
theorem A6U : B0 PR 70 := A9 Try.func70 (by kernel_rfl) rfl
theorem A6p {X : Nat → Prop} {t0 : Value} {R : Value → WP} {w : World} (h : A2y X t0 R w) : Fn PR X 70 #[t0] w R := D3 (args := [t0]) mixed Try.func70 (by kernel_rfl) h
def A4a (X : Nat → Prop) (t0 t1 : Value) (R : Value → WP) : WP :=
 jn (n := 3) (fun t5 t0_1 t10 =>
 B1 PR X (Instr.buildSlice 105 1 #[(0, t0_1)]) fun t26 =>
 B1 PR X (A7 .append #[105, 105] 105 [t5, t26]) fun t27 =>
 R t27) fun J1 =>
 A0 PR (A7 .len #[37] 0 [t1]) fun t9 =>
 lp (n := 3) (fun L2 t5_1 t0_2 t10_1 =>
 A0 PR (binOp .lss 3 t10_1 t9) fun t11 =>
 jn (n := 0) (
 jn (n := 2) (fun t5_2 t0_3 =>
 A0 PR (binOp .add 3 t10_1 (.int .i64 1)) fun t23 =>
 L2 t5_2 t0_3 t23) fun J3 =>
 A0 PR (Instr.indexAt 37 t1 t10_1) fun t12 =>
 A6 PR (Instr.loadAt 3 t12) fun t13 =>
 A0 PR (Instr.sliceAt 9 t0_2 none (some t13) none) fun t17 =>
 B1 PR X (Instr.buildSlice 105 1 #[(0, t17)]) fun t18 =>
 B1 PR X (A7 .append #[105, 105] 105 [t5_1, t18]) fun t19 =>
 A0 PR (Instr.sliceAt 9 t0_2 (some t13) none none) fun t22 =>
 J3 t19 t22) fun J4 =>
 C9 t11 (
 J4) (
 J1 t5_1 t0_2 t10_1)) (.slice none 0 0) t0 (.int .i64 0)
theorem A8T : B0 PR 83 := A9 Try.func83 (by kernel_rfl) rfl
theorem A9v {X : Nat → Prop} {t0 t1 : Value} {R : Value → WP} {w : World} (h : A4a X t0 t1 R w) : Fn PR X 83 #[t0, t1] w R := D3 (args := [t0, t1]) mixed Try.func83 (by kernel_rfl) h
end Go.Proofs.Ytlplkjgcfjdinaa
namespace Go.Proofs.Ytlplkjgcfjdinaa
open Go
def A4M (X : Nat → Prop) (t0 t1 : Value) (R : Value → WP) : WP :=
 B1 PR X (Instr.box 81 t0) fun t2 =>
 B1 PR X (Instr.box 9 t1) fun t3 =>
 jn (n := 2) (fun t4 t5 =>
 A0 PR (Instr.makeFunc (.func 46) #[] #[t3, t2]) fun t32 =>
 drw <|
 A6 PR (Instr.loadAt 9 t3) fun t38 =>
 F3 PR X t32 [(.int .i64 0)] fun t35 =>
 watch PR [(none, (Instr.loadAt 9 t3), t38)] <|
 C6 PR X 48 [t35] fun t36 =>
 watch PR [(none, (Instr.loadAt 9 t3), t38)] <|
 F3 PR X t32 [t36] fun t37 =>
 watch PR [(none, (Instr.loadAt 9 t3), t38)] <|
 A0 PR (binOp .add 9 t37 t38) fun t39 =>
 R (.tuple #[t39, (.int .i64 0)])) fun J1 =>
 A0 PR (Instr.fieldAt 81 t2 0) fun t8 =>
 A6 PR (Instr.loadAt 9 t8) fun t9 =>
 A0 PR (A7 .len #[9] 0 [t9]) fun t10 =>
 A0 PR (binOp .neq 3 t10 (.int .i64 4)) fun t11 =>
 gj t11 false (fun J => A0 PR (Instr.fieldAt 81 t2 1) J) fun t13 =>
 gj t11 false (fun J => A6 PR (Instr.loadAt 9 t13) J) fun t14 =>
 gj t11 false (fun J => A0 PR (A7 .len #[9] 0 [t14]) J) fun t15 =>
 gj t11 false (fun J => A0 PR (binOp .neq 3 t15 (.int .i64 4)) J) fun t16 =>
 A0 PR (do pure (if ← asBool t11 then (.bool true) else t16)) fun t17 =>
 gj t17 false (fun J => A0 PR (Instr.fieldAt 81 t2 2) J) fun t19 =>
 gj t17 false (fun J => A6 PR (Instr.loadAt 3 t19) J) fun t20 =>
 gj t17 false (fun J => A0 PR (binOp .lss 3 t20 (.int .i64 0)) J) fun t21 =>
 A0 PR (do pure (if ← asBool t17 then (.bool true) else t21)) fun t22 =>
 gj t22 false (fun J => A0 PR (Instr.fieldAt 81 t2 2) J) fun t24 =>
 gj t22 false (fun J => A6 PR (Instr.loadAt 3 t24) J) fun t25 =>
 gj t22 false (fun J => A0 PR (binOp .gtr 3 t25 (.int .i64 255)) J) fun t26 =>
 A0 PR (do pure (if ← asBool t22 then (.bool true) else t26)) fun t27 =>
 C9 t27 (
 R (.tuple #[(.string (ByteArray.mk #[])), (.int .i64 1)])) (
 A6 PR (Instr.loadAt 9 t3) fun t29 =>
 A0 PR (A7 .len #[9] 0 [t29]) fun t30 =>
 A0 PR (binOp .gtr 3 t30 (.int .i64 65515)) fun t31 =>
 C9 t31 (
 R (.tuple #[(.string (ByteArray.mk #[])), (.int .i64 4)])) (
 J1 (.string (ByteArray.mk #[])) (.int .i64 0)))
theorem A8W : B0 PR 26 := A9 Try.func26 (by kernel_rfl) rfl
theorem A84 {X : Nat → Prop} {t0 t1 : Value} {R : Value → WP} {w : World} (h : A4M X t0 t1 R w) : Fn PR X 26 #[t0, t1] w R := D3 (args := [t0, t1]) mixed Try.func26 (by kernel_rfl) h
def A19 (X : Nat → Prop) (t0 t1 t2 : Value) (R : Value → WP) : WP :=
 drw <|
 A6 PR (Instr.loadAt 9 t1) fun t5 =>
 A0 PR (A7 .len #[9] 0 [t5]) fun t6 =>
 A0 PR (binOp .add 3 (.int .i64 20) t6) fun t7 =>
 A0 PR (convert 3 112 t7) fun t8 =>
 A0 PR (Instr.fieldAt 81 t2 2) fun t12 =>
 A6 PR (Instr.loadAt 3 t12) fun t13 =>
 A0 PR (convert 3 112 t13) fun t14 =>
 A0 PR (convert 3 112 t0) fun t18 =>
 A0 PR (Instr.fieldAt 81 t2 0) fun t21 =>
 A6 PR (Instr.loadAt 9 t21) fun t22 =>
 A0 PR (Instr.fieldAt 81 t2 1) fun t24 =>
 A6 PR (Instr.loadAt 9 t24) fun t25 =>
 C6 PR X 47 [t8, (.int .i64 2)] fun t9 =>
 watch PR [(none, (Instr.loadAt 9 t24), t25), (none, (Instr.loadAt 9 t21), t22), (none, (Instr.loadAt 3 t12), t13)] <|
 A0 PR (binOp .add 9 (.string (ByteArray.mk #[69, 0])) t9) fun t10 =>
 A0 PR (binOp .add 9 t10 (.string (ByteArray.mk #[0, 0, 64, 0, 64]))) fun t11 =>
 C6 PR X 47 [t14, (.int .i64 1)] fun t15 =>
 watch PR [(none, (Instr.loadAt 9 t24), t25), (none, (Instr.loadAt 9 t21), t22)] <|
 A0 PR (binOp .add 9 t11 t15) fun t16 =>
 C6 PR X 47 [t18, (.int .i64 2)] fun t19 =>
 watch PR [(none, (Instr.loadAt 9 t24), t25), (none, (Instr.loadAt 9 t21), t22)] <|
 A0 PR (binOp .add 9 t16 t19) fun t20 =>
 A0 PR (binOp .add 9 t20 t22) fun t23 =>
 A0 PR (binOp .add 9 t23 t25) fun t26 =>
 R t26
theorem A1B : B0 PR 46 := A9 Try.func46 (by kernel_rfl) rfl
theorem A6L {X : Nat → Prop} {t0 t1 t2 : Value} {R : Value → WP} {w : World} (h : A19 X t0 t1 t2 R w) : Fn PR X 46 #[t0, t1, t2] w R := D3 (args := [t0, t1, t2]) mixed Try.func46 (by kernel_rfl) h
def A26 (X : Nat → Prop) (t0 : Value) (R : Value → WP) : WP :=
 B1 PR X (Instr.box 9 t0) fun t1 =>
 B1 PR X (Instr.alloc 81 true (.tuple #[])) fun t2 =>
 A0 PR (Instr.makeFunc (.func 75) #[] #[t1]) fun t9 =>
 B1 PR X (Instr.alloc 73 true (.tuple #[])) fun t5 =>
 C8 PR X (Instr.storeAt 73 t5 t9) <|
 drw <|
 kt (n := 2) (fun t6 t7 =>
 A0 PR (Instr.makeFunc (.func 77) #[] #[t1]) fun t16 =>
 A0 PR (Instr.build 161 #[(0, t16), (1, (.int .i64 2))]) fun t17 =>
 A0 PR (Instr.makeFunc (.func 78) #[] #[t5]) fun t18 =>
 A0 PR (Instr.build 161 #[(0, t18), (1, (.int .i64 3))]) fun t19 =>
 A0 PR (Instr.makeFunc (.func 79) #[] #[t6, t1, t7]) fun t20 =>
 A0 PR (Instr.build 161 #[(0, t20), (1, (.int .i64 4))]) fun t21 =>
 A0 PR (Instr.makeFunc (.func 80) #[] #[t1, t6]) fun t22 =>
 A0 PR (Instr.build 161 #[(0, t22), (1, (.int .i64 5))]) fun t23 =>
 A0 PR (Instr.makeFunc (.func 82) #[] #[t5]) fun t24 =>
 A0 PR (Instr.build 161 #[(0, t24), (1, (.int .i64 6))]) fun t25 =>
 B1 PR X (Instr.buildSlice 165 5 #[(0, t17), (1, t19), (2, t21), (3, t23), (4, t25)]) fun t26 =>
 C6 PR X 76 [t26] fun t27 =>
 jn (n := 2) (fun t3 t4 =>
 drw <|
 A6 PR (Instr.loadAt 9 t1) fun t32 =>
 A0 PR (Instr.sliceAt 9 t32 (some (.int .i64 12)) (some (.int .i64 16)) none) fun t33 =>
 A6 PR (Instr.loadAt 9 t1) fun t34 =>
 A0 PR (Instr.sliceAt 9 t34 (some (.int .i64 16)) (some (.int .i64 20)) none) fun t35 =>
 A6 PR (Instr.loadAt 73 t5) fun t36 =>
 A6 PR (Instr.loadAt 9 t1) fun t39 =>
 A6 PR (Instr.loadAt 3 t6) fun t40 =>
 A6 PR (Instr.loadAt 3 t7) fun t41 =>
 A0 PR (Instr.sliceAt 9 t39 (some t40) (some t41) none) fun t42 =>
 F3 PR X t36 [(.int .i64 9), (.int .i64 1)] fun t37 =>
 watch PR [(none, (Instr.loadAt 3 t7), t41), (none, (Instr.loadAt 3 t6), t40), (none, (Instr.loadAt 9 t1), t39), (none, (Instr.loadAt 9 t1), t34), (none, (Instr.loadAt 9 t1), t32)] <|
 A0 PR (Instr.build 81 #[(0, t33), (1, t35), (2, t37)]) fun t38 =>
 C8 PR X (Instr.storeAt 81 t2 t38) <|
 watch PR [(none, (Instr.loadAt 3 t7), t41), (none, (Instr.loadAt 3 t6), t40), (none, (Instr.loadAt 9 t1), t39)] <|
 A6 PR (E7 [.c 81 t2, .v t42, .v (.int .i64 0)]) R) fun J1 =>
 A0 PR (binOp .neq 44 t27 (.int .i64 0)) fun t29 =>
 C9 t29 (
 A0 PR (Instr.build 81 #[]) fun t30 =>
 C8 PR X (Instr.storeAt 81 t2 t30) <|
 A6 PR (E7 [.c 81 t2, .v (.string (ByteArray.mk #[])), .v t27]) R) (
 J1 (.string (ByteArray.mk #[])) (.int .i64 0))) fun C2 =>
 A6 PR (Instr.loadAt 73 t5) fun t10_1 =>
 A6 PR (Instr.loadAt 73 t5) fun t14_1 =>
 both (F3 PR X t10_1 [(.int .i64 0), (.int .i64 1)] fun t11_5 =>
 watch PR [(none, (Instr.loadAt 73 t5), t14_1)] <|
 A0 PR (binOp .and 3 t11_5 (.int .i64 15)) fun t12_5 =>
 A0 PR (binOp .mul 3 t12_5 (.int .i64 4)) fun t13_5 =>
 both (F3 PR X t14_1 [(.int .i64 2), (.int .i64 2)] fun t15_11 =>
 both (B1 PR X (Instr.alloc 3 true (.tuple #[])) fun t6_9 =>
 B1 PR X (Instr.alloc 3 true (.tuple #[])) fun t7_9 =>
 C8 PR X (Instr.storeAt 3 t6_9 t13_5) <|
 C8 PR X (Instr.storeAt 3 t7_9 t15_11) <|
 C2 t6_9 t7_9) (both (B1 PR X (Instr.alloc 3 true (.tuple #[])) fun t7_8 =>
 B1 PR X (Instr.alloc 3 true (.tuple #[])) fun t6_8 =>
 C8 PR X (Instr.storeAt 3 t6_8 t13_5) <|
 C8 PR X (Instr.storeAt 3 t7_8 t15_11) <|
 C2 t6_8 t7_8) ((fun _ => True)))) (both (B1 PR X (Instr.alloc 3 true (.tuple #[])) fun t6_7 =>
 watch PR [(none, (Instr.loadAt 73 t5), t14_1)] <|
 both (F3 PR X t14_1 [(.int .i64 2), (.int .i64 2)] fun t15_10 =>
 B1 PR X (Instr.alloc 3 true (.tuple #[])) fun t7_7 =>
 C8 PR X (Instr.storeAt 3 t6_7 t13_5) <|
 C8 PR X (Instr.storeAt 3 t7_7 t15_10) <|
 C2 t6_7 t7_7) (both (B1 PR X (Instr.alloc 3 true (.tuple #[])) fun t7_6 =>
 watch PR [(none, (Instr.loadAt 73 t5), t14_1)] <|
 F3 PR X t14_1 [(.int .i64 2), (.int .i64 2)] fun t15_9 =>
 C8 PR X (Instr.storeAt 3 t6_7 t13_5) <|
 C8 PR X (Instr.storeAt 3 t7_6 t15_9) <|
 C2 t6_7 t7_6) ((fun _ => True)))) (both (B1 PR X (Instr.alloc 3 true (.tuple #[])) fun t7_5 =>
 watch PR [(none, (Instr.loadAt 73 t5), t14_1)] <|
 both (F3 PR X t14_1 [(.int .i64 2), (.int .i64 2)] fun t15_8 =>
 B1 PR X (Instr.alloc 3 true (.tuple #[])) fun t6_6 =>
 C8 PR X (Instr.storeAt 3 t6_6 t13_5) <|
 C8 PR X (Instr.storeAt 3 t7_5 t15_8) <|
 C2 t6_6 t7_5) (both (B1 PR X (Instr.alloc 3 true (.tuple #[])) fun t6_5 =>
 watch PR [(none, (Instr.loadAt 73 t5), t14_1)] <|
 F3 PR X t14_1 [(.int .i64 2), (.int .i64 2)] fun t15_7 =>
 C8 PR X (Instr.storeAt 3 t6_5 t13_5) <|
 C8 PR X (Instr.storeAt 3 t7_5 t15_7) <|
 C2 t6_5 t7_5) ((fun _ => True)))) ((fun _ => True))))) (both (B1 PR X (Instr.alloc 3 true (.tuple #[])) fun t6_4 =>
 watch PR [(none, (Instr.loadAt 73 t5), t14_1), (none, (Instr.loadAt 73 t5), t10_1)] <|
 both (F3 PR X t10_1 [(.int .i64 0), (.int .i64 1)] fun t11_4 =>
 watch PR [(none, (Instr.loadAt 73 t5), t14_1)] <|
 A0 PR (binOp .and 3 t11_4 (.int .i64 15)) fun t12_4 =>
 A0 PR (binOp .mul 3 t12_4 (.int .i64 4)) fun t13_4 =>
 both (F3 PR X t14_1 [(.int .i64 2), (.int .i64 2)] fun t15_6 =>
 B1 PR X (Instr.alloc 3 true (.tuple #[])) fun t7_4 =>
 C8 PR X (Instr.storeAt 3 t6_4 t13_4) <|
 C8 PR X (Instr.storeAt 3 t7_4 t15_6) <|
 C2 t6_4 t7_4) (both (B1 PR X (Instr.alloc 3 true (.tuple #[])) fun t7_3 =>
 watch PR [(none, (Instr.loadAt 73 t5), t14_1)] <|
 F3 PR X t14_1 [(.int .i64 2), (.int .i64 2)] fun t15_5 =>
 C8 PR X (Instr.storeAt 3 t6_4 t13_4) <|
 C8 PR X (Instr.storeAt 3 t7_3 t15_5) <|
 C2 t6_4 t7_3) ((fun _ => True)))) (both (B1 PR X (Instr.alloc 3 true (.tuple #[])) fun t7_2 =>
 watch PR [(none, (Instr.loadAt 73 t5), t14_1), (none, (Instr.loadAt 73 t5), t10_1)] <|
 F3 PR X t10_1 [(.int .i64 0), (.int .i64 1)] fun t11_3 =>
 watch PR [(none, (Instr.loadAt 73 t5), t14_1)] <|
 A0 PR (binOp .and 3 t11_3 (.int .i64 15)) fun t12_3 =>
 A0 PR (binOp .mul 3 t12_3 (.int .i64 4)) fun t13_3 =>
 F3 PR X t14_1 [(.int .i64 2), (.int .i64 2)] fun t15_4 =>
 C8 PR X (Instr.storeAt 3 t6_4 t13_3) <|
 C8 PR X (Instr.storeAt 3 t7_2 t15_4) <|
 C2 t6_4 t7_2) ((fun _ => True)))) (both (B1 PR X (Instr.alloc 3 true (.tuple #[])) fun t7_1 =>
 watch PR [(none, (Instr.loadAt 73 t5), t14_1), (none, (Instr.loadAt 73 t5), t10_1)] <|
 both (F3 PR X t10_1 [(.int .i64 0), (.int .i64 1)] fun t11_2 =>
 watch PR [(none, (Instr.loadAt 73 t5), t14_1)] <|
 A0 PR (binOp .and 3 t11_2 (.int .i64 15)) fun t12_2 =>
 A0 PR (binOp .mul 3 t12_2 (.int .i64 4)) fun t13_2 =>
 both (F3 PR X t14_1 [(.int .i64 2), (.int .i64 2)] fun t15_3 =>
 B1 PR X (Instr.alloc 3 true (.tuple #[])) fun t6_3 =>
 C8 PR X (Instr.storeAt 3 t6_3 t13_2) <|
 C8 PR X (Instr.storeAt 3 t7_1 t15_3) <|
 C2 t6_3 t7_1) (both (B1 PR X (Instr.alloc 3 true (.tuple #[])) fun t6_2 =>
 watch PR [(none, (Instr.loadAt 73 t5), t14_1)] <|
 F3 PR X t14_1 [(.int .i64 2), (.int .i64 2)] fun t15_2 =>
 C8 PR X (Instr.storeAt 3 t6_2 t13_2) <|
 C8 PR X (Instr.storeAt 3 t7_1 t15_2) <|
 C2 t6_2 t7_1) ((fun _ => True)))) (both (B1 PR X (Instr.alloc 3 true (.tuple #[])) fun t6_1 =>
 watch PR [(none, (Instr.loadAt 73 t5), t14_1), (none, (Instr.loadAt 73 t5), t10_1)] <|
 F3 PR X t10_1 [(.int .i64 0), (.int .i64 1)] fun t11_1 =>
 watch PR [(none, (Instr.loadAt 73 t5), t14_1)] <|
 A0 PR (binOp .and 3 t11_1 (.int .i64 15)) fun t12_1 =>
 A0 PR (binOp .mul 3 t12_1 (.int .i64 4)) fun t13_1 =>
 F3 PR X t14_1 [(.int .i64 2), (.int .i64 2)] fun t15_1 =>
 C8 PR X (Instr.storeAt 3 t6_1 t13_1) <|
 C8 PR X (Instr.storeAt 3 t7_1 t15_1) <|
 C2 t6_1 t7_1) ((fun _ => True)))) ((fun _ => True))))
theorem A6V : B0 PR 67 := A9 Try.func67 (by kernel_rfl) rfl
theorem A65 {X : Nat → Prop} {t0 : Value} {R : Value → WP} {w : World} (h : A26 X t0 R w) : Fn PR X 67 #[t0] w R := D3 (args := [t0]) mixed Try.func67 (by kernel_rfl) h
def A0n (X : Nat → Prop) (t0 t1 t2 : Value) (R : Value → WP) : WP :=
 A6 PR (Instr.loadAt 9 t2) fun t9 =>
 C6 PR X 72 [t9, t0, t1] fun t12 =>
 A0 PR (Instr.extract t12 0) fun t13 =>
 A0 PR (Instr.extract t12 1) fun t14 =>
 A0 PR (convert 112 3 t13) fun t16 =>
 R t16
theorem U1 : B0 PR 75 := A9 Try.func75 (by kernel_rfl) rfl
theorem A4r {X : Nat → Prop} {t0 t1 t2 : Value} {R : Value → WP} {w : World} (h : A0n X t0 t1 t2 R w) : Fn PR X 75 #[t0, t1, t2] w R := D3 (args := [t0, t1, t2]) mixed Try.func75 (by kernel_rfl) h
def A2c (X : Nat → Prop) (t0 : Value) (R : Value → WP) : WP :=
 jn (n := 2) (fun t3 t8 =>
 R t3) fun J1 =>
 A0 PR (A7 .len #[165] 0 [t0]) fun t7 =>
 lp (n := 2) (fun L2 t3_1 t8_1 =>
 A0 PR (binOp .lss 3 t8_1 t7) fun t9 =>
 jn (n := 0) (
 jn (n := 1) (fun t3_2 =>
 A0 PR (binOp .add 3 t8_1 (.int .i64 1)) fun t17 =>
 L2 t3_2 t17) fun J3 =>
 A0 PR (Instr.indexAt 165 t0 t8_1) fun t10 =>
 A6 PR (Instr.loadAt 161 t10) fun t11 =>
 B1 PR X (Instr.alloc 161 true (.tuple #[])) fun t5 =>
 C8 PR X (Instr.storeAt 161 t5 t11) <|
 A0 PR (Instr.fieldAt 161 t5 0) fun t12 =>
 A6 PR (Instr.loadAt 29 t12) fun t13 =>
 F3 PR X t13 [] fun t14 =>
 C9 t14 (
 A0 PR (Instr.fieldAt 161 t5 1) fun t15 =>
 A6 PR (Instr.loadAt 44 t15) fun t16 =>
 J1 t16 t8_1) (
 J3 t3_1)) fun J4 =>
 C9 t9 (
 J4) (
 J1 t3_1 t8_1)) (.int .i64 0) (.int .i64 0)
theorem A6H : B0 PR 76 := A9 Try.func76 (by kernel_rfl) rfl
theorem A66 {X : Nat → Prop} {t0 : Value} {R : Value → WP} {w : World} (h : A2c X t0 R w) : Fn PR X 76 #[t0] w R := D3 (args := [t0]) mixed Try.func76 (by kernel_rfl) h
def A0k (X : Nat → Prop) (t0 : Value) (R : Value → WP) : WP :=
 A6 PR (Instr.loadAt 9 t0) fun t2 =>
 A0 PR (A7 .len #[9] 0 [t2]) fun t3 =>
 A0 PR (binOp .lss 3 t3 (.int .i64 20)) fun t4 =>
 R t4
theorem A3q : B0 PR 77 := A9 Try.func77 (by kernel_rfl) rfl
theorem A4l {X : Nat → Prop} {t0 : Value} {R : Value → WP} {w : World} (h : A0k X t0 R w) : Fn PR X 77 #[t0] w R := D3 (args := [t0]) mixed Try.func77 (by kernel_rfl) h
def A0f (X : Nat → Prop) (t0 : Value) (R : Value → WP) : WP :=
 A6 PR (Instr.loadAt 73 t0) fun t2 =>
 F3 PR X t2 [(.int .i64 0), (.int .i64 1)] fun t3 =>
 A0 PR (binOp .shr 3 t3 (.int .u64 4)) fun t4 =>
 A0 PR (binOp .neq 3 t4 (.int .i64 4)) fun t5 =>
 R t5
theorem A3w : B0 PR 78 := A9 Try.func78 (by kernel_rfl) rfl
theorem A4V {X : Nat → Prop} {t0 : Value} {R : Value → WP} {w : World} (h : A0f X t0 R w) : Fn PR X 78 #[t0] w R := D3 (args := [t0]) mixed Try.func78 (by kernel_rfl) h
def A0m (X : Nat → Prop) (t0 t1 t2 : Value) (R : Value → WP) : WP :=
 A6 PR (Instr.loadAt 3 t0) fun t4 =>
 A0 PR (binOp .lss 3 t4 (.int .i64 20)) fun t5 =>
 gj t5 false (fun J => A6 PR (Instr.loadAt 3 t0) J) fun t7 =>
 gj t5 false (fun J => A6 PR (Instr.loadAt 9 t1) J) fun t8 =>
 gj t5 false (fun J => A0 PR (A7 .len #[9] 0 [t8]) J) fun t9 =>
 gj t5 false (fun J => A0 PR (binOp .gtr 3 t7 t9) J) fun t10 =>
 A0 PR (do pure (if ← asBool t5 then (.bool true) else t10)) fun t11 =>
 gj t11 false (fun J => A6 PR (Instr.loadAt 3 t2) J) fun t13 =>
 gj t11 false (fun J => A6 PR (Instr.loadAt 3 t0) J) fun t14 =>
 gj t11 false (fun J => A0 PR (binOp .lss 3 t13 t14) J) fun t15 =>
 A0 PR (do pure (if ← asBool t11 then (.bool true) else t15)) fun t16 =>
 gj t16 false (fun J => A6 PR (Instr.loadAt 3 t2) J) fun t18 =>
 gj t16 false (fun J => A6 PR (Instr.loadAt 9 t1) J) fun t19 =>
 gj t16 false (fun J => A0 PR (A7 .len #[9] 0 [t19]) J) fun t20 =>
 gj t16 false (fun J => A0 PR (binOp .gtr 3 t18 t20) J) fun t21 =>
 A0 PR (do pure (if ← asBool t16 then (.bool true) else t21)) fun t22 =>
 R t22
theorem A34 : B0 PR 79 := A9 Try.func79 (by kernel_rfl) rfl
theorem A4v {X : Nat → Prop} {t0 t1 t2 : Value} {R : Value → WP} {w : World} (h : A0m X t0 t1 t2 R w) : Fn PR X 79 #[t0, t1, t2] w R := D3 (args := [t0, t1, t2]) mixed Try.func79 (by kernel_rfl) h
def A0S (X : Nat → Prop) (t0 t1 : Value) (R : Value → WP) : WP :=
 A6 PR (Instr.loadAt 9 t0) fun t3 =>
 A6 PR (Instr.loadAt 3 t1) fun t4 =>
 A0 PR (Instr.sliceAt 9 t3 none (some t4) none) fun t5 =>
 C6 PR X 81 [t5] fun t6 =>
 A0 PR (Op.unary .not t6) fun t7 =>
 R t7
theorem A31 : B0 PR 80 := A9 Try.func80 (by kernel_rfl) rfl
theorem A4c {X : Nat → Prop} {t0 t1 : Value} {R : Value → WP} {w : World} (h : A0S X t0 t1 R w) : Fn PR X 80 #[t0, t1] w R := D3 (args := [t0, t1]) mixed Try.func80 (by kernel_rfl) h
def A0l (X : Nat → Prop) (t0 : Value) (R : Value → WP) : WP :=
 A6 PR (Instr.loadAt 73 t0) fun t2 =>
 F3 PR X t2 [(.int .i64 6), (.int .i64 2)] fun t3 =>
 A0 PR (binOp .and 3 t3 (.int .i64 16383)) fun t4 =>
 A0 PR (binOp .neq 3 t4 (.int .i64 0)) fun t5 =>
 R t5
theorem A4C : B0 PR 82 := A9 Try.func82 (by kernel_rfl) rfl
theorem A40 {X : Nat → Prop} {t0 : Value} {R : Value → WP} {w : World} (h : A0l X t0 R w) : Fn PR X 82 #[t0] w R := D3 (args := [t0]) mixed Try.func82 (by kernel_rfl) h
end Go.Proofs.Ytlplkjgcfjdinaa
namespace Go.Proofs.Ytlplkjgcfjdinaa
open Go
def A41 (X : Nat → Prop) (t0 : Value) (R : Value → WP) : WP :=
 C6 PR X 58 [t0] fun t4 =>
 A0 PR (binOp .sub 3 (.int .i64 65535) t4) fun t5 =>
 R t5
theorem A8Q : B0 PR 48 := A9 Try.func48 (by kernel_rfl) rfl
theorem A9q {X : Nat → Prop} {t0 : Value} {R : Value → WP} {w : World} (h : A41 X t0 R w) : Fn PR X 48 #[t0] w R := D3 (args := [t0]) mixed Try.func48 (by kernel_rfl) h
def A3f (X : Nat → Prop) (t0 : Value) (R : Value → WP) : WP :=
 B1 PR X (Instr.alloc 112 true (.tuple #[])) fun t3 =>
 jn (n := 0) (
 jn (n := 0) (
 A6 PR (Instr.loadAt 112 t3) fun t18 =>
 A0 PR (convert 112 3 t18) fun t19 =>
 y0 (R t19)) fun J1 =>
 lp (n := 0) (fun L2 =>
 jn (n := 0) (
 A6 PR (Instr.loadAt 112 t3) fun t13 =>
 A0 PR (binOp .shr 112 t13 (.int .u64 16)) fun t14 =>
 A6 PR (Instr.loadAt 112 t3) fun t15 =>
 A0 PR (binOp .and 112 t15 (.int .u64 65535)) fun t16 =>
 A0 PR (binOp .add 112 t14 t16) fun t17 =>
 C8 PR X (Instr.storeAt 112 t3 t17) <|
 L2) fun J3 =>
 A6 PR (Instr.loadAt 112 t3) fun t11 =>
 A0 PR (binOp .leq 112 t11 (.int .u64 65535)) fun t12 =>
 C9 t12 (
 J1) (
 J3)) ) fun J4 =>
 C6 PR X 65 [t0] fun t6 =>
 rng (N := 1) PR X (fun t7 K5 =>
 bgn <|
 A6 PR (Instr.loadAt 112 t3) fun t8 =>
 A0 PR (binOp .add 112 t8 t7) fun t10 =>
 C8 PR (fun _ => False) (Instr.storeAt 112 t3 t10) <|
 K5 none) t6 (fun j => match j with | none => (J4) | some (.exit i) => (match Nat.beq i 0 with | true => (J4) | false => (D9)) | some .ret => (y0 (R (.int .i64 0))) | some _ => D9)
theorem A25 : B0 PR 58 := A9 Try.func58 (by kernel_rfl) rfl
theorem A74 {X : Nat → Prop} {t0 : Value} {R : Value → WP} {w : World} (h : A3f X t0 R w) : Fn PR X 58 #[t0] w R := D3 (args := [t0]) mixed Try.func58 (by kernel_rfl) h
def A2b (X : Nat → Prop) (t0 : Value) (R : Value → WP) : WP :=
 B1 PR X (Instr.box 9 t0) fun t1 =>
 A0 PR (Instr.makeFunc (.func 74) #[] #[t1]) fun t3 =>
 R t3
theorem A6D : B0 PR 65 := A9 Try.func65 (by kernel_rfl) rfl
theorem A7d {X : Nat → Prop} {t0 : Value} {R : Value → WP} {w : World} (h : A2b X t0 R w) : Fn PR X 65 #[t0] w R := D3 (args := [t0]) mixed Try.func65 (by kernel_rfl) h
def A0j (X : Nat → Prop) (t0 t1 : Value) (R : Value → WP) : WP :=
 jn (n := 0) (
 lp (n := 1) (fun L1 t3 =>
 jn (n := 0) (
 jn (n := 0) (
 A0 PR (binOp .add 3 t3 (.int .i64 2)) fun t17 =>
 L1 t17) fun J2 =>
 A6 PR (Instr.loadAt 9 t1) fun t19 =>
 C6 PR X 72 [t19, t3, (.int .i64 2)] fun t21 =>
 A0 PR (Instr.extract t21 0) fun t22 =>
 A0 PR (Instr.extract t21 1) fun t23 =>
 F3 PR X t0 [t22] fun t26 =>
 A0 PR (Op.unary .not t26) fun t27 =>
 C9 t27 (
 R (.tuple #[])) (
 J2)) fun J3 =>
 A6 PR (Instr.loadAt 9 t1) fun t13 =>
 A0 PR (A7 .len #[9] 0 [t13]) fun t14 =>
 A0 PR (binOp .lss 3 t3 t14) fun t15 =>
 C9 t15 (
 J3) (
 R (.tuple #[]))) (.int .i64 0)) fun J4 =>
 A6 PR (Instr.loadAt 9 t1) fun t6 =>
 A0 PR (A7 .len #[9] 0 [t6]) fun t7 =>
 A0 PR (binOp .rem 3 t7 (.int .i64 2)) fun t8 =>
 A0 PR (binOp .eql 3 t8 (.int .i64 1)) fun t9 =>
 C9 t9 (
 A6 PR (Instr.loadAt 9 t1) fun t10 =>
 A0 PR (binOp .add 9 t10 (.string (ByteArray.mk #[0]))) fun t11 =>
 C8 PR X (Instr.storeAt 9 t1 t11) <|
 J4) (
 J4)
theorem A37 : B0 PR 74 := A9 Try.func74 (by kernel_rfl) rfl
theorem A44 {X : Nat → Prop} {t0 t1 : Value} {R : Value → WP} {w : World} (h : A0j X t0 t1 R w) : Fn PR X 74 #[t0, t1] w R := D3 (args := [t0, t1]) mixed Try.func74 (by kernel_rfl) h
theorem A42 {X : Nat → Prop} {t0 t1 : Value} {K : Value → WP} {w : World} (h : Fn PR X 74 #[t0, t1] w K) : A02 PR X 74 [t0, t1] K w := ⟨A37, h⟩
def A3Z (X : Nat → Prop) (t0 : Value) (R : Value → WP) : WP :=
 C6 PR X 58 [t0] fun t4 =>
 A0 PR (binOp .eql 3 t4 (.int .i64 65535)) fun t5 =>
 R t5
theorem A7q : B0 PR 81 := A9 Try.func81 (by kernel_rfl) rfl
theorem A8P {X : Nat → Prop} {t0 : Value} {R : Value → WP} {w : World} (h : A3Z X t0 R w) : Fn PR X 81 #[t0] w R := D3 (args := [t0]) mixed Try.func81 (by kernel_rfl) h
end Go.Proofs.Ytlplkjgcfjdinaa
namespace Go.Proofs.Ytlplkjgcfjdinaa
open Go
abbrev B01 (b : Nat) : Value := .func (.func 74) #[] #[.pointer (some ⟨b, 0, none⟩)]
theorem B2T (w : World) (s : ByteArray) : Fn PR C5 65 #[.string s] w (Rn [] w (fun b v => v = B01 b) fun b => [.pt b (.cells #[.string s] 9)]) := by
 refine A7d (TW.go (κ := false) (S := []) ?_)
 unfold A2b
 (have zz:=trivial;repeat((first|clear zz|with_reducible first|refine A3 ?_|refine A5 fun _=>?_|refine A4 fun _=>?_);try simp(disch:=first|omega|assumption|((repeat(first|exact A1|exact uH|apply A2|apply uT));first|done|fail)|(simp;first|done|omega|fail))[]))
 rename_i b
 exact y8 b rfl (by simp)
def A6g (s : ByteArray) (i : Nat) : List Value := [.int .u64 (W4 s (2 * i) 2 : Nat)]
def M6 (s : ByteArray) : Nat := (s.size + 1) / 2
def pad (s : ByteArray) : ByteArray := if s.size % 2 = 1 then s ++ ByteArray.mk #[0] else s
theorem B12 (s : ByteArray) : (pad s).size = 2 * M6 s := by
 unfold pad M6; split
 ·rw [ByteArray.size_append, show (ByteArray.mk #[0]).size = 1 from rfl]; omega
 ·omega
theorem A6F (s t : ByteArray) (i : Nat) : D4 (s ++ t) i = if i < s.size then D4 s i else D4 t (i - s.size) := by
 unfold D4
 rw [ByteArray.data_append, Array.getD_eq_getD_getElem?, Array.getElem?_append, Array.getD_eq_getD_getElem?, Array.getD_eq_getD_getElem?]
 simp only [ByteArray.size]
 split <;> rfl
theorem A9E (s : ByteArray) (i : Nat) : D4 (pad s) i = D4 s i := by
 unfold pad; split
 ·rw [A6F]; split
  ·rfl
  ·rename_i h
   have h1 : D4 s i = 0 := by unfold D4; rw [Array.getD_eq_getD_getElem?, Array.getElem?_eq_none (by simp only [ByteArray.size] at h; omega)]; rfl
   rw [h1]; unfold D4
   by_cases h2 : i - s.size = 0
   ·rw [h2]; rfl
   ·rw [Array.getD_eq_getD_getElem?, Array.getElem?_eq_none (by simp; omega)]; rfl
 ·rfl
theorem B24 (s : ByteArray) (a n : Nat) : W4 (pad s) a n = W4 s a n := by
 induction n with
 | zero => rfl
 | succ n ih => simp only [W4, ih, A9E]
theorem B1z (b : Nat) (s : ByteArray) (hs : s.size < 2 ^ 60) : A6c (B01 b) [.pt b (.cells #[.string s] 9)] (fun _ _ => True) ((List.range (M6 s)).map (A6g s)) := by
 refine ⟨_, _, _, rfl, fun l J E hJ hE stJ stE hy w0 h0 => ?_⟩
 refine A42 (A44 (TW.at (κ := true) ?_ (hJ _ _ _ h0).1))
 unfold A0j
 have hp := B12 s
 have hnw : M6 s ≤ s.size := by unfold M6; omega
 have key : ∀ Lp : WP, TW true (B7 [Res.pt b (.cells #[.string s] 9)]) w0 [.pt b (.cells #[.string (pad s)] 9)] Lp → (if s.size % 2 = 1 then TW true (B7 [Res.pt b (.cells #[.string s] 9)]) w0 [.pt b (.cells #[.string (s ++ ByteArray.mk #[0])] 9)] Lp else TW true (B7 [Res.pt b (.cells #[.string s] 9)]) w0 [.pt b (.cells #[.string s] 9)] Lp) := by
  intro Lp h; unfold pad at h; split <;> simp_all
 have hrem : ((s.size : Int).tmod 2 = 1) = (s.size % 2 = 1) := by
  rw [Int.tmod_eq_emod_of_nonneg (by omega)]; exact propext (by omega)
 have hadd : s.size + (ByteArray.mk #[0]).size ≤ 9223372036854775807 := by rw [show (ByteArray.mk #[0]).size = 1 from rfl]; omega
 (have zz:=trivial;repeat((first|clear zz|with_reducible first|refine A3 ?_|refine A5 fun _=>?_|refine A4 fun _=>?_);try simp(disch:=first|omega|assumption|((repeat(first|exact A1|exact uH|apply A2|apply uT));first|done|fail)|(simp;first|done|omega|fail))[B43, P0, hrem]))
 refine key _ ?_
 clear key
 refine B2g (fun i => i) (fun _ => [.pt b (.cells #[.string (pad s)] 9)]) (fun i => i ≤ M6 s) (fun i => M6 s - i) (fun i : Nat => .int .i64 (2 * (i : Int))) 0 hJ stJ h0 (Nat.zero_le _) fun i a hi hJi _ L hL => ?_
 by_cases hlt : i < M6 s
 ·have h2 : 2 * (i : Int) < (pad s).size := by omega
  (have zz:=trivial;repeat((first|clear zz|with_reducible first|refine A3 ?_|refine A5 fun _=>?_|refine A4 fun _=>?_);try simp(disch:=first|omega|assumption|((repeat(first|exact A1|exact uH|apply A2|apply uT));first|done|fail)|(simp;first|done|omega|fail))[h2]))
  refine C7 J0 (fun w' _ => p8 w' (pad s) (by omega) _ _) ?_
  have hg : n0 (pad s) (2 * (i : Int)) 2 = true := by simp only [n0, decide_eq_true_eq]; omega
  have hv : A00 (pad s) (2 * (i : Int)) 2 = (W4 s (2 * i) 2 : Nat) := by
   unfold A00; rw [if_pos hg, B24]; congr 2
  rw [hv, hg]
  (have zz:=trivial;repeat((first|clear zz|with_reducible first|refine A3 ?_|refine A5 fun _=>?_|refine A4 fun _=>?_);try simp(disch:=first|omega|assumption|((repeat(first|exact A1|exact uH|apply A2|apply uT));first|done|fail)|(simp;first|done|omega|fail))[]))
  refine A8x hJ hE stJ hy hJi (by simpa using hlt) (by simp [A6g]) (fun w3 h => ?_) (fun w3 h => ?_)
  ·(have zz:=trivial;repeat((first|clear zz|with_reducible first|refine A3 ?_|refine A5 fun _=>?_|refine A4 fun _=>?_);try simp(disch:=first|omega|assumption|((repeat(first|exact A1|exact uH|apply A2|apply uT));first|done|fail)|(simp;first|done|omega|fail))[]))
   intro w' hw'
   have := hL (i + 1) w' hlt (by omega) (stJ _ _ _ _ _ h hw')
   simpa [Int.mul_add] using this
  ·(have zz:=trivial;repeat((first|clear zz|with_reducible first|refine A3 ?_|refine A5 fun _=>?_|refine A4 fun _=>?_);try simp(disch:=first|omega|assumption|((repeat(first|exact A1|exact uH|apply A2|apply uT));first|done|fail)|(simp;first|done|omega|fail))[]))
   exact A7e stE h
 ·have h2 : ¬ 2 * (i : Int) < (pad s).size := by omega
  obtain rfl : i = M6 s := by omega
  (have zz:=trivial;repeat((first|clear zz|with_reducible first|refine A3 ?_|refine A5 fun _=>?_|refine A4 fun _=>?_);try simp(disch:=first|omega|assumption|((repeat(first|exact A1|exact uH|apply A2|apply uT));first|done|fail)|(simp;first|done|omega|fail))[h2]))
  exact A7m stJ (by simpa using hJi)
def A1l (s : ByteArray) : Nat → Nat
 | 0 => 0
 | i + 1 => A1l s i + W4 s (2 * i) 2
def fld (n : Nat) : Nat := if n = 0 then 0 else (n - 1) % 65535 + 1
def a7 (s : ByteArray) : Nat := fld (A1l s (M6 s))
theorem B2W (n : Nat) : fld (n / 65536 + n % 65536) = fld n := by
 unfold fld
 have h := Nat.div_add_mod n 65536
 by_cases h0 : n = 0
 ·subst h0; rfl
 ·rw [if_neg (by omega), if_neg h0]; omega
theorem B0K {n : Nat} (h : n ≤ 65535) : fld n = n := by unfold fld; split <;> omega
theorem B06 (n : Nat) : fld n ≤ 65535 := by unfold fld; split <;> omega
theorem A8b (s : ByteArray) (i : Nat) : A1l s i ≤ i * 65535 := by
 induction i with
 | zero => simp [A1l]
 | succ i ih => have := A2x s (2 * i) 2; simp only [A1l]; omega
theorem B2b (n : Nat) (h : n < 2 ^ 64) : IntKind.u64.wrap ((n % 2 ^ IntKind.u64.bits &&& 65535 % 2 ^ IntKind.u64.bits : Nat) : Int) = ((n % 65536 : Nat) : Int) := by
 rw [show (2 : Nat) ^ IntKind.u64.bits = 2 ^ 64 from rfl, Nat.mod_eq_of_lt h, show 65535 % 2 ^ 64 = 2 ^ 16 - 1 from rfl, Nat.and_two_pow_sub_one_eq_mod]
 exact w5 (by omega) (by omega)
theorem A8q (w : World) (s : ByteArray) (hs : s.size < 2 ^ 40) : Fn PR C5 58 #[.string s] w (fun v w' => v = .int .i64 (a7 s : Nat) ∧ B5 [] w w') := by
 refine Fn.pure (A74 (TW.go (κ := false) (S := []) ?_))
 unfold A3f
 (have zz:=trivial;repeat((first|clear zz|with_reducible first|refine A3 ?_|refine A5 fun _=>?_|refine A4 fun _=>?_);try simp(disch:=first|omega|assumption|((repeat(first|exact A1|exact uH|apply A2|apply uT));first|done|fail)|(simp;first|done|omega|fail))[]))
 rename_i bn
 refine M4 A6D (fun w' _ => B2T w' s) ?_
 rintro b v rfl
 have hnw : M6 s ≤ 2 ^ 39 := by unfold M6; omega
 refine A6j (B1z b s (by omega)) (by simp [A6g]) (fun _ (_ : Unit) => True) (fun i _ => [.pt bn (.cells #[.int .u64 ((A1l s i : Nat) : Int)] 112)]) (fun _ (_ : Unit) => False) (fun _ => []) () trivial ?_ ?_ ?_ ?_
 ·intros; trivial
 ·rintro i hi _ F _ K' hK _
  have hi' : i < M6 s := by simpa using hi
  have h1 := A8b s i
  have h2 := A2x s (2 * i) 2
  simp only [List.getElem_map, List.getElem_range, A6g, VF.app]
  (have zz:=trivial;repeat((first|clear zz|with_reducible first|refine A3 ?_|refine A5 fun _=>?_|refine A4 fun _=>?_);try simp(disch:=first|omega|assumption|((repeat(first|exact A1|exact uH|apply A2|apply uT));first|done|fail)|(simp;first|done|omega|fail))[]))
  refine TW.eqH ?_ (hK () trivial)
  simp [A1l]
 ·rintro _ _
  (have zz:=trivial;repeat((first|clear zz|with_reducible first|refine A3 ?_|refine A5 fun _=>?_|refine A4 fun _=>?_);try simp(disch:=first|omega|assumption|((repeat(first|exact A1|exact uH|apply A2|apply uT));first|done|fail)|(simp;first|done|omega|fail))[]))
  refine B4l (fun n : Nat => [.pt bn (.cells #[.int .u64 (n : Int)] 112)]) (fun n => fld n = a7 s ∧ n < 2 ^ 63) (fun n => n) _ ⟨by simp [a7], by have := A8b s (M6 s); simp; omega⟩ ?_
  rintro n ⟨h1, h2⟩ L hL
  by_cases h3 : n ≤ 65535
  ·have h4 : (n : Int) ≤ 65535 := by omega
   (have zz:=trivial;repeat((first|clear zz|with_reducible first|refine A3 ?_|refine A5 fun _=>?_|refine A4 fun _=>?_);try simp(disch:=first|omega|assumption|((repeat(first|exact A1|exact uH|apply A2|apply uT));first|done|fail)|(simp;first|done|omega|fail))[h4]))
   rw [B0K h3] at h1
   exact A8 (by rw [h1])
  ·have h4 : ¬ (n : Int) ≤ 65535 := by omega
   have e1 : (n : Int).fdiv (2 ^ min 16 IntKind.u64.bits) = (n / 65536 : Nat) := by rw [show (2 : Int) ^ min 16 IntKind.u64.bits = 65536 from rfl, Int.fdiv_eq_ediv_of_nonneg _ (by omega)]; omega
   (have zz:=trivial;repeat((first|clear zz|with_reducible first|refine A3 ?_|refine A5 fun _=>?_|refine A4 fun _=>?_);try simp(disch:=first|omega|assumption|((repeat(first|exact A1|exact uH|apply A2|apply uT));first|done|fail)|(simp;first|done|omega|fail))[h4]))
   refine TW.eqH ?_ (hL (n / 65536 + n % 65536) ⟨by rw [B2W]; exact h1, by omega⟩ (by omega))
   rw [e1, B2b n (by omega), w5 (by omega) (by omega)]; simp
 ·rintro _ _ h; exact h.elim
def A5B (s : ByteArray) : Int := 65535 - a7 s
theorem B4Y (w : World) (s : ByteArray) (hs : s.size < 2 ^ 40) : Fn PR C5 48 #[.string s] w (fun v w' => v = .int .i64 (A5B s) ∧ B5 [] w w') := by
 refine Fn.pure (A9q (TW.go (κ := false) (S := []) ?_))
 unfold A41
 refine C7 A25 (fun w' _ => A8q w' s hs) ?_
 have := B06 (A1l s (M6 s))
 have h2 : ((a7 s : Nat) : Int) ≤ 65535 := by unfold a7; omega
 (have zz:=trivial;repeat((first|clear zz|with_reducible first|refine A3 ?_|refine A5 fun _=>?_|refine A4 fun _=>?_);try simp(disch:=first|omega|assumption|((repeat(first|exact A1|exact uH|apply A2|apply uT));first|done|fail)|(simp;first|done|omega|fail))[]))
 exact A8 rfl
theorem B3H (w : World) (s : ByteArray) (hs : s.size < 2 ^ 40) : Fn PR C5 81 #[.string s] w (fun v w' => v = .bool (decide (a7 s = 65535)) ∧ B5 [] w w') := by
 refine Fn.pure (A8P (TW.go (κ := false) (S := []) ?_))
 unfold A3Z
 refine C7 A25 (fun w' _ => A8q w' s hs) ?_
 (have zz:=trivial;repeat((first|clear zz|with_reducible first|refine A3 ?_|refine A5 fun _=>?_|refine A4 fun _=>?_);try simp(disch:=first|omega|assumption|((repeat(first|exact A1|exact uH|apply A2|apply uT));first|done|fail)|(simp;first|done|omega|fail))[]))
 exact A8 (by simp; omega)
end Go.Proofs.Ytlplkjgcfjdinaa
namespace Go.Proofs.Ytlplkjgcfjdinaa
open Go
def gv (s : ByteArray) (a n : Nat) : Nat := if a + n ≤ s.size then W4 s a n else 0
theorem A1V (s : ByteArray) (a n : Nat) (h1 : 1 ≤ n) (h8 : n ≤ 8) : A00 s a n = gv s a n := by
 unfold A00 gv
 by_cases h : a + n ≤ s.size
 ·rw [if_pos (by simp only [n0, decide_eq_true_eq]; omega), if_pos h]; simp
 ·rw [if_neg (by simp only [n0, decide_eq_true_eq]; omega), if_neg h]; rfl
theorem A4f (s : ByteArray) (a : Nat) : gv s a 1 < 256 := by
 unfold gv; split
 ·exact A2x s a 1
 ·omega
theorem A1N (s : ByteArray) (a : Nat) : gv s a 2 < 65536 := by
 unfold gv; split
 ·exact A2x s a 2
 ·omega
theorem y9 (w : World) (s : ByteArray) (hs : s.size < 2 ^ 40) (b a n : Nat) (h1 : 1 ≤ n) (h2 : n ≤ 2) (hc : w.cell? ⟨b, 0, none⟩ = some (.string s)) :
  Fn PR C5 75 #[.int .i64 (a : Int), .int .i64 (n : Int), .pointer (some ⟨b, 0, none⟩)] w (fun v w' => v = .int .i64 (gv s a n : Nat) ∧ B5 [] w w') := by
 refine Fn.pure (A4r (TW.go (κ := false) (S := []) ?_))
 unfold A0n
 (have zz:=trivial;repeat((first|clear zz|with_reducible first|refine A3 ?_|refine A5 fun _=>?_|refine A4 fun _=>?_|refine B9 fun _=>?_|refine C3 (hK:=fun _=>?_)|refine B4 (hK:=fun _=>?_)|refine C0 (hK:=fun _=>?_)|refine C4 (hK:=fun _=>?_)|refine B8 (hK:=fun _=>?_));try simp(disch:=first|omega|assumption|((repeat(first|exact A1|exact uH|apply A2|apply uT));first|done|fail)|(simp;first|done|omega|fail))[hc]))
 refine C7 J0 (fun w' _ => p8 w' s (by omega) _ _) ?_
 rw [A1V s a n h1 (by omega)]
 have hlt : gv s a n < 65536 := by
  obtain rfl | rfl : n = 1 ∨ n = 2 := by omega
  ·have := A4f s a; omega
  ·exact A1N s a
 (have zz:=trivial;repeat((first|clear zz|with_reducible first|refine A3 ?_|refine A5 fun _=>?_|refine A4 fun _=>?_|refine B9 fun _=>?_|refine C3 (hK:=fun _=>?_)|refine B4 (hK:=fun _=>?_)|refine C0 (hK:=fun _=>?_)|refine C4 (hK:=fun _=>?_)|refine B8 (hK:=fun _=>?_));try simp(disch:=first|omega|assumption|((repeat(first|exact A1|exact uH|apply A2|apply uT));first|done|fail)|(simp;first|done|omega|fail))[]))
 exact A8 rfl
theorem B2z (w : World) (s : ByteArray) (hs : s.size < 2 ^ 40) (b : Nat) (hc : w.cell? ⟨b, 0, none⟩ = some (.string s)) :
  Fn PR C5 75 #[.int .i64 0, .int .i64 1, .pointer (some ⟨b, 0, none⟩)] w (fun v w' => v = .int .i64 (gv s 0 1 : Nat) ∧ B5 [] w w') := y9 w s hs b 0 1 (by omega) (by omega) hc
theorem B2v (w : World) (s : ByteArray) (hs : s.size < 2 ^ 40) (b : Nat) (hc : w.cell? ⟨b, 0, none⟩ = some (.string s)) :
  Fn PR C5 75 #[.int .i64 2, .int .i64 2, .pointer (some ⟨b, 0, none⟩)] w (fun v w' => v = .int .i64 (gv s 2 2 : Nat) ∧ B5 [] w w') := y9 w s hs b 2 2 (by omega) (by omega) hc
theorem B3J (w : World) (s : ByteArray) (hs : s.size < 2 ^ 40) (b : Nat) (hc : w.cell? ⟨b, 0, none⟩ = some (.string s)) :
  Fn PR C5 75 #[.int .i64 9, .int .i64 1, .pointer (some ⟨b, 0, none⟩)] w (fun v w' => v = .int .i64 (gv s 9 1 : Nat) ∧ B5 [] w w') := y9 w s hs b 9 1 (by omega) (by omega) hc
def A6b (x : Value × Int × Bool) : List Value := [x.1, .int .i64 x.2.1]
def A0F (l : List (Value × Int × Bool)) : Int := match l.find? (·.2.2) with | some x => x.2.1 | none => 0
theorem A78 {l : List (Value × Int × Bool)} (h : ∀ i (hi : i < l.length), l[i].2.2 = false) : A0F l = 0 := by
 have : l.find? (·.2.2) = none := by
  rw [List.find?_eq_none]; intro x hx; obtain ⟨i, hi, rfl⟩ := List.getElem_of_mem hx; simp [h i hi]
 simp [A0F, this]
theorem A8S {l : List (Value × Int × Bool)} {i : Nat} (hi : i < l.length) (hp : l[i].2.2 = true) (h : ∀ j (hj : j < i), (l[j]'(by omega)).2.2 = false) : A0F l = l[i].2.1 := by
 have : l.find? (·.2.2) = some l[i] := by
  rw [List.find?_eq_some_iff_getElem]
  exact ⟨hp, i, hi, rfl, fun j hj => by simp [h j hj]⟩
 simp [A0F, this]
theorem B1w (w : World) (v : Value) (l : List (Value × Int × Bool)) (hl : l.length < 1000) (hv : E9 w v l.length (l.flatMap A6b))
  (hg : ∀ i (hi : i < l.length), (∀ j (hj : j < i), (l[j]'(by omega)).2.2 = false) → ∃ f cap, l[i].1 = .func (.func f) #[] cap ∧ B0 PR f ∧ ∀ w', KS false [] w w' → Fn PR C5 f cap w' (fun v w'' => v = .bool l[i].2.2 ∧ B5 [] w' w'')) :
  Fn PR C5 76 #[v] w (fun u w' => u = .int .i64 (A0F l) ∧ B5 [] w w') := by
 refine Fn.pure (A66 (TW.go (κ := false) (S := []) ?_))
 unfold A2c
 obtain ⟨a, c, rfl, hrow⟩ := hv.form
 (have zz:=trivial;repeat((first|clear zz|with_reducible first|refine A3 ?_|refine A5 fun _=>?_|refine A4 fun _=>?_|refine B9 fun _=>?_|refine C3 (hK:=fun _=>?_)|refine B4 (hK:=fun _=>?_)|refine C0 (hK:=fun _=>?_)|refine C4 (hK:=fun _=>?_)|refine B8 (hK:=fun _=>?_));try simp(disch:=first|omega|assumption|((repeat(first|exact A1|exact uH|apply A2|apply uT));first|done|fail)|(simp;first|done|omega|fail))[]))
 refine q7 (α := Unit) l.length (fun _ _ => .int .i64 0) (fun _ _ => []) (fun i _ => ∀ j (hj : j < i), ∀ (h : j < l.length), l[j].2.2 = false) () (by intro j hj; omega) ?_
 rintro i _ hi hpre L hL
 by_cases hlt : i < l.length
 ·obtain ⟨b, o, rfl, hr⟩ := hrow (by omega)
  have hx : l[i]? = some l[i] := List.getElem?_eq_getElem hlt
  have hrn := hr.at (f := A6b) (k := 2) (fun _ => rfl) hx
  have hpre' : ∀ j (hj : j < i), (l[j]'(by omega)).2.2 = false := fun j hj => hpre j hj (by omega)
  obtain ⟨f, cap, he, hent, hcall⟩ := hg i hlt hpre'
  rw [A6b, he] at hrn
  (have zz:=trivial;repeat((first|clear zz|with_reducible first|refine A3 ?_|refine A5 fun _=>?_|refine A4 fun _=>?_|refine B9 fun _=>?_|refine C3 (hK:=fun _=>?_)|refine B4 (hK:=fun _=>?_)|refine C0 (hK:=fun _=>?_)|refine C4 (hK:=fun _=>?_)|refine B8 (hK:=fun _=>?_));try simp(disch:=first|omega|assumption|((repeat(first|exact A1|exact uH|apply A2|apply uT));first|done|fail)|(simp;first|done|omega|fail))[hlt, hrn]))
  refine A6u hent (φ := fun v => v = .bool l[i].2.2) (fun w' hw' => by simpa using hcall w' hw'.ks) ?_
  rintro _ rfl
  cases hb : l[i].2.2 with
  | true =>
   (have zz:=trivial;repeat((first|clear zz|with_reducible first|refine A3 ?_|refine A5 fun _=>?_|refine A4 fun _=>?_|refine B9 fun _=>?_|refine C3 (hK:=fun _=>?_)|refine B4 (hK:=fun _=>?_)|refine C0 (hK:=fun _=>?_)|refine C4 (hK:=fun _=>?_)|refine B8 (hK:=fun _=>?_));try simp(disch:=first|omega|assumption|((repeat(first|exact A1|exact uH|apply A2|apply uT));first|done|fail)|(simp;first|done|omega|fail))[]))
   exact A8 (by rw [A8S hlt hb hpre'])
  | false =>
   (have zz:=trivial;repeat((first|clear zz|with_reducible first|refine A3 ?_|refine A5 fun _=>?_|refine A4 fun _=>?_|refine B9 fun _=>?_|refine C3 (hK:=fun _=>?_)|refine B4 (hK:=fun _=>?_)|refine C0 (hK:=fun _=>?_)|refine C4 (hK:=fun _=>?_)|refine B8 (hK:=fun _=>?_));try simp(disch:=first|omega|assumption|((repeat(first|exact A1|exact uH|apply A2|apply uT));first|done|fail)|(simp;first|done|omega|fail))[]))
   refine Sels.tw .nil (hL hlt () ?_)
   intro j hj h
   by_cases hji : j = i
   ·subst hji; exact hb
   ·exact hpre j (by omega) h
 ·obtain rfl : i = l.length := by omega
  (have zz:=trivial;repeat((first|clear zz|with_reducible first|refine A3 ?_|refine A5 fun _=>?_|refine A4 fun _=>?_|refine B9 fun _=>?_|refine C3 (hK:=fun _=>?_)|refine B4 (hK:=fun _=>?_)|refine C0 (hK:=fun _=>?_)|refine C4 (hK:=fun _=>?_)|refine B8 (hK:=fun _=>?_));try simp(disch:=first|omega|assumption|((repeat(first|exact A1|exact uH|apply A2|apply uT));first|done|fail)|(simp;first|done|omega|fail))[]))
  exact A8 (by rw [A78 fun j hj => hpre j hj hj])
structure HeadV where
 src : ByteArray
 dst : ByteArray
 proto : Nat
 rest : ByteArray
 e : Nat
abbrev G4 : ByteArray := ByteArray.mk #[]
def HeadV.err (e : Nat) : HeadV := ⟨G4, G4, 0, G4, e⟩
def HeadV.val (h : HeadV) : Value := .tuple #[.agg #[.string h.src, .string h.dst, .int .i64 h.proto], .string h.rest, .int .i64 h.e]
def F4 (s : ByteArray) : Nat := gv s 0 1 % 16 * 4
def A4A (s : ByteArray) : Nat := if s.size < 20 then 2 else if gv s 0 1 / 16 ≠ 4 then 3 else if F4 s < 20 ∨ s.size < F4 s ∨ gv s 2 2 < F4 s ∨ s.size < gv s 2 2 then 4
 else if a7 (s.extract 0 (F4 s)) ≠ 65535 then 5 else if gv s 6 2 % 16384 ≠ 0 then 6 else 0
def d5 (s : ByteArray) : HeadV := if A4A s = 0 then ⟨s.extract 12 16, s.extract 16 20, gv s 9 1, s.extract (F4 s) (gv s 2 2), 0⟩ else .err (A4A s)
theorem B5W (n : Nat) (h : n < 256) : IntKind.i64.wrap ((n % 2 ^ IntKind.i64.bits &&& 15 % 2 ^ IntKind.i64.bits : Nat) : Int) = ((n % 16 : Nat) : Int) := by
 rw [show (2 : Nat) ^ IntKind.i64.bits = 2 ^ 64 from rfl, Nat.mod_eq_of_lt (by omega), show 15 % 2 ^ 64 = 2 ^ 4 - 1 from rfl, Nat.and_two_pow_sub_one_eq_mod]
 exact V8 (by omega) (by omega)
theorem B44 (n : Nat) (h : n < 65536) : IntKind.i64.wrap ((n % 2 ^ IntKind.i64.bits &&& 16383 % 2 ^ IntKind.i64.bits : Nat) : Int) = ((n % 16384 : Nat) : Int) := by
 rw [show (2 : Nat) ^ IntKind.i64.bits = 2 ^ 64 from rfl, Nat.mod_eq_of_lt (by omega), show 16383 % 2 ^ 64 = 2 ^ 14 - 1 from rfl, Nat.and_two_pow_sub_one_eq_mod]
 exact V8 (by omega) (by omega)
section
variable (w : World) (s : ByteArray) (hs : s.size < 2 ^ 40) (b1 b5 b6 b7 : Nat) (h1 : w.cell? ⟨b1, 0, none⟩ = some (.string s)) (h5 : w.cell? ⟨b5, 0, none⟩ = some (.func (.func 75) #[] #[.pointer (some ⟨b1, 0, none⟩)]))
 (h6 : w.cell? ⟨b6, 0, none⟩ = some (.int .i64 (F4 s : Nat))) (h7 : w.cell? ⟨b7, 0, none⟩ = some (.int .i64 (gv s 2 2 : Nat)))
include h1
theorem B5f : Fn PR C5 77 #[.pointer (some ⟨b1, 0, none⟩)] w (fun v w' => v = .bool (decide (s.size < 20)) ∧ B5 [] w w') := by
 refine Fn.pure (A4l (TW.go (κ := false) (S := []) ?_))
 unfold A0k
 (have zz:=trivial;repeat((first|clear zz|with_reducible first|refine A3 ?_|refine A5 fun _=>?_|refine A4 fun _=>?_|refine B9 fun _=>?_|refine C3 (hK:=fun _=>?_)|refine B4 (hK:=fun _=>?_)|refine C0 (hK:=fun _=>?_)|refine C4 (hK:=fun _=>?_)|refine B8 (hK:=fun _=>?_));try simp(disch:=first|omega|assumption|((repeat(first|exact A1|exact uH|apply A2|apply uT));first|done|fail)|(simp;first|done|omega|fail))[h1]))
 exact A8 (by simp; omega)
include hs h5
theorem B5J : Fn PR C5 78 #[.pointer (some ⟨b5, 0, none⟩)] w (fun v w' => v = .bool (decide (gv s 0 1 / 16 ≠ 4)) ∧ B5 [] w w') := by
 refine Fn.pure (A4V (TW.go (κ := false) (S := []) ?_))
 unfold A0f
 (have zz:=trivial;repeat((first|clear zz|with_reducible first|refine A3 ?_|refine A5 fun _=>?_|refine A4 fun _=>?_|refine B9 fun _=>?_|refine C3 (hK:=fun _=>?_)|refine B4 (hK:=fun _=>?_)|refine C0 (hK:=fun _=>?_)|refine C4 (hK:=fun _=>?_)|refine B8 (hK:=fun _=>?_));try simp(disch:=first|omega|assumption|((repeat(first|exact A1|exact uH|apply A2|apply uT));first|done|fail)|(simp;first|done|omega|fail))[h1, h5]))
 refine C7 U1 (fun w' hw' => y9 w' s hs b1 0 1 (by omega) (by omega) (hw'.ks.cell (by simp) h1)) ?_
 have e1 : ((gv s 0 1 : Nat) : Int).fdiv (2 ^ min 4 IntKind.i64.bits) = (gv s 0 1 / 16 : Nat) := by rw [show (2 : Int) ^ min 4 IntKind.i64.bits = 16 from rfl, Int.fdiv_eq_ediv_of_nonneg _ (by omega)]; omega
 (have zz:=trivial;repeat((first|clear zz|with_reducible first|refine A3 ?_|refine A5 fun _=>?_|refine A4 fun _=>?_|refine B9 fun _=>?_|refine C3 (hK:=fun _=>?_)|refine B4 (hK:=fun _=>?_)|refine C0 (hK:=fun _=>?_)|refine C4 (hK:=fun _=>?_)|refine B8 (hK:=fun _=>?_));try simp(disch:=first|omega|assumption|((repeat(first|exact A1|exact uH|apply A2|apply uT));first|done|fail)|(simp;first|done|omega|fail))[]))
 rw [e1]
 exact A8 (by simp; omega)
theorem B4q : Fn PR C5 82 #[.pointer (some ⟨b5, 0, none⟩)] w (fun v w' => v = .bool (decide (gv s 6 2 % 16384 ≠ 0)) ∧ B5 [] w w') := by
 refine Fn.pure (A40 (TW.go (κ := false) (S := []) ?_))
 unfold A0l
 (have zz:=trivial;repeat((first|clear zz|with_reducible first|refine A3 ?_|refine A5 fun _=>?_|refine A4 fun _=>?_|refine B9 fun _=>?_|refine C3 (hK:=fun _=>?_)|refine B4 (hK:=fun _=>?_)|refine C0 (hK:=fun _=>?_)|refine C4 (hK:=fun _=>?_)|refine B8 (hK:=fun _=>?_));try simp(disch:=first|omega|assumption|((repeat(first|exact A1|exact uH|apply A2|apply uT));first|done|fail)|(simp;first|done|omega|fail))[h1, h5]))
 refine C7 U1 (fun w' hw' => y9 w' s hs b1 6 2 (by omega) (by omega) (hw'.ks.cell (by simp) h1)) ?_
 have := A1N s 6
 (have zz:=trivial;repeat((first|clear zz|with_reducible first|refine A3 ?_|refine A5 fun _=>?_|refine A4 fun _=>?_|refine B9 fun _=>?_|refine C3 (hK:=fun _=>?_)|refine B4 (hK:=fun _=>?_)|refine C0 (hK:=fun _=>?_)|refine C4 (hK:=fun _=>?_)|refine B8 (hK:=fun _=>?_));try simp(disch:=first|omega|assumption|((repeat(first|exact A1|exact uH|apply A2|apply uT));first|done|fail)|(simp;first|done|omega|fail))[]))
 rw [B44 _ this]
 exact A8 (by simp; omega)
omit h5
include h6
theorem B4p (hl : F4 s ≤ s.size) : Fn PR C5 80 #[.pointer (some ⟨b1, 0, none⟩), .pointer (some ⟨b6, 0, none⟩)] w (fun v w' => v = .bool (decide (a7 (s.extract 0 (F4 s)) ≠ 65535)) ∧ B5 [] w w') := by
 refine Fn.pure (A4c (TW.go (κ := false) (S := []) ?_))
 unfold A0S
 have hl' : ((F4 s : Nat) : Int) ≤ s.size := by omega
 (have zz:=trivial;repeat((first|clear zz|with_reducible first|refine A3 ?_|refine A5 fun _=>?_|refine A4 fun _=>?_|refine B9 fun _=>?_|refine C3 (hK:=fun _=>?_)|refine B4 (hK:=fun _=>?_)|refine C0 (hK:=fun _=>?_)|refine C4 (hK:=fun _=>?_)|refine B8 (hK:=fun _=>?_));try simp(disch:=first|omega|assumption|((repeat(first|exact A1|exact uH|apply A2|apply uT));first|done|fail)|(simp;first|done|omega|fail))[h1, h6]))
 refine C7 A7q (fun w' hw' => B3H w' _ (by simp [ByteArray.size_extract]; omega)) ?_
 (have zz:=trivial;repeat((first|clear zz|with_reducible first|refine A3 ?_|refine A5 fun _=>?_|refine A4 fun _=>?_|refine B9 fun _=>?_|refine C3 (hK:=fun _=>?_)|refine B4 (hK:=fun _=>?_)|refine C0 (hK:=fun _=>?_)|refine C4 (hK:=fun _=>?_)|refine B8 (hK:=fun _=>?_));try simp(disch:=first|omega|assumption|((repeat(first|exact A1|exact uH|apply A2|apply uT));first|done|fail)|(simp;first|done|omega|fail))[]))
 exact A8 (by simp)
include h7
theorem B5b : Fn PR C5 79 #[.pointer (some ⟨b6, 0, none⟩), .pointer (some ⟨b1, 0, none⟩), .pointer (some ⟨b7, 0, none⟩)] w
  (fun v w' => v = .bool (decide (F4 s < 20 ∨ s.size < F4 s ∨ gv s 2 2 < F4 s ∨ s.size < gv s 2 2)) ∧ B5 [] w w') := by
 have hs_ := hs
 refine Fn.pure (A4v (TW.go (κ := false) (S := []) ?_))
 unfold A0m
 by_cases g1 : F4 s < 20
 ·have g1' : ((F4 s : Nat) : Int) < 20 := by omega
  (have zz:=trivial;repeat((first|clear zz|with_reducible first|refine A3 ?_|refine A5 fun _=>?_|refine A4 fun _=>?_|refine B9 fun _=>?_|refine C3 (hK:=fun _=>?_)|refine B4 (hK:=fun _=>?_)|refine C0 (hK:=fun _=>?_)|refine C4 (hK:=fun _=>?_)|refine B8 (hK:=fun _=>?_));try simp(disch:=first|omega|assumption|((repeat(first|exact A1|exact uH|apply A2|apply uT));first|done|fail)|(simp;first|done|omega|fail))[h1, h6, h7, g1, g1']))
  exact A8 (by simp [g1])
 have g1' : ¬ ((F4 s : Nat) : Int) < 20 := by omega
 by_cases g2 : s.size < F4 s
 ·have g2' : ((s.size : Nat) : Int) < F4 s := by omega
  (have zz:=trivial;repeat((first|clear zz|with_reducible first|refine A3 ?_|refine A5 fun _=>?_|refine A4 fun _=>?_|refine B9 fun _=>?_|refine C3 (hK:=fun _=>?_)|refine B4 (hK:=fun _=>?_)|refine C0 (hK:=fun _=>?_)|refine C4 (hK:=fun _=>?_)|refine B8 (hK:=fun _=>?_));try simp(disch:=first|omega|assumption|((repeat(first|exact A1|exact uH|apply A2|apply uT));first|done|fail)|(simp;first|done|omega|fail))[h1, h6, h7, g1, g1', g2, g2']))
  exact A8 (by simp [g2])
 have g2' : ¬ ((s.size : Nat) : Int) < F4 s := by omega
 by_cases g3 : gv s 2 2 < F4 s
 ·have g3' : ((gv s 2 2 : Nat) : Int) < F4 s := by omega
  (have zz:=trivial;repeat((first|clear zz|with_reducible first|refine A3 ?_|refine A5 fun _=>?_|refine A4 fun _=>?_|refine B9 fun _=>?_|refine C3 (hK:=fun _=>?_)|refine B4 (hK:=fun _=>?_)|refine C0 (hK:=fun _=>?_)|refine C4 (hK:=fun _=>?_)|refine B8 (hK:=fun _=>?_));try simp(disch:=first|omega|assumption|((repeat(first|exact A1|exact uH|apply A2|apply uT));first|done|fail)|(simp;first|done|omega|fail))[h1, h6, h7, g1, g1', g2, g2', g3, g3']))
  exact A8 (by simp [g3])
 have g3' : ¬ ((gv s 2 2 : Nat) : Int) < F4 s := by omega
 (have zz:=trivial;repeat((first|clear zz|with_reducible first|refine A3 ?_|refine A5 fun _=>?_|refine A4 fun _=>?_|refine B9 fun _=>?_|refine C3 (hK:=fun _=>?_)|refine B4 (hK:=fun _=>?_)|refine C0 (hK:=fun _=>?_)|refine C4 (hK:=fun _=>?_)|refine B8 (hK:=fun _=>?_));try simp(disch:=first|omega|assumption|((repeat(first|exact A1|exact uH|apply A2|apply uT));first|done|fail)|(simp;first|done|omega|fail))[h1, h6, h7, g1, g1', g2, g2', g3, g3']))
 exact A8 (by simp [g1, g2, g3])
end
theorem A79 (w : World) (s : ByteArray) (hs : s.size < 2 ^ 40) : Fn PR C5 67 #[.string s] w (fun v w' => v = (d5 s).val ∧ B5 [] w w') := by
 refine Fn.pure (A65 (TW.go (κ := false) (S := []) ?_))
 unfold A26
 (have zz:=trivial;repeat((first|clear zz|with_reducible first|refine A3 ?_|refine A5 fun _=>?_|refine A4 fun _=>?_|refine B9 fun _=>?_|refine C3 (hK:=fun _=>?_)|refine B4 (hK:=fun _=>?_)|refine C0 (hK:=fun _=>?_)|refine C4 (hK:=fun _=>?_)|refine B8 (hK:=fun _=>?_));try simp(disch:=first|omega|assumption|((repeat(first|exact A1|exact uH|apply A2|apply uT));first|done|fail)|(simp;first|done|omega|fail))[]))
 rename_i b1 b2 b5
 refine B5d (α := Nat × Nat) (fun _ => True) (fun x => [.pt x.1 (.cells #[.int .i64 (F4 s : Nat)] 3), .pt x.2 (.cells #[.int .i64 (gv s 2 2 : Nat)] 3),
  .pt b5 (.cells #[.func (.func 75) #[] #[.pointer (some ⟨b1, 0, none⟩)]] 73), .pt b2 (.cells #[.string G4, .string G4, .int .i64 0] 81), .pt b1 (.cells #[.string s] 9)])
  (fun x => .pointer (some ⟨x.1, 0, none⟩)) (fun x => .pointer (some ⟨x.2, 0, none⟩)) ?_ ?_
 ·rintro ⟨b6, b7⟩ _
  simp only
  (have zz:=trivial;repeat((first|clear zz|with_reducible first|refine A3 ?_|refine A5 fun _=>?_|refine A4 fun _=>?_|refine B9 fun _=>?_|refine C3 (hK:=fun _=>?_)|refine B4 (hK:=fun _=>?_)|refine C0 (hK:=fun _=>?_)|refine C4 (hK:=fun _=>?_)|refine B8 (hK:=fun _=>?_));try simp(disch:=first|omega|assumption|((repeat(first|exact A1|exact uH|apply A2|apply uT));first|done|fail)|(simp;first|done|omega|fail))[]))
  rename_i bl
  refine C7 (u := .int .i64 (A4A s : Nat)) A6H (fun w' hw' => ?_) ?_
  ·have h1 := hw'.cell1 (b := b1) (by (repeat constructor))
   have h5 := hw'.cell1 (b := b5) (by (repeat constructor))
   have h6 := hw'.cell1 (b := b6) (by (repeat constructor))
   have h7 := hw'.cell1 (b := b7) (by (repeat constructor))
   have hk : ∀ {w2 : World} {b : Nat} {v : Value}, KS false [] w' w2 → w'.cell? ⟨b, 0, none⟩ = some v → w2.cell? ⟨b, 0, none⟩ = some v := fun h e => h.cell (by simp) e
   have hE : A0F [(.func (.func 77) #[] #[.pointer (some ⟨b1, 0, none⟩)], 2, decide (s.size < 20)), (.func (.func 78) #[] #[.pointer (some ⟨b5, 0, none⟩)], 3, decide (gv s 0 1 / 16 ≠ 4)),
    (.func (.func 79) #[] #[.pointer (some ⟨b6, 0, none⟩), .pointer (some ⟨b1, 0, none⟩), .pointer (some ⟨b7, 0, none⟩)], 4, decide (F4 s < 20 ∨ s.size < F4 s ∨ gv s 2 2 < F4 s ∨ s.size < gv s 2 2)),
    (.func (.func 80) #[] #[.pointer (some ⟨b1, 0, none⟩), .pointer (some ⟨b6, 0, none⟩)], 5, decide (a7 (s.extract 0 (F4 s)) ≠ 65535)), (.func (.func 82) #[] #[.pointer (some ⟨b5, 0, none⟩)], 6, decide (gv s 6 2 % 16384 ≠ 0))] = (A4A s : Nat) := by
    unfold A0F A4A
    by_cases c1 : s.size < 20
    ·simp [c1]
    by_cases c2 : gv s 0 1 / 16 ≠ 4
    ·simp [c1, c2]
    by_cases c3 : F4 s < 20 ∨ s.size < F4 s ∨ gv s 2 2 < F4 s ∨ s.size < gv s 2 2
    ·simp [c1, c2, c3]
    by_cases c4 : a7 (s.extract 0 (F4 s)) ≠ 65535
    ·simp [c1, c2, c3, c4]
    by_cases c5 : gv s 6 2 % 16384 ≠ 0
    ·simp [c1, c2, c3, c4, c5]
    ·simp [c1, c2, c3, c4, c5]
   rw [← hE]
   refine B1w w' _ _ (by simp) ?_ ?_
   ·have := M8.own (κ := false) (S := []) (w0 := w) (e := 161) (k := 2) (q := 5) (v := .slice (some ⟨bl, 0, none⟩) 5 5) (by (repeat constructor)) w' hw'
    simpa [A6b] using this
   ·intro i hi hpre
    have hi' : i = 0 ∨ i = 1 ∨ i = 2 ∨ i = 3 ∨ i = 4 := by simp at hi; omega
    rcases hi' with rfl | rfl | rfl | rfl | rfl
    ·exact ⟨_, _, rfl, A3q, fun w2 h => B5f w2 s b1 (hk h h1)⟩
    ·exact ⟨_, _, rfl, A3w, fun w2 h => B5J w2 s hs b1 b5 (hk h h1) (hk h h5)⟩
    ·exact ⟨_, _, rfl, A34, fun w2 h => B5b w2 s hs b1 b6 b7 (hk h h1) (hk h h6) (hk h h7)⟩
    ·have h2 := hpre 2 (by omega)
     simp only [List.getElem_cons_succ, List.getElem_cons_zero, decide_eq_false_iff_not] at h2
     exact ⟨_, _, rfl, A31, fun w2 h => B4p w2 s hs b1 b6 (hk h h1) (hk h h6) (by omega)⟩
    ·exact ⟨_, _, rfl, A4C, fun w2 h => B4q w2 s hs b1 b5 (hk h h1) (hk h h5)⟩
  ·by_cases he : A4A s = 0
   ·have hE := he
    unfold A4A at hE
    by_cases c1 : s.size < 20
    ·simp [c1] at hE
    by_cases c2 : gv s 0 1 / 16 ≠ 4
    ·simp [c1, c2] at hE
    by_cases c3 : F4 s < 20 ∨ s.size < F4 s ∨ gv s 2 2 < F4 s ∨ s.size < gv s 2 2
    ·simp [c1, c2, c3] at hE
    clear hE
    have hg91 := A4f s 9
    (have zz:=trivial;repeat((first|clear zz|with_reducible first|refine A3 ?_|refine A5 fun _=>?_|refine A4 fun _=>?_|refine B9 fun _=>?_|refine C3 (hK:=fun _=>?_)|refine B4 (hK:=fun _=>?_)|refine C0 (hK:=fun _=>?_)|refine C4 (hK:=fun _=>?_)|refine B8 (hK:=fun _=>?_));try simp(disch:=first|omega|assumption|((repeat(first|exact A1|exact uH|apply A2|apply uT));first|done|fail)|(simp;first|done|omega|fail))[he]))
    refine C7 U1 (fun w' hw' => B3J w' s hs b1 (hw'.cell1 (by (repeat constructor)))) ?_
    (have zz:=trivial;repeat((first|clear zz|with_reducible first|refine A3 ?_|refine A5 fun _=>?_|refine A4 fun _=>?_|refine B9 fun _=>?_|refine C3 (hK:=fun _=>?_)|refine B4 (hK:=fun _=>?_)|refine C0 (hK:=fun _=>?_)|refine C4 (hK:=fun _=>?_)|refine B8 (hK:=fun _=>?_));try simp(disch:=first|omega|assumption|((repeat(first|exact A1|exact uH|apply A2|apply uT));first|done|fail)|(simp;first|done|omega|fail))[]))
    exact A8 (by simp [d5, he, HeadV.val])
   ·(have zz:=trivial;repeat((first|clear zz|with_reducible first|refine A3 ?_|refine A5 fun _=>?_|refine A4 fun _=>?_|refine B9 fun _=>?_|refine C3 (hK:=fun _=>?_)|refine B4 (hK:=fun _=>?_)|refine C0 (hK:=fun _=>?_)|refine C4 (hK:=fun _=>?_)|refine B8 (hK:=fun _=>?_));try simp(disch:=first|omega|assumption|((repeat(first|exact A1|exact uH|apply A2|apply uT));first|done|fail)|(simp;first|done|omega|fail))[he]))
    exact A8 (by simp [d5, he, HeadV.val, HeadV.err])
 ·intro J hJ
  have hl := A4f s 0
  have e15 := B5W _ hl
  have em : ((gv s 0 1 : Nat) : Int) % 16 * 4 = (F4 s : Nat) := by simp [F4]
  have hJ' := fun b6 b7 => hJ (b6, b7) trivial
  simp only at hJ'
  clear hJ
  iterate 16 all_goals (try (first
   | exact fun _ _ => trivial
   | with_reducible refine And.intro ?_ ?_
   | (with_reducible apply C7 U1); (first | with_reducible exact fun w' hw' => B2z w' s hs b1 (hw'.cell1 (by ((repeat (first | exact A1 | exact Up.here | exact Sel.here | apply A2 | apply Up.there | apply Sel.there)); first | done | fail))) | with_reducible exact fun w' hw' => B2v w' s hs b1 (hw'.cell1 (by ((repeat (first | exact A1 | exact Up.here | exact Sel.here | apply A2 | apply Up.there | apply Sel.there)); first | done | fail))))
   | with_reducible refine A4 fun _ => ?_
   | simp(disch:=first|omega|assumption|((repeat(first|exact A1|exact uH|apply A2|apply uT));first|done|fail)|(simp;first|done|omega|fail))[e15, em]
   | with_reducible exact Sels.tw (by ((repeat (first | exact Sels.nil | (apply Sels.cons; · ((repeat (first | exact A1 | exact Up.here | exact Sel.here | apply A2 | apply Up.there | apply Sel.there)); first | done | fail)))); first | done | fail)) (hJ' _ _)))
  all_goals trace_state
def A1r (src dst : ByteArray) (proto : Int) (n : Nat) (own : Int) : ByteArray :=
 ByteArray.mk #[69, 0] ++ D7 (20 + n) 2 ++ ByteArray.mk #[0, 0, 64, 0, 64] ++ D7 proto 1 ++ D7 own 2 ++ src ++ dst
theorem A9d (w : World) (src dst rest : ByteArray) (proto own : Int) (b1 b2 : Nat) (h1 : w.cell? ⟨b1, 0, none⟩ = some (.string rest)) (h2 : w.cell? ⟨b2, 0, none⟩ = some (.string src)) (h3 : w.cell? ⟨b2, 1, none⟩ = some (.string dst))
  (h4 : w.cell? ⟨b2, 2, none⟩ = some (.int .i64 proto)) (hr : rest.size ≤ 65515) (hs : src.size = 4) (hd : dst.size = 4) (hp0 : 0 ≤ proto) (hp : proto ≤ 255) (ho0 : 0 ≤ own) (ho : own ≤ 65535) :
  Fn PR C5 46 #[.int .i64 own, .pointer (some ⟨b1, 0, none⟩), .pointer (some ⟨b2, 0, none⟩)] w (fun v w' => v = .string (A1r src dst proto rest.size own) ∧ B5 [] w w') := by
 refine Fn.pure (A6L (TW.go (κ := false) (S := []) ?_))
 unfold A19
 (have zz:=trivial;repeat((first|clear zz|with_reducible first|refine A3 ?_|refine A5 fun _=>?_|refine A4 fun _=>?_|refine B9 fun _=>?_|refine C3 (hK:=fun _=>?_)|refine B4 (hK:=fun _=>?_)|refine C0 (hK:=fun _=>?_)|refine C4 (hK:=fun _=>?_)|refine B8 (hK:=fun _=>?_));try simp(disch:=first|omega|assumption|((repeat(first|exact A1|exact uH|apply A2|apply uT));first|done|fail)|(simp;first|done|omega|fail))[h1, h2, h3, h4]))
 refine C7 E2 (fun w' hw' => U7 w' _ _) ?_
 (have zz:=trivial;repeat((first|clear zz|with_reducible first|refine A3 ?_|refine A5 fun _=>?_|refine A4 fun _=>?_|refine B9 fun _=>?_|refine C3 (hK:=fun _=>?_)|refine B4 (hK:=fun _=>?_)|refine C0 (hK:=fun _=>?_)|refine C4 (hK:=fun _=>?_)|refine B8 (hK:=fun _=>?_));try simp(disch:=first|omega|assumption|((repeat(first|exact A1|exact uH|apply A2|apply uT));first|done|fail)|(simp;first|done|omega|fail))[h1, h2, h3, h4, P0]))
 refine C7 E2 (fun w' hw' => U7 w' _ _) ?_
 (have zz:=trivial;repeat((first|clear zz|with_reducible first|refine A3 ?_|refine A5 fun _=>?_|refine A4 fun _=>?_|refine B9 fun _=>?_|refine C3 (hK:=fun _=>?_)|refine B4 (hK:=fun _=>?_)|refine C0 (hK:=fun _=>?_)|refine C4 (hK:=fun _=>?_)|refine B8 (hK:=fun _=>?_));try simp(disch:=first|omega|assumption|((repeat(first|exact A1|exact uH|apply A2|apply uT));first|done|fail)|(simp;first|done|omega|fail))[h1, h2, h3, h4, P0]))
 refine C7 E2 (fun w' hw' => U7 w' _ _) ?_
 (have zz:=trivial;repeat((first|clear zz|with_reducible first|refine A3 ?_|refine A5 fun _=>?_|refine A4 fun _=>?_|refine B9 fun _=>?_|refine C3 (hK:=fun _=>?_)|refine B4 (hK:=fun _=>?_)|refine C0 (hK:=fun _=>?_)|refine C4 (hK:=fun _=>?_)|refine B8 (hK:=fun _=>?_));try simp(disch:=first|omega|assumption|((repeat(first|exact A1|exact uH|apply A2|apply uT));first|done|fail)|(simp;first|done|omega|fail))[h1, h2, h3, h4, P0, hs, hd]))
 exact A8 rfl
def A1a (src dst rest : ByteArray) (proto : Int) : ByteArray × Nat :=
 if src.size ≠ 4 ∨ dst.size ≠ 4 ∨ proto < 0 ∨ 255 < proto then (G4, 1) else if 65515 < rest.size then (G4, 4) else (A1r src dst proto rest.size (A5B (A1r src dst proto rest.size 0)) ++ rest, 0)
theorem A5v {src dst : ByteArray} {proto own : Int} {n : Nat} (hs : src.size = 4) (hd : dst.size = 4) : (A1r src dst proto n own).size = 20 := by simp [A1r, hs, hd]
theorem B3Q (s : ByteArray) : 0 ≤ A5B s ∧ A5B s ≤ 65535 := by
 have := B06 (A1l s (M6 s)); unfold A5B a7; omega
theorem B0e (w : World) (src dst rest : ByteArray) (proto : Int) (hrs : rest.size < 2 ^ 40) :
  Fn PR C5 26 #[.agg #[.string src, .string dst, .int .i64 proto], .string rest] w (fun v w' => v = .tuple #[.string (A1a src dst rest proto).1, .int .i64 (A1a src dst rest proto).2] ∧ B5 [] w w') := by
 refine Fn.pure (A84 (TW.go (κ := false) (S := []) ?_))
 unfold A4M
 by_cases c1 : src.size = 4
 case neg =>
  have c1' : ¬ (src.size : Int) = 4 := by omega
  (have zz:=trivial;repeat((first|clear zz|with_reducible first|refine A3 ?_|refine A5 fun _=>?_|refine A4 fun _=>?_|refine B9 fun _=>?_|refine C3 (hK:=fun _=>?_)|refine B4 (hK:=fun _=>?_)|refine C0 (hK:=fun _=>?_)|refine C4 (hK:=fun _=>?_)|refine B8 (hK:=fun _=>?_));try simp(disch:=first|omega|assumption|((repeat(first|exact A1|exact uH|apply A2|apply uT));first|done|fail)|(simp;first|done|omega|fail))[c1'])); exact A8 (by simp [A1a, c1])
 by_cases c2 : dst.size = 4
 case neg =>
  have c2' : ¬ (dst.size : Int) = 4 := by omega
  (have zz:=trivial;repeat((first|clear zz|with_reducible first|refine A3 ?_|refine A5 fun _=>?_|refine A4 fun _=>?_|refine B9 fun _=>?_|refine C3 (hK:=fun _=>?_)|refine B4 (hK:=fun _=>?_)|refine C0 (hK:=fun _=>?_)|refine C4 (hK:=fun _=>?_)|refine B8 (hK:=fun _=>?_));try simp(disch:=first|omega|assumption|((repeat(first|exact A1|exact uH|apply A2|apply uT));first|done|fail)|(simp;first|done|omega|fail))[c1, c2'])); exact A8 (by simp [A1a, c2])
 by_cases c3 : proto < 0
 ·(have zz:=trivial;repeat((first|clear zz|with_reducible first|refine A3 ?_|refine A5 fun _=>?_|refine A4 fun _=>?_|refine B9 fun _=>?_|refine C3 (hK:=fun _=>?_)|refine B4 (hK:=fun _=>?_)|refine C0 (hK:=fun _=>?_)|refine C4 (hK:=fun _=>?_)|refine B8 (hK:=fun _=>?_));try simp(disch:=first|omega|assumption|((repeat(first|exact A1|exact uH|apply A2|apply uT));first|done|fail)|(simp;first|done|omega|fail))[c1, c2, c3])); exact A8 (by simp [A1a, c3])
 by_cases c4 : 255 < proto
 ·(have zz:=trivial;repeat((first|clear zz|with_reducible first|refine A3 ?_|refine A5 fun _=>?_|refine A4 fun _=>?_|refine B9 fun _=>?_|refine C3 (hK:=fun _=>?_)|refine B4 (hK:=fun _=>?_)|refine C0 (hK:=fun _=>?_)|refine C4 (hK:=fun _=>?_)|refine B8 (hK:=fun _=>?_));try simp(disch:=first|omega|assumption|((repeat(first|exact A1|exact uH|apply A2|apply uT));first|done|fail)|(simp;first|done|omega|fail))[c1, c2, c3, c4])); exact A8 (by simp [A1a, c4])
 by_cases c5 : 65515 < rest.size
 ·have c5' : 65515 < (rest.size : Int) := by omega
  (have zz:=trivial;repeat((first|clear zz|with_reducible first|refine A3 ?_|refine A5 fun _=>?_|refine A4 fun _=>?_|refine B9 fun _=>?_|refine C3 (hK:=fun _=>?_)|refine B4 (hK:=fun _=>?_)|refine C0 (hK:=fun _=>?_)|refine C4 (hK:=fun _=>?_)|refine B8 (hK:=fun _=>?_));try simp(disch:=first|omega|assumption|((repeat(first|exact A1|exact uH|apply A2|apply uT));first|done|fail)|(simp;first|done|omega|fail))[c1, c2, c3, c4, c5'])); exact A8 (by simp [A1a, c1, c2, c3, c4, c5])
 have c5' : ¬ 65515 < (rest.size : Int) := by omega
 (have zz:=trivial;repeat((first|clear zz|with_reducible first|refine A3 ?_|refine A5 fun _=>?_|refine A4 fun _=>?_|refine B9 fun _=>?_|refine C3 (hK:=fun _=>?_)|refine B4 (hK:=fun _=>?_)|refine C0 (hK:=fun _=>?_)|refine C4 (hK:=fun _=>?_)|refine B8 (hK:=fun _=>?_));try simp(disch:=first|omega|assumption|((repeat(first|exact A1|exact uH|apply A2|apply uT));first|done|fail)|(simp;first|done|omega|fail))[c1, c2, c3, c4, c5']))
 rename_i bh br
 have key : ∀ w', LW false [] w [.pt br (.cells #[.string rest] 9), .pt bh (.cells #[.string src, .string dst, .int .i64 proto] 81)] w' → ∀ own : Int, 0 ≤ own → own ≤ 65535 → _ :=
  fun w' hw' own h0 h1 => A9d w' src dst rest proto own br bh (hw'.cell1 (by (repeat constructor))) (hw'.cell (by (repeat constructor)) (by rfl)) (hw'.cell (by (repeat constructor)) (by rfl)) (hw'.cell (by (repeat constructor)) (by rfl)) (by omega) c1 c2 (by omega) (by omega) h0 h1
 refine C7 A1B (fun w' hw' => key w' hw' 0 (by omega) (by omega)) ?_
 (have zz:=trivial;repeat((first|clear zz|with_reducible first|refine A3 ?_|refine A5 fun _=>?_|refine A4 fun _=>?_|refine B9 fun _=>?_|refine C3 (hK:=fun _=>?_)|refine B4 (hK:=fun _=>?_)|refine C0 (hK:=fun _=>?_)|refine C4 (hK:=fun _=>?_)|refine B8 (hK:=fun _=>?_));try simp(disch:=first|omega|assumption|((repeat(first|exact A1|exact uH|apply A2|apply uT));first|done|fail)|(simp;first|done|omega|fail))[]))
 have hz : (A1r src dst proto rest.size 0).size = 20 := A5v c1 c2
 have hv := B3Q (A1r src dst proto rest.size 0)
 refine C7 A8Q (fun w' hw' => B4Y w' _ (by omega)) ?_
 (have zz:=trivial;repeat((first|clear zz|with_reducible first|refine A3 ?_|refine A5 fun _=>?_|refine A4 fun _=>?_|refine B9 fun _=>?_|refine C3 (hK:=fun _=>?_)|refine B4 (hK:=fun _=>?_)|refine C0 (hK:=fun _=>?_)|refine C4 (hK:=fun _=>?_)|refine B8 (hK:=fun _=>?_));try simp(disch:=first|omega|assumption|((repeat(first|exact A1|exact uH|apply A2|apply uT));first|done|fail)|(simp;first|done|omega|fail))[]))
 refine C7 A1B (fun w' hw' => key w' hw' _ hv.1 hv.2) ?_
 have hz2 : (A1r src dst proto rest.size (A5B (A1r src dst proto rest.size 0))).size = 20 := A5v c1 c2
 (have zz:=trivial;repeat((first|clear zz|with_reducible first|refine A3 ?_|refine A5 fun _=>?_|refine A4 fun _=>?_|refine B9 fun _=>?_|refine C3 (hK:=fun _=>?_)|refine B4 (hK:=fun _=>?_)|refine C0 (hK:=fun _=>?_)|refine C4 (hK:=fun _=>?_)|refine B8 (hK:=fun _=>?_));try simp(disch:=first|omega|assumption|((repeat(first|exact A1|exact uH|apply A2|apply uT));first|done|fail)|(simp;first|done|omega|fail))[P0]))
 exact A8 (by simp [A1a, c1, c2, c3, c4, c5])
end Go.Proofs.Ytlplkjgcfjdinaa
namespace Go.Proofs.Ytlplkjgcfjdinaa
open Go
def A1s : List Nat → ByteArray → List ByteArray
 | [], s => [s]
 | n :: ns, s => s.extract 0 n :: A1s ns (s.extract n s.size)
theorem B4H (w : World) (v : Value) (ns : List Nat) (s : ByteArray) (hn : ns.length < 100) (hv : E9 w v ns.length (ns.map fun n : Nat => Value.int .i64 (n : Int))) (hs : ns.sum ≤ s.size) (hs2 : s.size < 2 ^ 40) :
  Fn PR C5 83 #[.string s, v] w (Rn [] w (fun v u => u = v) fun v => [.own 9 1 v (ns.length + 1) ((A1s ns s).map .string)]) := by
 refine A9v (TW.go (κ := false) (S := []) ?_)
 unfold A4a
 obtain ⟨a, c, rfl, hrow⟩ := hv.form
 (have zz:=trivial;repeat((first|clear zz|with_reducible first|refine A3 ?_|refine A5 fun _=>?_|refine A4 fun _=>?_|refine B9 fun _=>?_|refine C3 (hK:=fun _=>?_)|refine B4 (hK:=fun _=>?_)|refine C0 (hK:=fun _=>?_)|refine C4 (hK:=fun _=>?_)|refine B8 (hK:=fun _=>?_));try simp(disch:=first|omega|assumption|((repeat(first|exact A1|exact uH|apply A2|apply uT));first|done|fail)|(simp;first|done|omega|fail))[]))
 refine A3E 9 1 ?_
 refine B0d (α := Value × ByteArray × List ByteArray) ns.length (fun _ x => x.1) (fun _ x => .string x.2.1) (fun i x => [.own 9 1 x.1 i (x.2.2.map .string)])
  (fun i x => A1s ns s = x.2.2 ++ A1s (ns.drop i) x.2.1 ∧ (ns.drop i).sum ≤ x.2.1.size ∧ x.2.1.size ≤ s.size) (.slice none 0 0, s, []) ⟨by simp, by simpa using hs, Nat.le_refl _⟩ ?_
 rintro i ⟨v, r, d⟩ hi ⟨h1, h2, h3⟩ L hL
 simp only at h1 h2 h3 hL ⊢
 by_cases hlt : i < ns.length
 ·obtain ⟨b, o, rfl, hr⟩ := hrow (by omega)
  have hx : ns[i]? = some ns[i] := List.getElem?_eq_getElem hlt
  have hc := hr.one hx
  rw [List.drop_eq_getElem_cons hlt] at h1 h2
  simp only [List.sum_cons, A1s] at h1 h2
  have hle : ((ns[i] : Nat) : Int) ≤ r.size := by omega
  (have zz:=trivial;repeat((first|clear zz|with_reducible first|refine A3 ?_|refine A5 fun _=>?_|refine A4 fun _=>?_|refine B9 fun _=>?_|refine C3 (hK:=fun _=>?_)|refine B4 (hK:=fun _=>?_)|refine C0 (hK:=fun _=>?_)|refine C4 (hK:=fun _=>?_)|refine B8 (hK:=fun _=>?_));try simp(disch:=first|omega|assumption|((repeat(first|exact A1|exact uH|apply A2|apply uT));first|done|fail)|(simp;first|done|omega|fail))[hlt, hc]))
  refine A3H (by (repeat constructor)) (M8.own (by (repeat constructor))) (by decide) (by simp) (by simp) (by simp only [maxLen]; omega) (by omega) fun a' c' => ?_
  (have zz:=trivial;repeat((first|clear zz|with_reducible first|refine A3 ?_|refine A5 fun _=>?_|refine A4 fun _=>?_|refine B9 fun _=>?_|refine C3 (hK:=fun _=>?_)|refine B4 (hK:=fun _=>?_)|refine C0 (hK:=fun _=>?_)|refine C4 (hK:=fun _=>?_)|refine B8 (hK:=fun _=>?_));try simp(disch:=first|omega|assumption|((repeat(first|exact A1|exact uH|apply A2|apply uT));first|done|fail)|(simp;first|done|omega|fail))[hlt, hle]))
  have := hL hlt (.slice a' (i + 1) c', r.extract ns[i] r.size, d ++ [r.extract 0 ns[i]]) ⟨by rw [h1]; simp, by rw [ByteArray.size_extract]; omega, by rw [ByteArray.size_extract]; omega⟩
  simp only [List.map_append, List.map_cons, List.map_nil] at this
  exact Sels.tw (by (repeat' constructor)) this
 ·obtain rfl : i = ns.length := by omega
  (have zz:=trivial;repeat((first|clear zz|with_reducible first|refine A3 ?_|refine A5 fun _=>?_|refine A4 fun _=>?_|refine B9 fun _=>?_|refine C3 (hK:=fun _=>?_)|refine B4 (hK:=fun _=>?_)|refine C0 (hK:=fun _=>?_)|refine C4 (hK:=fun _=>?_)|refine B8 (hK:=fun _=>?_));try simp(disch:=first|omega|assumption|((repeat(first|exact A1|exact uH|apply A2|apply uT));first|done|fail)|(simp;first|done|omega|fail))[]))
  refine A3H (by (repeat constructor)) (M8.own (by (repeat constructor))) (by decide) (by simp) (by simp) (by simp only [maxLen]; omega) (by omega) fun a' c' => ?_
  simp only [List.drop_length, A1s] at h1
  rw [h1]
  exact y8 _ rfl (by simp)
def A47 (s : ByteArray) : Nat := if s.size < 40 then 2 else if gv s 0 1 / 16 ≠ 6 then 3 else if s.size - 40 < gv s 4 2 then 4 else 0
def W5 (s : ByteArray) : HeadV := if A47 s = 0 then ⟨s.extract 8 24, s.extract 24 40, gv s 6 1, s.extract 40 (40 + gv s 4 2), 0⟩ else .err (A47 s)
theorem A1D (s : ByteArray) (a b i : Nat) (hb : b ≤ s.size) (hi : i < b - a) : D4 (s.extract a b) i = D4 s (a + i) := by
 unfold D4
 rw [Array.getD_eq_getD_getElem?, Array.getD_eq_getD_getElem?, ByteArray.data_extract, Array.getElem?_extract]
 rw [if_pos (by simp only [ByteArray.size] at hb; omega)]
theorem A8L (s : ByteArray) (a b i n : Nat) (hb : b ≤ s.size) (hn : i + n ≤ b - a) : W4 (s.extract a b) i n = W4 s (a + i) n := by
 induction n with
 | zero => rfl
 | succ n ih => simp only [W4]; rw [ih (by omega), A1D s a b _ hb (by omega), Nat.add_assoc]
theorem A9w {s : ByteArray} {a n : Nat} (h : a + n ≤ s.size) : gv s a n = W4 s a n := if_pos h
theorem A9e (s : ByteArray) (a b i n : Nat) (hb : b ≤ s.size) (hn : i + n ≤ b - a) (hab : a ≤ b) : gv (s.extract a b) i n = gv s (a + i) n := by
 rw [A9w (by rw [ByteArray.size_extract]; omega), A9w (by omega), A8L s a b i n hb hn]
theorem A96 {s : ByteArray} {a : Nat} (h : a < s.size) : gv s a 1 = D4 s a := by rw [A9w (by omega)]; simp [W4]
theorem A4E (s : ByteArray) (a b c d : Nat) (hb : b ≤ s.size) (hd : a + d ≤ b) : (s.extract a b).extract c d = s.extract (a + c) (a + d) := by
 apply ByteArray.ext
 rw [ByteArray.data_extract, ByteArray.data_extract, ByteArray.data_extract, Array.extract_extract]
 congr 1; omega
def B16 (s : ByteArray) : Nat → List Nat → List ByteArray
 | a, [] => [s.extract a s.size]
 | a, n :: ns => s.extract a (a + n) :: B16 s (a + n) ns
theorem B3Y (s : ByteArray) (ns : List Nat) : ∀ a, a + ns.sum ≤ s.size → A1s ns (s.extract a s.size) = B16 s a ns := by
 induction ns with
 | nil => intro a _; rfl
 | cons n ns ih =>
  intro a h
  simp only [List.sum_cons] at h
  simp only [A1s, B16]
  rw [A4E _ _ _ _ _ (by omega) (by omega), A4E _ _ _ _ _ (by omega) (by rw [ByteArray.size_extract]; omega), ByteArray.size_extract, Nat.add_zero]
  rw [show a + (min s.size s.size - a) = s.size from by omega, ih _ (by omega)]
theorem A77 (s : ByteArray) : s.extract 0 s.size = s := by
 apply ByteArray.ext; rw [ByteArray.data_extract]; exact Array.extract_size ..
theorem A80 {s : ByteArray} (h : 40 ≤ s.size) : A1s [4, 2, 1, 1, 16, 16] s = [s.extract 0 4, s.extract 4 6, s.extract 6 7, s.extract 7 8, s.extract 8 24, s.extract 24 40, s.extract 40 s.size] := by
 have := B3Y s [4, 2, 1, 1, 16, 16] 0 (by simp; omega)
 rw [A77] at this; rw [this]; rfl
theorem A8K (w : World) (s : ByteArray) (hs : s.size < 2 ^ 40) : Fn PR C5 70 #[.string s] w (fun v w' => v = (W5 s).val ∧ B5 [] w w') := by
 refine Fn.pure (A6p (TW.go (κ := false) (S := []) ?_))
 unfold A2y
 by_cases c1 : s.size < 40
 ·have c1' : (s.size : Int) < 40 := by omega
  (have zz:=trivial;repeat((first|clear zz|with_reducible first|refine A3 ?_|refine A5 fun _=>?_|refine A4 fun _=>?_|refine B9 fun _=>?_|refine C3 (hK:=fun _=>?_)|refine B4 (hK:=fun _=>?_)|refine C0 (hK:=fun _=>?_)|refine C4 (hK:=fun _=>?_)|refine B8 (hK:=fun _=>?_));try simp(disch:=first|omega|assumption|((repeat(first|exact A1|exact uH|apply A2|apply uT));first|done|fail)|(simp;first|done|omega|fail))[c1'])); exact A8 (by simp [W5, A47, c1, HeadV.val, HeadV.err])
 have c1' : ¬ (s.size : Int) < 40 := by omega
 obtain ⟨by0, hb0, hb1⟩ := m6 (s := s) (i := 0) (by omega)
 have hg0 : gv s 0 1 = D4 s 0 := A96 (by omega)
 have e1 : ((by0.toNat : Nat) : Int).fdiv (2 ^ min 4 IntKind.u8.bits) = (gv s 0 1 / 16 : Nat) := by rw [show (2 : Int) ^ min 4 IntKind.u8.bits = 16 from rfl, Int.fdiv_eq_ediv_of_nonneg _ (by omega), hb1, hg0]; omega
 have hb0' : s[(0 : Int).toNat]? = some by0 := hb0
 by_cases c2 : gv s 0 1 / 16 = 6
 case neg =>
  have c2' : ¬ ((gv s 0 1 / 16 : Nat) : Int) = 6 := by omega
  (have zz:=trivial;repeat((first|clear zz|with_reducible first|refine A3 ?_|refine A5 fun _=>?_|refine A4 fun _=>?_|refine B9 fun _=>?_|refine C3 (hK:=fun _=>?_)|refine B4 (hK:=fun _=>?_)|refine C0 (hK:=fun _=>?_)|refine C4 (hK:=fun _=>?_)|refine B8 (hK:=fun _=>?_));try simp(disch:=first|omega|assumption|((repeat(first|exact A1|exact uH|apply A2|apply uT));first|done|fail)|(simp;first|done|omega|fail))[c1', T6]))
  rw [e1, if_neg c2']
  (have zz:=trivial;repeat((first|clear zz|with_reducible first|refine A3 ?_|refine A5 fun _=>?_|refine A4 fun _=>?_|refine B9 fun _=>?_|refine C3 (hK:=fun _=>?_)|refine B4 (hK:=fun _=>?_)|refine C0 (hK:=fun _=>?_)|refine C4 (hK:=fun _=>?_)|refine B8 (hK:=fun _=>?_));try simp(disch:=first|omega|assumption|((repeat(first|exact A1|exact uH|apply A2|apply uT));first|done|fail)|(simp;first|done|omega|fail))[])); exact A8 (by simp [W5, A47, c1, c2, HeadV.val, HeadV.err])
 have c2' : ((gv s 0 1 / 16 : Nat) : Int) = 6 := by omega
 (have zz:=trivial;repeat((first|clear zz|with_reducible first|refine A3 ?_|refine A5 fun _=>?_|refine A4 fun _=>?_|refine B9 fun _=>?_|refine C3 (hK:=fun _=>?_)|refine B4 (hK:=fun _=>?_)|refine C0 (hK:=fun _=>?_)|refine C4 (hK:=fun _=>?_)|refine B8 (hK:=fun _=>?_));try simp(disch:=first|omega|assumption|((repeat(first|exact A1|exact uH|apply A2|apply uT));first|done|fail)|(simp;first|done|omega|fail))[c1', T6]))
 rw [e1, if_pos c2']
 (have zz:=trivial;repeat((first|clear zz|with_reducible first|refine A3 ?_|refine A5 fun _=>?_|refine A4 fun _=>?_|refine B9 fun _=>?_|refine C3 (hK:=fun _=>?_)|refine B4 (hK:=fun _=>?_)|refine C0 (hK:=fun _=>?_)|refine C4 (hK:=fun _=>?_)|refine B8 (hK:=fun _=>?_));try simp(disch:=first|omega|assumption|((repeat(first|exact A1|exact uH|apply A2|apply uT));first|done|fail)|(simp;first|done|omega|fail))[]))
 rename_i bh bl
 refine M4 A8T (fun w' hw' => B4H w' _ [4, 2, 1, 1, 16, 16] s (by simp) ?_ (by simp; omega) (by omega)) ?_
 ·have := M8.own (κ := false) (S := []) (w0 := w) (e := 3) (k := 1) (q := 6) (v := .slice (some ⟨bl, 0, none⟩) 6 6) (by (repeat constructor)) w' hw'
  simpa using this
 rintro v _ rfl
 rw [A80 (by omega)]
 simp only [List.length_cons, List.length_nil, List.map_cons, List.map_nil, List.cons_append, List.nil_append]
 refine A3F (by (repeat constructor)) (by omega) fun g c hv => ?_
 subst hv
 (have zz:=trivial;repeat((first|clear zz|with_reducible first|refine A3 ?_|refine A5 fun _=>?_|refine A4 fun _=>?_|refine B9 fun _=>?_|refine C3 (hK:=fun _=>?_)|refine B4 (hK:=fun _=>?_)|refine C0 (hK:=fun _=>?_)|refine C4 (hK:=fun _=>?_)|refine B8 (hK:=fun _=>?_));try simp(disch:=first|omega|assumption|((repeat(first|exact A1|exact uH|apply A2|apply uT));first|done|fail)|(simp;first|done|omega|fail))[]))
 refine C7 J0 (fun w' _ => p8 w' _ (by simp; omega) _ _) ?_
 have hgv := A1V (s.extract 4 6) 0 2 (by omega) (by omega)
 rw [A9e s 4 6 0 2 (by omega) (by omega) (by omega)] at hgv
 simp only [Int.natCast_zero, Int.cast_ofNat_Int] at hgv
 have hlt := A1N s 4
 rw [hgv]
 (have zz:=trivial;repeat((first|clear zz|with_reducible first|refine A3 ?_|refine A5 fun _=>?_|refine A4 fun _=>?_|refine B9 fun _=>?_|refine C3 (hK:=fun _=>?_)|refine B4 (hK:=fun _=>?_)|refine C0 (hK:=fun _=>?_)|refine C4 (hK:=fun _=>?_)|refine B8 (hK:=fun _=>?_));try simp(disch:=first|omega|assumption|((repeat(first|exact A1|exact uH|apply A2|apply uT));first|done|fail)|(simp;first|done|omega|fail))[]))
 refine B7q (fun c3 => ?_) (fun c3 => ?_)
 ·(have zz:=trivial;repeat((first|clear zz|with_reducible first|refine A3 ?_|refine A5 fun _=>?_|refine A4 fun _=>?_|refine B9 fun _=>?_|refine C3 (hK:=fun _=>?_)|refine B4 (hK:=fun _=>?_)|refine C0 (hK:=fun _=>?_)|refine C4 (hK:=fun _=>?_)|refine B8 (hK:=fun _=>?_));try simp(disch:=first|omega|assumption|((repeat(first|exact A1|exact uH|apply A2|apply uT));first|done|fail)|(simp;first|done|omega|fail))[]))
  exact A8 (by simp [W5, A47, c1, c2, c3, HeadV.val, HeadV.err])
 ·obtain ⟨by6, hb6, hb6'⟩ := m6 (s := s.extract 6 7) (i := 0) (by simp; omega)
  have hp : D4 (s.extract 6 7) 0 = gv s 6 1 := by rw [A1D s 6 7 0 (by omega) (by omega), A96 (by omega)]
  have hb6'' : (s.extract 6 7)[(0 : Int).toNat]? = some by6 := hb6
  have hle : ((gv s 4 2 : Nat) : Int) ≤ (s.extract 40 s.size).size := by rw [ByteArray.size_extract]; omega
  (have zz:=trivial;repeat((first|clear zz|with_reducible first|refine A3 ?_|refine A5 fun _=>?_|refine A4 fun _=>?_|refine B9 fun _=>?_|refine C3 (hK:=fun _=>?_)|refine B4 (hK:=fun _=>?_)|refine C0 (hK:=fun _=>?_)|refine C4 (hK:=fun _=>?_)|refine B8 (hK:=fun _=>?_));try simp(disch:=first|omega|assumption|((repeat(first|exact A1|exact uH|apply A2|apply uT));first|done|fail)|(simp;first|done|omega|fail))[T6]))
  have h6 := A4f s 6
  have w6 : IntKind.i64.wrap (gv s 6 1 : Nat) = (gv s 6 1 : Nat) := V8 (by omega) (by omega)
  rw [hb6', hp]
  exact A8 (by rw [A4E s 40 s.size 0 _ (by omega) (by omega)]; simp [W5, A47, c1, c2, c3, HeadV.val, w6])
theorem n4 : liesAt PR PR.depth 103 (2 / PR.cellsOf 103) 0 101 1 = true := by kernel_rfl
theorem A0U (w : World) (b : Nat) (a : Option Addr) (v : Value) (q : Nat) (xs : List Value) (x n : Int) (ha : a = none ∨ a = some ⟨b, 0, none⟩) (hx0 : 0 ≤ x) (hx : x < 2 ^ 62) (hs : q < 2 ^ 39)
  (hw : LW false (B7 (Bd b 103 a v q xs)) w (Bd b 103 a v q xs) w) : Fn PR C5 43 #[.pointer (some ⟨b, 0, none⟩), .int .i64 x, .int .i64 n] w
   (Rn (B7 (Bd b 103 a v q xs)) w (fun (_ : Value) u => u = .tuple #[]) fun v' => Bd b 103 (some ⟨b, 0, none⟩) v' (q + (D7 x n).size) (xs ++ D2 (D7 x n))) := by
 refine A1m (TW.goH (κ := false) (S := B7 (Bd b 103 a v q xs)) ?_ hw)
 unfold g9
 (have zz:=trivial;repeat((first|clear zz|with_reducible first|refine A3 ?_|refine A5 fun _=>?_|refine A4 fun _=>?_|refine B9 fun _=>?_|refine C3 (hK:=fun _=>?_)|refine B4 (hK:=fun _=>?_)|refine C0 (hK:=fun _=>?_)|refine C4 (hK:=fun _=>?_)|refine B8 (hK:=fun _=>?_));try simp(disch:=first|omega|assumption|((repeat(first|exact A1|exact uH|apply A2|apply uT));first|done|fail)|(simp;first|done|omega|fail))[]))
 refine C7 E2 (fun w' _ => U7 w' _ _) ?_
 have hp : (D7 x n).size ≤ 8 := by
  by_cases h : 1 ≤ n ∧ n ≤ 8
  ·rw [B0W h.1 h.2]; omega
  ·simp [D7, h]
 refine A46 (Hc := Bd b 103 a v q xs) (Hk := []) E8 (by rfl) (fun w' hw' => Y1 w' b _ a v q xs _ ha n4 (by omega) hw'.self) ?_
 rintro v' _ rfl
 (have zz:=trivial;repeat((first|clear zz|with_reducible first|refine A3 ?_|refine A5 fun _=>?_|refine A4 fun _=>?_|refine B9 fun _=>?_|refine C3 (hK:=fun _=>?_)|refine B4 (hK:=fun _=>?_)|refine C0 (hK:=fun _=>?_)|refine C4 (hK:=fun _=>?_)|refine B8 (hK:=fun _=>?_));try simp(disch:=first|omega|assumption|((repeat(first|exact A1|exact uH|apply A2|apply uT));first|done|fail)|(simp;first|done|omega|fail))[]))
 exact G7 v' rfl (by simp only [Bd]; (repeat' constructor))
def A3x (src dst rest : ByteArray) (proto : Int) : ByteArray := D7 1610612736 4 ++ D7 rest.size 2 ++ D7 proto 1 ++ D7 64 1 ++ src ++ dst ++ rest
def A5f (rest : ByteArray) : Nat → Nat | 0 => 8 | 1 => 24 | 2 => 40 | _ => 40 + rest.size
def A5k (src dst rest : ByteArray) (proto : Int) : Nat → ByteArray
 | 0 => D7 1610612736 4 ++ D7 rest.size 2 ++ D7 proto 1 ++ D7 64 1
 | 1 => D7 1610612736 4 ++ D7 rest.size 2 ++ D7 proto 1 ++ D7 64 1 ++ src
 | 2 => D7 1610612736 4 ++ D7 rest.size 2 ++ D7 proto 1 ++ D7 64 1 ++ src ++ dst
 | _ => A3x src dst rest proto
def A1w (src dst rest : ByteArray) (proto : Int) : ByteArray × Nat :=
 if src.size ≠ 16 ∨ dst.size ≠ 16 ∨ proto < 0 ∨ 255 < proto then (G4, 1) else if 65535 < rest.size then (G4, 4) else (A3x src dst rest proto, 0)
theorem B0u (w : World) (src dst rest : ByteArray) (proto : Int) (hrs : rest.size < 2 ^ 40) :
  Fn PR C5 25 #[.agg #[.string src, .string dst, .int .i64 proto], .string rest] w (fun v w' => v = .tuple #[.string (A1w src dst rest proto).1, .int .i64 (A1w src dst rest proto).2] ∧ B5 [] w w') := by
 refine Fn.pure (A9k (TW.go (κ := false) (S := []) ?_))
 unfold A4s
 by_cases c1 : src.size = 16
 case neg =>
  have c1' : ¬ (src.size : Int) = 16 := by omega
  (have zz:=trivial;repeat((first|clear zz|with_reducible first|refine A3 ?_|refine A5 fun _=>?_|refine A4 fun _=>?_|refine B9 fun _=>?_|refine C3 (hK:=fun _=>?_)|refine B4 (hK:=fun _=>?_)|refine C0 (hK:=fun _=>?_)|refine C4 (hK:=fun _=>?_)|refine B8 (hK:=fun _=>?_));try simp(disch:=first|omega|assumption|((repeat(first|exact A1|exact uH|apply A2|apply uT));first|done|fail)|(simp;first|done|omega|fail))[c1'])); exact A8 (by simp [A1w, c1])
 by_cases c2 : dst.size = 16
 case neg =>
  have c2' : ¬ (dst.size : Int) = 16 := by omega
  (have zz:=trivial;repeat((first|clear zz|with_reducible first|refine A3 ?_|refine A5 fun _=>?_|refine A4 fun _=>?_|refine B9 fun _=>?_|refine C3 (hK:=fun _=>?_)|refine B4 (hK:=fun _=>?_)|refine C0 (hK:=fun _=>?_)|refine C4 (hK:=fun _=>?_)|refine B8 (hK:=fun _=>?_));try simp(disch:=first|omega|assumption|((repeat(first|exact A1|exact uH|apply A2|apply uT));first|done|fail)|(simp;first|done|omega|fail))[c1, c2'])); exact A8 (by simp [A1w, c2])
 by_cases c3 : proto < 0
 ·(have zz:=trivial;repeat((first|clear zz|with_reducible first|refine A3 ?_|refine A5 fun _=>?_|refine A4 fun _=>?_|refine B9 fun _=>?_|refine C3 (hK:=fun _=>?_)|refine B4 (hK:=fun _=>?_)|refine C0 (hK:=fun _=>?_)|refine C4 (hK:=fun _=>?_)|refine B8 (hK:=fun _=>?_));try simp(disch:=first|omega|assumption|((repeat(first|exact A1|exact uH|apply A2|apply uT));first|done|fail)|(simp;first|done|omega|fail))[c1, c2, c3])); exact A8 (by simp [A1w, c3])
 by_cases c4 : 255 < proto
 ·(have zz:=trivial;repeat((first|clear zz|with_reducible first|refine A3 ?_|refine A5 fun _=>?_|refine A4 fun _=>?_|refine B9 fun _=>?_|refine C3 (hK:=fun _=>?_)|refine B4 (hK:=fun _=>?_)|refine C0 (hK:=fun _=>?_)|refine C4 (hK:=fun _=>?_)|refine B8 (hK:=fun _=>?_));try simp(disch:=first|omega|assumption|((repeat(first|exact A1|exact uH|apply A2|apply uT));first|done|fail)|(simp;first|done|omega|fail))[c1, c2, c3, c4])); exact A8 (by simp [A1w, c4])
 by_cases c5 : 65535 < rest.size
 ·have c5' : 65535 < (rest.size : Int) := by omega
  (have zz:=trivial;repeat((first|clear zz|with_reducible first|refine A3 ?_|refine A5 fun _=>?_|refine A4 fun _=>?_|refine B9 fun _=>?_|refine C3 (hK:=fun _=>?_)|refine B4 (hK:=fun _=>?_)|refine C0 (hK:=fun _=>?_)|refine C4 (hK:=fun _=>?_)|refine B8 (hK:=fun _=>?_));try simp(disch:=first|omega|assumption|((repeat(first|exact A1|exact uH|apply A2|apply uT));first|done|fail)|(simp;first|done|omega|fail))[c1, c2, c3, c4, c5'])); exact A8 (by simp [A1w, c1, c2, c3, c4, c5])
 have c5' : ¬ 65535 < (rest.size : Int) := by omega
 (have zz:=trivial;repeat((first|clear zz|with_reducible first|refine A3 ?_|refine A5 fun _=>?_|refine A4 fun _=>?_|refine B9 fun _=>?_|refine C3 (hK:=fun _=>?_)|refine B4 (hK:=fun _=>?_)|refine C0 (hK:=fun _=>?_)|refine C4 (hK:=fun _=>?_)|refine B8 (hK:=fun _=>?_));try simp(disch:=first|omega|assumption|((repeat(first|exact A1|exact uH|apply A2|apply uT));first|done|fail)|(simp;first|done|omega|fail))[c1, c2, c3, c4, c5']))
 rename_i bh bw
 refine A3E 5 1 ?_
 refine F7 M1 (fun w' _ hs => A0U w' bw none (.slice none 0 0) 0 [] 1610612736 4 (Or.inl rfl) (by omega) (by omega) (by omega) hs) (by (repeat' constructor)) ?_
 rintro v1 _ rfl
 (have zz:=trivial;repeat((first|clear zz|with_reducible first|refine A3 ?_|refine A5 fun _=>?_|refine A4 fun _=>?_|refine B9 fun _=>?_|refine C3 (hK:=fun _=>?_)|refine B4 (hK:=fun _=>?_)|refine C0 (hK:=fun _=>?_)|refine C4 (hK:=fun _=>?_)|refine B8 (hK:=fun _=>?_));try simp(disch:=first|omega|assumption|((repeat(first|exact A1|exact uH|apply A2|apply uT));first|done|fail)|(simp;first|done|omega|fail))[]))
 refine F7 M1 (fun w' _ hs => A0U w' bw _ v1 4 _ rest.size 2 (Or.inr rfl) (by omega) (by omega) (by omega) hs) (by (repeat' constructor)) ?_
 rintro v2 _ rfl
 (have zz:=trivial;repeat((first|clear zz|with_reducible first|refine A3 ?_|refine A5 fun _=>?_|refine A4 fun _=>?_|refine B9 fun _=>?_|refine C3 (hK:=fun _=>?_)|refine B4 (hK:=fun _=>?_)|refine C0 (hK:=fun _=>?_)|refine C4 (hK:=fun _=>?_)|refine B8 (hK:=fun _=>?_));try simp(disch:=first|omega|assumption|((repeat(first|exact A1|exact uH|apply A2|apply uT));first|done|fail)|(simp;first|done|omega|fail))[]))
 refine F7 M1 (fun w' _ hs => A0U w' bw _ v2 6 _ proto 1 (Or.inr rfl) (by omega) (by omega) (by omega) hs) (by (repeat' constructor)) ?_
 rintro v3 _ rfl
 (have zz:=trivial;repeat((first|clear zz|with_reducible first|refine A3 ?_|refine A5 fun _=>?_|refine A4 fun _=>?_|refine B9 fun _=>?_|refine C3 (hK:=fun _=>?_)|refine B4 (hK:=fun _=>?_)|refine C0 (hK:=fun _=>?_)|refine C4 (hK:=fun _=>?_)|refine B8 (hK:=fun _=>?_));try simp(disch:=first|omega|assumption|((repeat(first|exact A1|exact uH|apply A2|apply uT));first|done|fail)|(simp;first|done|omega|fail))[]))
 refine F7 M1 (fun w' _ hs => A0U w' bw _ v3 7 _ 64 1 (Or.inr rfl) (by omega) (by omega) (by omega) hs) (by (repeat' constructor)) ?_
 rintro v4 _ rfl
 (have zz:=trivial;repeat((first|clear zz|with_reducible first|refine A3 ?_|refine A5 fun _=>?_|refine A4 fun _=>?_|refine B9 fun _=>?_|refine C3 (hK:=fun _=>?_)|refine B4 (hK:=fun _=>?_)|refine C0 (hK:=fun _=>?_)|refine C4 (hK:=fun _=>?_)|refine B8 (hK:=fun _=>?_));try simp(disch:=first|omega|assumption|((repeat(first|exact A1|exact uH|apply A2|apply uT));first|done|fail)|(simp;first|done|omega|fail))[]))
 rename_i bl
 refine A8Z (α := Value) 3 (fun i v => [.own 9 1 (.slice (some ⟨bl, 0, none⟩) 3 3) 3 [.string src, .string dst, .string rest], .pt bw (.cells #[.pointer (some ⟨bw, 0, none⟩), v] 103),
  .own 5 1 v (A5f rest i) (D2 (A5k src dst rest proto i)), .pt bh (.cells #[.string src, .string dst, .int .i64 proto] 79)]) (fun _ _ => True) v4 trivial ?_ (by simp [A5f, A5k, j8])
 rintro i v hi _ L hL
 obtain rfl | rfl | rfl | rfl : i = 0 ∨ i = 1 ∨ i = 2 ∨ i = 3 := by omega
 ·have hL' := fun v' => hL (by omega) v' trivial
  simp only [A5f, A5k, j8, List.append_assoc] at hL' ⊢
  (have zz:=trivial;repeat((first|clear zz|with_reducible first|refine A3 ?_|refine A5 fun _=>?_|refine A4 fun _=>?_|refine B9 fun _=>?_|refine C3 (hK:=fun _=>?_)|refine B4 (hK:=fun _=>?_)|refine C0 (hK:=fun _=>?_)|refine C4 (hK:=fun _=>?_)|refine B8 (hK:=fun _=>?_));try simp(disch:=first|omega|assumption|((repeat(first|exact A1|exact uH|apply A2|apply uT));first|done|fail)|(simp;first|done|omega|fail))[]))
  refine F7 E8 (fun w' _ hs => Y1 w' bw _ _ v 8 _ src (Or.inr rfl) n4 (by omega) hs) (by (repeat' constructor)) ?_
  rintro v' _ rfl
  (have zz:=trivial;repeat((first|clear zz|with_reducible first|refine A3 ?_|refine A5 fun _=>?_|refine A4 fun _=>?_|refine B9 fun _=>?_|refine C3 (hK:=fun _=>?_)|refine B4 (hK:=fun _=>?_)|refine C0 (hK:=fun _=>?_)|refine C4 (hK:=fun _=>?_)|refine B8 (hK:=fun _=>?_));try simp(disch:=first|omega|assumption|((repeat(first|exact A1|exact uH|apply A2|apply uT));first|done|fail)|(simp;first|done|omega|fail))[c1]))
  exact Sels.tw (by (repeat' constructor)) (hL' v')
 ·have hL' := fun v' => hL (by omega) v' trivial
  simp only [A5f, A5k, j8, List.append_assoc] at hL' ⊢
  (have zz:=trivial;repeat((first|clear zz|with_reducible first|refine A3 ?_|refine A5 fun _=>?_|refine A4 fun _=>?_|refine B9 fun _=>?_|refine C3 (hK:=fun _=>?_)|refine B4 (hK:=fun _=>?_)|refine C0 (hK:=fun _=>?_)|refine C4 (hK:=fun _=>?_)|refine B8 (hK:=fun _=>?_));try simp(disch:=first|omega|assumption|((repeat(first|exact A1|exact uH|apply A2|apply uT));first|done|fail)|(simp;first|done|omega|fail))[]))
  refine F7 E8 (fun w' _ hs => Y1 w' bw _ _ v 24 _ dst (Or.inr rfl) n4 (by omega) hs) (by (repeat' constructor)) ?_
  rintro v' _ rfl
  (have zz:=trivial;repeat((first|clear zz|with_reducible first|refine A3 ?_|refine A5 fun _=>?_|refine A4 fun _=>?_|refine B9 fun _=>?_|refine C3 (hK:=fun _=>?_)|refine B4 (hK:=fun _=>?_)|refine C0 (hK:=fun _=>?_)|refine C4 (hK:=fun _=>?_)|refine B8 (hK:=fun _=>?_));try simp(disch:=first|omega|assumption|((repeat(first|exact A1|exact uH|apply A2|apply uT));first|done|fail)|(simp;first|done|omega|fail))[c2]))
  exact Sels.tw (by (repeat' constructor)) (hL' v')
 ·have hL' := fun v' => hL (by omega) v' trivial
  simp only [A5f, A5k, A3x, j8, List.append_assoc] at hL' ⊢
  (have zz:=trivial;repeat((first|clear zz|with_reducible first|refine A3 ?_|refine A5 fun _=>?_|refine A4 fun _=>?_|refine B9 fun _=>?_|refine C3 (hK:=fun _=>?_)|refine B4 (hK:=fun _=>?_)|refine C0 (hK:=fun _=>?_)|refine C4 (hK:=fun _=>?_)|refine B8 (hK:=fun _=>?_));try simp(disch:=first|omega|assumption|((repeat(first|exact A1|exact uH|apply A2|apply uT));first|done|fail)|(simp;first|done|omega|fail))[]))
  refine F7 E8 (fun w' _ hs => Y1 w' bw _ _ v 40 _ rest (Or.inr rfl) n4 (by omega) hs) (by (repeat' constructor)) ?_
  rintro v' _ rfl
  (have zz:=trivial;repeat((first|clear zz|with_reducible first|refine A3 ?_|refine A5 fun _=>?_|refine A4 fun _=>?_|refine B9 fun _=>?_|refine C3 (hK:=fun _=>?_)|refine B4 (hK:=fun _=>?_)|refine C0 (hK:=fun _=>?_)|refine C4 (hK:=fun _=>?_)|refine B8 (hK:=fun _=>?_));try simp(disch:=first|omega|assumption|((repeat(first|exact A1|exact uH|apply A2|apply uT));first|done|fail)|(simp;first|done|omega|fail))[]))
  exact Sels.tw (by (repeat' constructor)) (hL' v')
 ·simp only [A5f, A5k]
  (have zz:=trivial;repeat((first|clear zz|with_reducible first|refine A3 ?_|refine A5 fun _=>?_|refine A4 fun _=>?_|refine B9 fun _=>?_|refine C3 (hK:=fun _=>?_)|refine B4 (hK:=fun _=>?_)|refine C0 (hK:=fun _=>?_)|refine C4 (hK:=fun _=>?_)|refine B8 (hK:=fun _=>?_));try simp(disch:=first|omega|assumption|((repeat(first|exact A1|exact uH|apply A2|apply uT));first|done|fail)|(simp;first|done|omega|fail))[]))
  have hz : (A3x src dst rest proto).size = 40 + rest.size := by simp [A3x, c1, c2]
  refine F7 r4 (fun w' _ hs => B0B w' bw _ _ v (40 + rest.size) (D2 (A3x src dst rest proto)) (A3x src dst rest proto) hz.symm rfl (by omega) (by omega) hs) (by (repeat' constructor)) ?_
  rintro _ _ rfl
  (have zz:=trivial;repeat((first|clear zz|with_reducible first|refine A3 ?_|refine A5 fun _=>?_|refine A4 fun _=>?_|refine B9 fun _=>?_|refine C3 (hK:=fun _=>?_)|refine B4 (hK:=fun _=>?_)|refine C0 (hK:=fun _=>?_)|refine C4 (hK:=fun _=>?_)|refine B8 (hK:=fun _=>?_));try simp(disch:=first|omega|assumption|((repeat(first|exact A1|exact uH|apply A2|apply uT));first|done|fail)|(simp;first|done|omega|fail))[]))
  exact A8 (by simp [A1w, c1, c2, c3, c4, c5])
end Go.Proofs.Ytlplkjgcfjdinaa
namespace Go.Proofs.Ytlplkjgcfjdinaa
open Go
theorem A6f {κ : Bool} {X : Nat → Prop} {S : List Nat} {w0 : World} {H : List Res} {K : Value → WP} {g u : Value} {name : String} {args : List Value} {f : FuncId} {args' : Array Value} (hr : ∀ w, (callMethod g name args.toArray).run PR w = .ok (.enter f args') w)
  (hf : ∀ w, LW κ S w0 H w → Fn PR C5 f args' w (fun v w' => v = u ∧ B5 [] w w')) (hK : TW κ S w0 H (K u)) : TW κ S w0 H (inv PR X g name args K) := fun w hw =>
 ⟨f, args', hr w, (hf w hw).use fun v w' ⟨h1, h2⟩ hsk => by subst h1; exact hK w' (hw.ext (h2.ks fun _ => hsk))⟩
theorem A9U {P : Program} {t : TypeId} {n m : Nat} {z : Value} {ms : Array (String × TypeId)} {e : Nat} (h : TI P t (.interface ms) n m z) : EqV P (e + 1) t .nilIface .nilIface true := by
 intro w
 simp only [Op.equalIn, Sem.run_bind, h.run_und, Result.andThen_ok]; rfl
theorem A9L {P : Program} {t : TypeId} {n m : Nat} {z : Value} {ms : Array (String × TypeId)} {e : Nat} (h : TI P t (.interface ms) n m z) (u : TypeId) (v : Value) : EqV P (e + 1) t (.iface u v) .nilIface false := by
 intro w
 simp only [Op.equalIn, Sem.run_bind, h.run_und, Result.andThen_ok]; rfl
theorem A8r {t : TypeId} {op : BinOp} {x y : Operand} {g : Value} {r : Bool} {K : Value → WP} (hg : (eqGuard .eql t x y g .nilIface) = pure ()) (he : EqV PR 10000 t g .nilIface r) : A6 PR (Z1 .eql t x y g .nilIface) K = K (.bool r) := by
 funext w
 refine P8 ?_ K
 have := he w
 simp [Z1, hg, binOp, Op.equal, Op.maxDepth, this]
theorem m0 {x : Operand} {c : Value} {K : Value → WP} : A6 PR (Z1 .eql 93 x (.const c) .nilIface .nilIface) K = K (.bool true) := A8r (op := .eql) (by cases x <;> rfl) (A9U (e := 9999) A9m)
theorem l8 {x y : Operand} {K : Value → WP} {u : TypeId} {v : Value} : A6 PR (Z1 .eql 93 x y (.iface u v) .nilIface) K = K (.bool false) := A8r (op := .eql) (by rfl) (A9L (e := 9999) A9m u v)
abbrev A7g : Value := .iface 130 (.agg #[])
abbrev A6s : Value := .iface 131 (.agg #[])
def U9 : List (Int × Value) := [(6, A7g), (17, A6s)]
theorem A56 (w : World) : Fn PR C5 41 #[] w (Rn [] w (fun r v => v = .map (some r)) fun r => [.pt r (U3 (Value.int .i64) U9)]) := by
 refine A5M (TW.go (κ := false) (S := []) ?_)
 unfold A1J
 refine A8m (Value.int .i64) fun r => ?_
 (have zz:=trivial;repeat((first|clear zz|with_reducible first|refine A3 ?_|refine A5 fun _=>?_|refine A4 fun _=>?_);try simp(disch:=first|omega|assumption|((repeat(first|exact A1|exact uH|apply A2|apply uT));first|done|fail)|(simp;first|done|omega|fail))[]))
 refine A3j A9D (KeyT.int H5) (k := 6) (by (repeat constructor)) ?_
 (have zz:=trivial;repeat((first|clear zz|with_reducible first|refine A3 ?_|refine A5 fun _=>?_|refine A4 fun _=>?_);try simp(disch:=first|omega|assumption|((repeat(first|exact A1|exact uH|apply A2|apply uT));first|done|fail)|(simp;first|done|omega|fail))[]))
 refine A3j A9D (KeyT.int H5) (k := 17) (by (repeat constructor)) ?_
 exact y8 r rfl (by simp [S7, U9])
def A2S (s : ByteArray) : Nat × Nat := if s.size < 20 then (0, 2) else if D4 s 12 / 16 * 4 < 20 ∨ s.size < D4 s 12 / 16 * 4 then (0, 8) else (D4 s 13, 0)
def A2d (s : ByteArray) : Nat × Nat := if s.size < 8 then (0, 2) else if gv s 4 2 < 8 ∨ s.size < gv s 4 2 then (0, 4) else (0, 0)
theorem A8M (w : World) (s : ByteArray) (hs : s.size < 2 ^ 40) : Fn PR C5 101 #[.agg #[], .string s] w (fun v w' => v = .tuple #[.int .i64 (A2S s).1, .int .i64 (A2S s).2] ∧ B5 [] w w') := by
 refine Fn.pure (A3T (TW.go (κ := false) (S := []) ?_))
 unfold s7
 by_cases c1 : s.size < 20
 ·have c1' : (s.size : Int) < 20 := by omega
  (have zz:=trivial;repeat((first|clear zz|with_reducible first|refine A3 ?_|refine A5 fun _=>?_|refine A4 fun _=>?_);try simp(disch:=first|omega|assumption|((repeat(first|exact A1|exact uH|apply A2|apply uT));first|done|fail)|(simp;first|done|omega|fail))[c1'])); exact A8 (by simp [A2S, c1])
 have c1' : ¬ (s.size : Int) < 20 := by omega
 obtain ⟨by0, hb0, hb1⟩ := m6 (s := s) (i := 12) (by omega)
 obtain ⟨by1, hb2, hb3⟩ := m6 (s := s) (i := 13) (by omega)
 have hb0' : s[(12 : Int).toNat]? = some by0 := hb0
 have hb2' : s[(13 : Int).toNat]? = some by1 := hb2
 have hl0 := q8 s 12
 have hl1 := q8 s 13
 have e1 : ((by0.toNat : Nat) : Int).fdiv (2 ^ min 4 IntKind.u8.bits) = (D4 s 12 / 16 : Nat) := by rw [show (2 : Int) ^ min 4 IntKind.u8.bits = 16 from rfl, Int.fdiv_eq_ediv_of_nonneg _ (by omega), hb1]; omega
 have e2 : IntKind.i64.wrap (by1.toNat : Nat) = (D4 s 13 : Nat) := by rw [V8 (by omega) (by omega), hb3]
 have l1 : ∀ n : Nat, ((n * 4 : Nat) : Int) = (n : Int) * 4 := by omega
 by_cases c2 : D4 s 12 / 16 * 4 < 20
 ·have c2' : ((D4 s 12 : Nat) : Int) / 16 * 4 < 20 := by omega
  (have zz:=trivial;repeat((first|clear zz|with_reducible first|refine A3 ?_|refine A5 fun _=>?_|refine A4 fun _=>?_);try simp(disch:=first|omega|assumption|((repeat(first|exact A1|exact uH|apply A2|apply uT));first|done|fail)|(simp;first|done|omega|fail))[c1', T6]))
  rw [e1]
  (have zz:=trivial;repeat((first|clear zz|with_reducible first|refine A3 ?_|refine A5 fun _=>?_|refine A4 fun _=>?_);try simp(disch:=first|omega|assumption|((repeat(first|exact A1|exact uH|apply A2|apply uT));first|done|fail)|(simp;first|done|omega|fail))[c2']))
  exact A8 (by simp [A2S, c1, c2])
 have c2' : ¬ ((D4 s 12 : Nat) : Int) / 16 * 4 < 20 := by omega
 by_cases c3 : s.size < D4 s 12 / 16 * 4
 ·have c3' : (s.size : Int) < ((D4 s 12 : Nat) : Int) / 16 * 4 := by omega
  (have zz:=trivial;repeat((first|clear zz|with_reducible first|refine A3 ?_|refine A5 fun _=>?_|refine A4 fun _=>?_);try simp(disch:=first|omega|assumption|((repeat(first|exact A1|exact uH|apply A2|apply uT));first|done|fail)|(simp;first|done|omega|fail))[c1', T6]))
  rw [e1]
  (have zz:=trivial;repeat((first|clear zz|with_reducible first|refine A3 ?_|refine A5 fun _=>?_|refine A4 fun _=>?_);try simp(disch:=first|omega|assumption|((repeat(first|exact A1|exact uH|apply A2|apply uT));first|done|fail)|(simp;first|done|omega|fail))[c2', c3']))
  exact A8 (by simp [A2S, c1, c2, c3])
 have c3' : ¬ (s.size : Int) < ((D4 s 12 : Nat) : Int) / 16 * 4 := by omega
 (have zz:=trivial;repeat((first|clear zz|with_reducible first|refine A3 ?_|refine A5 fun _=>?_|refine A4 fun _=>?_);try simp(disch:=first|omega|assumption|((repeat(first|exact A1|exact uH|apply A2|apply uT));first|done|fail)|(simp;first|done|omega|fail))[c1', T6]))
 rw [e1]
 (have zz:=trivial;repeat((first|clear zz|with_reducible first|refine A3 ?_|refine A5 fun _=>?_|refine A4 fun _=>?_);try simp(disch:=first|omega|assumption|((repeat(first|exact A1|exact uH|apply A2|apply uT));first|done|fail)|(simp;first|done|omega|fail))[c2', c3', T6, e2]))
 exact A8 (by simp [A2S, c1, c2, c3, hb3])
def z1 : ByteArray := ByteArray.mk #[0]
def x6 (f : Int) : ByteArray × Nat := if f < 0 ∨ 255 < f then (G4, 1) else (A3m z1 8 ++ ByteArray.mk #[80] ++ D7 f 1 ++ A3m z1 6, 0)
def A0u (f : Int) : ByteArray × Nat := if f ≠ 0 then (G4, 1) else (ByteArray.mk #[0, 8, 0, 0], 0)
theorem B5Z (w : World) : Fn PR C5 103 #[.string (ByteArray.mk #[0]), .int .i64 8] w (fun v w' => v = .string (A3m z1 8) ∧ B5 [] w w') := A59 w z1 8 (by omega) (by decide)
theorem B5S (w : World) : Fn PR C5 103 #[.string (ByteArray.mk #[0]), .int .i64 6] w (fun v w' => v = .string (A3m z1 6) ∧ B5 [] w w') := A59 w z1 6 (by omega) (by decide)
theorem W6 (c : Nat) : (A3m z1 c).size = c := by
 have : ∀ (l : List UInt8) (n : Nat), (Lib.repeatL l n).length = n * l.length := by
  intro l n
  induction n with
  | zero => simp [Lib.repeatL]
  | succ n ih => simp [Lib.repeatL, ih, Nat.add_mul, Nat.add_comm]
 show (Lib.repeatL z1.data.toList c).toArray.size = c
 rw [List.size_toArray, this]; simp [z1]
theorem B0q (w : World) (f : Int) : Fn PR C5 102 #[.agg #[], .int .i64 f] w (fun v w' => v = .tuple #[.string (x6 f).1, .int .i64 (x6 f).2] ∧ B5 [] w w') := by
 refine Fn.pure (A4Y (TW.go (κ := false) (S := []) ?_))
 unfold A0p
 by_cases c1 : f < 0
 ·(have zz:=trivial;repeat((first|clear zz|with_reducible first|refine A3 ?_|refine A5 fun _=>?_|refine A4 fun _=>?_);try simp(disch:=first|omega|assumption|((repeat(first|exact A1|exact uH|apply A2|apply uT));first|done|fail)|(simp;first|done|omega|fail))[c1])); exact A8 (by simp [x6, c1])
 by_cases c2 : 255 < f
 ·(have zz:=trivial;repeat((first|clear zz|with_reducible first|refine A3 ?_|refine A5 fun _=>?_|refine A4 fun _=>?_);try simp(disch:=first|omega|assumption|((repeat(first|exact A1|exact uH|apply A2|apply uT));first|done|fail)|(simp;first|done|omega|fail))[c1, c2])); exact A8 (by simp [x6, c2])
 (have zz:=trivial;repeat((first|clear zz|with_reducible first|refine A3 ?_|refine A5 fun _=>?_|refine A4 fun _=>?_);try simp(disch:=first|omega|assumption|((repeat(first|exact A1|exact uH|apply A2|apply uT));first|done|fail)|(simp;first|done|omega|fail))[c1, c2]))
 have h8 := W6 8
 have h6 := W6 6
 refine C7 n7 (fun w' hw' => B5Z w') ?_
 (have zz:=trivial;repeat((first|clear zz|with_reducible first|refine A3 ?_|refine A5 fun _=>?_|refine A4 fun _=>?_);try simp(disch:=first|omega|assumption|((repeat(first|exact A1|exact uH|apply A2|apply uT));first|done|fail)|(simp;first|done|omega|fail))[c1, c2, P0]))
 refine C7 E2 (fun w' hw' => U7 w' _ _) ?_
 (have zz:=trivial;repeat((first|clear zz|with_reducible first|refine A3 ?_|refine A5 fun _=>?_|refine A4 fun _=>?_);try simp(disch:=first|omega|assumption|((repeat(first|exact A1|exact uH|apply A2|apply uT));first|done|fail)|(simp;first|done|omega|fail))[c1, c2, P0]))
 refine C7 n7 (fun w' hw' => B5S w') ?_
 (have zz:=trivial;repeat((first|clear zz|with_reducible first|refine A3 ?_|refine A5 fun _=>?_|refine A4 fun _=>?_);try simp(disch:=first|omega|assumption|((repeat(first|exact A1|exact uH|apply A2|apply uT));first|done|fail)|(simp;first|done|omega|fail))[c1, c2, P0]))
 exact A8 (by simp [x6, c1, c2])
theorem A8A (w : World) (s : ByteArray) (hs : s.size < 2 ^ 40) : Fn PR C5 113 #[.agg #[], .string s] w (fun v w' => v = .tuple #[.int .i64 (A2d s).1, .int .i64 (A2d s).2] ∧ B5 [] w w') := by
 refine Fn.pure (A3N (TW.go (κ := false) (S := []) ?_))
 unfold u3
 by_cases c1 : s.size < 8
 ·have c1' : (s.size : Int) < 8 := by omega
  (have zz:=trivial;repeat((first|clear zz|with_reducible first|refine A3 ?_|refine A5 fun _=>?_|refine A4 fun _=>?_);try simp(disch:=first|omega|assumption|((repeat(first|exact A1|exact uH|apply A2|apply uT));first|done|fail)|(simp;first|done|omega|fail))[c1'])); exact A8 (by simp [A2d, c1])
 have c1' : ¬ (s.size : Int) < 8 := by omega
 (have zz:=trivial;repeat((first|clear zz|with_reducible first|refine A3 ?_|refine A5 fun _=>?_|refine A4 fun _=>?_);try simp(disch:=first|omega|assumption|((repeat(first|exact A1|exact uH|apply A2|apply uT));first|done|fail)|(simp;first|done|omega|fail))[c1']))
 refine C7 J0 (fun w' _ => p8 w' s (by omega) _ _) ?_
 have e1 := A1V s 4 2 (by omega) (by omega)
 have e1' : A00 s 4 2 = gv s 4 2 := e1
 have hg := A1N s 4
 by_cases c2 : gv s 4 2 < 8
 ·have c2' : ((gv s 4 2 : Nat) : Int) < 8 := by omega
  (have zz:=trivial;repeat((first|clear zz|with_reducible first|refine A3 ?_|refine A5 fun _=>?_|refine A4 fun _=>?_);try simp(disch:=first|omega|assumption|((repeat(first|exact A1|exact uH|apply A2|apply uT));first|done|fail)|(simp;first|done|omega|fail))[e1', c2, c2']))
  exact A8 (by simp [A2d, c1, c2])
 have c2' : ¬ ((gv s 4 2 : Nat) : Int) < 8 := by omega
 by_cases c3 : s.size < gv s 4 2
 ·have c3' : ((s.size : Nat) : Int) < gv s 4 2 := by omega
  (have zz:=trivial;repeat((first|clear zz|with_reducible first|refine A3 ?_|refine A5 fun _=>?_|refine A4 fun _=>?_);try simp(disch:=first|omega|assumption|((repeat(first|exact A1|exact uH|apply A2|apply uT));first|done|fail)|(simp;first|done|omega|fail))[e1', c2, c2', c3, c3']))
  exact A8 (by simp [A2d, c1, c2, c3])
 have c3' : ¬ ((s.size : Nat) : Int) < gv s 4 2 := by omega
 (have zz:=trivial;repeat((first|clear zz|with_reducible first|refine A3 ?_|refine A5 fun _=>?_|refine A4 fun _=>?_);try simp(disch:=first|omega|assumption|((repeat(first|exact A1|exact uH|apply A2|apply uT));first|done|fail)|(simp;first|done|omega|fail))[e1', c2, c2', c3, c3']))
 exact A8 (by simp [A2d, c1, c2, c3])
theorem B1F (w : World) (f : Int) : Fn PR C5 114 #[.agg #[], .int .i64 f] w (fun v w' => v = .tuple #[.string (A0u f).1, .int .i64 (A0u f).2] ∧ B5 [] w w') := by
 refine Fn.pure (A4W (TW.go (κ := false) (S := []) ?_))
 unfold A0W
 by_cases c1 : f = 0
 ·(have zz:=trivial;repeat((first|clear zz|with_reducible first|refine A3 ?_|refine A5 fun _=>?_|refine A4 fun _=>?_);try simp(disch:=first|omega|assumption|((repeat(first|exact A1|exact uH|apply A2|apply uT));first|done|fail)|(simp;first|done|omega|fail))[c1])); exact A8 (by simp [A0u, c1])
 ·(have zz:=trivial;repeat((first|clear zz|with_reducible first|refine A3 ?_|refine A5 fun _=>?_|refine A4 fun _=>?_);try simp(disch:=first|omega|assumption|((repeat(first|exact A1|exact uH|apply A2|apply uT));first|done|fail)|(simp;first|done|omega|fail))[c1])); exact A8 (by simp [A0u, c1])
def n8 (number : Int) (s : ByteArray) : Nat × Nat := if number = 6 then A2S s else if number = 17 then A2d s else (0, 7)
def Q2 (number : Int) (s : ByteArray) : Nat × Nat × Nat × Nat := if (n8 number s).2 ≠ 0 then (0, 0, 0, (n8 number s).2) else (gv s 0 2, gv s 2 2, (n8 number s).1, 0)
def Q2.val (x : Nat × Nat × Nat × Nat) : Value := .tuple #[.agg #[.int .i64 x.1, .int .i64 x.2.1, .int .i64 x.2.2.1], .int .i64 x.2.2.2]
theorem A4F (w : World) (s : ByteArray) : (callMethod A7g "gangplank/port.parse" [Value.string s].toArray).run PR w = .ok (.enter 101 #[.agg #[], .string s]) w := by kernel_rfl
theorem A4w (w : World) (s : ByteArray) : (callMethod A6s "gangplank/port.parse" [Value.string s].toArray).run PR w = .ok (.enter 113 #[.agg #[], .string s]) w := by kernel_rfl
theorem A6S (w : World) (f : Int) : (callMethod A7g "gangplank/port.put" [Value.int .i64 f].toArray).run PR w = .ok (.enter 102 #[.agg #[], .int .i64 f]) w := by kernel_rfl
theorem A6K (w : World) (f : Int) : (callMethod A6s "gangplank/port.put" [Value.int .i64 f].toArray).run PR w = .ok (.enter 114 #[.agg #[], .int .i64 f]) w := by kernel_rfl
theorem A7V (w : World) (s : ByteArray) (hs : s.size < 2 ^ 40) (number : Int) : Fn PR C5 60 #[.int .i64 number, .string s] w (fun v w' => v = Q2.val (Q2 number s) ∧ B5 [] w w') := by
 refine Fn.pure (A6Z (TW.go (κ := false) (S := []) ?_))
 unfold A2C
 (have zz:=trivial;repeat((first|clear zz|with_reducible first|refine A3 ?_|refine A5 fun _=>?_|refine A4 fun _=>?_);try simp(disch:=first|omega|assumption|((repeat(first|exact A1|exact uH|apply A2|apply uT));first|done|fail)|(simp;first|done|omega|fail))[]))
 refine M4 A0d (fun w' _ => A56 w') ?_
 rintro r v rfl
 (have zz:=trivial;repeat((first|clear zz|with_reducible first|refine A3 ?_|refine A5 fun _=>?_|refine A4 fun _=>?_);try simp(disch:=first|omega|assumption|((repeat(first|exact A1|exact uH|apply A2|apply uT));first|done|fail)|(simp;first|done|omega|fail))[]))
 rw [A36 A9D A9m (KeyT.int H5) (l := U9) (by (repeat constructor))]
 have Z2 : ∀ {f1 : Nat} {b : Nat}, True := fun {_ _} => trivial
 have hg0 := A1N s 0
 have hg2 := A1N s 2
 have e1 : A00 s 0 2 = gv s 0 2 := A1V s 0 2 (by omega) (by omega)
 have e2 : A00 s 2 2 = gv s 2 2 := A1V s 2 2 (by omega) (by omega)
 by_cases c1 : number = 6
 ·rw [show (V3 number U9).getD .nilIface = A7g by subst c1; rfl]
  (have zz:=trivial;repeat((first|clear zz|with_reducible first|refine A3 ?_|refine A5 fun _=>?_|refine A4 fun _=>?_);try simp(disch:=first|omega|assumption|((repeat(first|exact A1|exact uH|apply A2|apply uT));first|done|fail)|(simp;first|done|omega|fail))[m0, l8]))
  refine A6f (fun w => A4F w s) (fun w' hw' => A8M w' s hs) ?_
  by_cases c2 : (A2S s).2 = 0
  ·(have zz:=trivial;repeat((first|clear zz|with_reducible first|refine A3 ?_|refine A5 fun _=>?_|refine A4 fun _=>?_);try simp(disch:=first|omega|assumption|((repeat(first|exact A1|exact uH|apply A2|apply uT));first|done|fail)|(simp;first|done|omega|fail))[c2]))
   refine C7 J0 (fun w' _ => p8 w' s (by omega) _ _) ?_
   (have zz:=trivial;repeat((first|clear zz|with_reducible first|refine A3 ?_|refine A5 fun _=>?_|refine A4 fun _=>?_);try simp(disch:=first|omega|assumption|((repeat(first|exact A1|exact uH|apply A2|apply uT));first|done|fail)|(simp;first|done|omega|fail))[e1]))
   refine C7 J0 (fun w' _ => p8 w' s (by omega) _ _) ?_
   (have zz:=trivial;repeat((first|clear zz|with_reducible first|refine A3 ?_|refine A5 fun _=>?_|refine A4 fun _=>?_);try simp(disch:=first|omega|assumption|((repeat(first|exact A1|exact uH|apply A2|apply uT));first|done|fail)|(simp;first|done|omega|fail))[e1, e2]))
   exact A8 (by simp [Q2, n8, Q2.val, c1, c2])
  ·(have zz:=trivial;repeat((first|clear zz|with_reducible first|refine A3 ?_|refine A5 fun _=>?_|refine A4 fun _=>?_);try simp(disch:=first|omega|assumption|((repeat(first|exact A1|exact uH|apply A2|apply uT));first|done|fail)|(simp;first|done|omega|fail))[c2]))
   exact A8 (by simp [Q2, n8, Q2.val, c1, c2])
 by_cases c1' : number = 17
 ·rw [show (V3 number U9).getD .nilIface = A6s by subst c1'; rfl]
  (have zz:=trivial;repeat((first|clear zz|with_reducible first|refine A3 ?_|refine A5 fun _=>?_|refine A4 fun _=>?_);try simp(disch:=first|omega|assumption|((repeat(first|exact A1|exact uH|apply A2|apply uT));first|done|fail)|(simp;first|done|omega|fail))[m0, l8]))
  refine A6f (fun w => A4w w s) (fun w' hw' => A8A w' s hs) ?_
  by_cases c2 : (A2d s).2 = 0
  ·(have zz:=trivial;repeat((first|clear zz|with_reducible first|refine A3 ?_|refine A5 fun _=>?_|refine A4 fun _=>?_);try simp(disch:=first|omega|assumption|((repeat(first|exact A1|exact uH|apply A2|apply uT));first|done|fail)|(simp;first|done|omega|fail))[c2]))
   refine C7 J0 (fun w' _ => p8 w' s (by omega) _ _) ?_
   (have zz:=trivial;repeat((first|clear zz|with_reducible first|refine A3 ?_|refine A5 fun _=>?_|refine A4 fun _=>?_);try simp(disch:=first|omega|assumption|((repeat(first|exact A1|exact uH|apply A2|apply uT));first|done|fail)|(simp;first|done|omega|fail))[e1]))
   refine C7 J0 (fun w' _ => p8 w' s (by omega) _ _) ?_
   (have zz:=trivial;repeat((first|clear zz|with_reducible first|refine A3 ?_|refine A5 fun _=>?_|refine A4 fun _=>?_);try simp(disch:=first|omega|assumption|((repeat(first|exact A1|exact uH|apply A2|apply uT));first|done|fail)|(simp;first|done|omega|fail))[e1, e2]))
   exact A8 (by simp [Q2, n8, Q2.val, c1', c2])
  ·(have zz:=trivial;repeat((first|clear zz|with_reducible first|refine A3 ?_|refine A5 fun _=>?_|refine A4 fun _=>?_);try simp(disch:=first|omega|assumption|((repeat(first|exact A1|exact uH|apply A2|apply uT));first|done|fail)|(simp;first|done|omega|fail))[c2]))
   exact A8 (by simp [Q2, n8, Q2.val, c1', c2])
 ·rw [show (V3 number U9).getD .nilIface = .nilIface by simp [V3, U9, c1, c1']]
  (have zz:=trivial;repeat((first|clear zz|with_reducible first|refine A3 ?_|refine A5 fun _=>?_|refine A4 fun _=>?_);try simp(disch:=first|omega|assumption|((repeat(first|exact A1|exact uH|apply A2|apply uT));first|done|fail)|(simp;first|done|omega|fail))[m0, l8]))
  exact A8 (by simp [Q2, n8, Q2.val, c1, c1'])
theorem Y0 (s : ByteArray) : s ++ G4 = s := by apply ByteArray.ext; rw [ByteArray.data_append]; simp
theorem W8 (s : ByteArray) : G4 ++ s = s := by apply ByteArray.ext; rw [ByteArray.data_append]; simp
def M3 (x : Int) : ByteArray := if 0 ≤ x ∧ x ≤ 65535 then D7 x 2 else G4
def L6 (x y : Int) : Bool := decide (0 ≤ x ∧ x ≤ 65535 ∧ 0 ≤ y ∧ y ≤ 65535)
theorem A7N (w : World) (x y z : Int) : Fn PR C5 42 #[.agg #[.int .i64 x, .int .i64 y, .int .i64 z]] w (fun v w' => v = .tuple #[.string (M3 x ++ M3 y), .bool (L6 x y)] ∧ B5 [] w w') := by
 refine Fn.pure (A6a (TW.go (κ := false) (S := []) ?_))
 unfold A2B
 by_cases c1 : 0 ≤ x ∧ x ≤ 65535
 ·have c1' := c1.1; have c1'' := c1.2
  (have zz:=trivial;repeat((first|clear zz|with_reducible first|refine A3 ?_|refine A5 fun _=>?_|refine A4 fun _=>?_);try simp(disch:=first|omega|assumption|((repeat(first|exact A1|exact uH|apply A2|apply uT));first|done|fail)|(simp;first|done|omega|fail))[c1', c1'']))
  refine C7 E2 (fun w' hw' => U7 w' _ _) ?_
  by_cases c2 : 0 ≤ y ∧ y ≤ 65535
  ·have c2' := c2.1; have c2'' := c2.2
   (have zz:=trivial;repeat((first|clear zz|with_reducible first|refine A3 ?_|refine A5 fun _=>?_|refine A4 fun _=>?_);try simp(disch:=first|omega|assumption|((repeat(first|exact A1|exact uH|apply A2|apply uT));first|done|fail)|(simp;first|done|omega|fail))[c1', c1'', c2', c2'']))
   refine C7 E2 (fun w' hw' => U7 w' _ _) ?_
   (have zz:=trivial;repeat((first|clear zz|with_reducible first|refine A3 ?_|refine A5 fun _=>?_|refine A4 fun _=>?_);try simp(disch:=first|omega|assumption|((repeat(first|exact A1|exact uH|apply A2|apply uT));first|done|fail)|(simp;first|done|omega|fail))[c1', c1'', c2', c2'', P0]))
   exact A8 (by simp [Y0, W8, M3, L6, c1, c2])
  ·by_cases c3 : 0 ≤ y
   ·have c4 : ¬ y ≤ 65535 := fun h => c2 ⟨c3, h⟩
    (have zz:=trivial;repeat((first|clear zz|with_reducible first|refine A3 ?_|refine A5 fun _=>?_|refine A4 fun _=>?_);try simp(disch:=first|omega|assumption|((repeat(first|exact A1|exact uH|apply A2|apply uT));first|done|fail)|(simp;first|done|omega|fail))[c1', c1'', c3, c4]))
    exact A8 (by simp [Y0, W8, M3, L6, c1, c3, c4])
   ·(have zz:=trivial;repeat((first|clear zz|with_reducible first|refine A3 ?_|refine A5 fun _=>?_|refine A4 fun _=>?_);try simp(disch:=first|omega|assumption|((repeat(first|exact A1|exact uH|apply A2|apply uT));first|done|fail)|(simp;first|done|omega|fail))[c1', c1'', c3]))
    exact A8 (by simp [Y0, W8, M3, L6, c1, c3])
 ·have hn : M3 x = G4 := by simp [M3, c1]
  have ho : L6 x y = false := by simp only [L6, decide_eq_false_iff_not]; exact fun h => c1 ⟨h.1, h.2.1⟩
  rw [hn, ho]
  have key : ∀ bx, TW false [] w [.pt bx (.cells #[.int .i64 x, .int .i64 y, .int .i64 z] 76)] = TW false [] w [.pt bx (.cells #[.int .i64 x, .int .i64 y, .int .i64 z] 76)] := fun _ => rfl
  by_cases c0 : 0 ≤ x
  ·have c0' : ¬ x ≤ 65535 := fun h => c1 ⟨c0, h⟩
   by_cases c2 : 0 ≤ y ∧ y ≤ 65535
   ·have c2' := c2.1; have c2'' := c2.2
    (have zz:=trivial;repeat((first|clear zz|with_reducible first|refine A3 ?_|refine A5 fun _=>?_|refine A4 fun _=>?_);try simp(disch:=first|omega|assumption|((repeat(first|exact A1|exact uH|apply A2|apply uT));first|done|fail)|(simp;first|done|omega|fail))[c0, c0', c2', c2'']))
    refine C7 E2 (fun w' hw' => U7 w' _ _) ?_
    (have zz:=trivial;repeat((first|clear zz|with_reducible first|refine A3 ?_|refine A5 fun _=>?_|refine A4 fun _=>?_);try simp(disch:=first|omega|assumption|((repeat(first|exact A1|exact uH|apply A2|apply uT));first|done|fail)|(simp;first|done|omega|fail))[c0, c0', c2', c2'', P0]))
    exact A8 (by simp [Y0, W8, M3, c2])
   ·by_cases c3 : 0 ≤ y
    ·have c4 : ¬ y ≤ 65535 := fun h => c2 ⟨c3, h⟩
     (have zz:=trivial;repeat((first|clear zz|with_reducible first|refine A3 ?_|refine A5 fun _=>?_|refine A4 fun _=>?_);try simp(disch:=first|omega|assumption|((repeat(first|exact A1|exact uH|apply A2|apply uT));first|done|fail)|(simp;first|done|omega|fail))[c0, c0', c3, c4]))
     exact A8 (by simp [Y0, W8, M3, c3, c4])
    ·(have zz:=trivial;repeat((first|clear zz|with_reducible first|refine A3 ?_|refine A5 fun _=>?_|refine A4 fun _=>?_);try simp(disch:=first|omega|assumption|((repeat(first|exact A1|exact uH|apply A2|apply uT));first|done|fail)|(simp;first|done|omega|fail))[c0, c0', c3]))
     exact A8 (by simp [Y0, W8, M3, c3])
  ·by_cases c2 : 0 ≤ y ∧ y ≤ 65535
   ·have c2' := c2.1; have c2'' := c2.2
    (have zz:=trivial;repeat((first|clear zz|with_reducible first|refine A3 ?_|refine A5 fun _=>?_|refine A4 fun _=>?_);try simp(disch:=first|omega|assumption|((repeat(first|exact A1|exact uH|apply A2|apply uT));first|done|fail)|(simp;first|done|omega|fail))[c0, c2', c2'']))
    refine C7 E2 (fun w' hw' => U7 w' _ _) ?_
    (have zz:=trivial;repeat((first|clear zz|with_reducible first|refine A3 ?_|refine A5 fun _=>?_|refine A4 fun _=>?_);try simp(disch:=first|omega|assumption|((repeat(first|exact A1|exact uH|apply A2|apply uT));first|done|fail)|(simp;first|done|omega|fail))[c0, c2', c2'', P0]))
    exact A8 (by simp [Y0, W8, M3, c2])
   ·by_cases c3 : 0 ≤ y
    ·have c4 : ¬ y ≤ 65535 := fun h => c2 ⟨c3, h⟩
     (have zz:=trivial;repeat((first|clear zz|with_reducible first|refine A3 ?_|refine A5 fun _=>?_|refine A4 fun _=>?_);try simp(disch:=first|omega|assumption|((repeat(first|exact A1|exact uH|apply A2|apply uT));first|done|fail)|(simp;first|done|omega|fail))[c0, c3, c4]))
     exact A8 (by simp [Y0, W8, M3, c3, c4])
    ·(have zz:=trivial;repeat((first|clear zz|with_reducible first|refine A3 ?_|refine A5 fun _=>?_|refine A4 fun _=>?_);try simp(disch:=first|omega|assumption|((repeat(first|exact A1|exact uH|apply A2|apply uT));first|done|fail)|(simp;first|done|omega|fail))[c0, c3]))
     exact A8 (by simp [Y0, W8, M3, c3])
def A0D (number f : Int) : ByteArray × Nat := if number = 6 then x6 f else if number = 17 then A0u f else (G4, 7)
def P1 (number x y f : Int) : ByteArray × Nat := if number ≠ 6 ∧ number ≠ 17 then (G4, 7) else if L6 x y = false ∨ (A0D number f).2 ≠ 0 then (G4, 1) else (D7 x 2 ++ D7 y 2 ++ (A0D number f).1, 0)
theorem A7B {x y : Int} (h : L6 x y = true) : M3 x ++ M3 y = D7 x 2 ++ D7 y 2 := by
 simp only [L6, decide_eq_true_eq] at h
 unfold M3; rw [if_pos (by omega), if_pos (by omega)]
theorem A1v (w : World) (number x y f : Int) : Fn PR C5 24 #[.int .i64 number, .agg #[.int .i64 x, .int .i64 y, .int .i64 f]] w (fun v w' => v = .tuple #[.string (P1 number x y f).1, .int .i64 (P1 number x y f).2] ∧ B5 [] w w') := by
 refine Fn.pure (A72 (TW.go (κ := false) (S := []) ?_))
 unfold A3c
 (have zz:=trivial;repeat((first|clear zz|with_reducible first|refine A3 ?_|refine A5 fun _=>?_|refine A4 fun _=>?_);try simp(disch:=first|omega|assumption|((repeat(first|exact A1|exact uH|apply A2|apply uT));first|done|fail)|(simp;first|done|omega|fail))[]))
 refine M4 A0d (fun w' _ => A56 w') ?_
 rintro r v rfl
 (have zz:=trivial;repeat((first|clear zz|with_reducible first|refine A3 ?_|refine A5 fun _=>?_|refine A4 fun _=>?_);try simp(disch:=first|omega|assumption|((repeat(first|exact A1|exact uH|apply A2|apply uT));first|done|fail)|(simp;first|done|omega|fail))[]))
 rw [A36 A9D A9m (KeyT.int H5) (l := U9) (by (repeat constructor))]
 by_cases c1 : number = 6
 ·rw [show (V3 number U9).getD .nilIface = A7g by subst c1; rfl]
  (have zz:=trivial;repeat((first|clear zz|with_reducible first|refine A3 ?_|refine A5 fun _=>?_|refine A4 fun _=>?_);try simp(disch:=first|omega|assumption|((repeat(first|exact A1|exact uH|apply A2|apply uT));first|done|fail)|(simp;first|done|omega|fail))[m0, l8]))
  refine C7 A1L (fun w' hw' => A7N w' _ _ _) ?_
  (have zz:=trivial;repeat((first|clear zz|with_reducible first|refine A3 ?_|refine A5 fun _=>?_|refine A4 fun _=>?_);try simp(disch:=first|omega|assumption|((repeat(first|exact A1|exact uH|apply A2|apply uT));first|done|fail)|(simp;first|done|omega|fail))[]))
  refine A6f (fun w => A6S w f) (fun w' hw' => B0q w' f) ?_
  cases c3 : L6 x y with
  | false => (have zz:=trivial;repeat((first|clear zz|with_reducible first|refine A3 ?_|refine A5 fun _=>?_|refine A4 fun _=>?_);try simp(disch:=first|omega|assumption|((repeat(first|exact A1|exact uH|apply A2|apply uT));first|done|fail)|(simp;first|done|omega|fail))[c3])); exact A8 (by simp [P1, c1, c3])
  | true =>
   have hp := A7B c3
   by_cases c2 : (x6 f).2 = 0
   ·have hz : (M3 x).size + (M3 y).size + (x6 f).1.size < 2 ^ 30 := by
     have := congrArg ByteArray.size hp
     simp at this
     have h6 := W6 6
     have h8 := W6 8
     have : (x6 f).1.size ≤ 100 := by unfold x6; split <;> simp [h6, h8]
     omega
    (have zz:=trivial;repeat((first|clear zz|with_reducible first|refine A3 ?_|refine A5 fun _=>?_|refine A4 fun _=>?_);try simp(disch:=first|omega|assumption|((repeat(first|exact A1|exact uH|apply A2|apply uT));first|done|fail)|(simp;first|done|omega|fail))[c2, c3, P0]))
    exact A8 (by simp [P1, A0D, c1, c2, c3, hp])
   ·(have zz:=trivial;repeat((first|clear zz|with_reducible first|refine A3 ?_|refine A5 fun _=>?_|refine A4 fun _=>?_);try simp(disch:=first|omega|assumption|((repeat(first|exact A1|exact uH|apply A2|apply uT));first|done|fail)|(simp;first|done|omega|fail))[c2, c3]))
    exact A8 (by simp [P1, A0D, c1, c2, c3])
 by_cases c1' : number = 17
 ·rw [show (V3 number U9).getD .nilIface = A6s by subst c1'; rfl]
  (have zz:=trivial;repeat((first|clear zz|with_reducible first|refine A3 ?_|refine A5 fun _=>?_|refine A4 fun _=>?_);try simp(disch:=first|omega|assumption|((repeat(first|exact A1|exact uH|apply A2|apply uT));first|done|fail)|(simp;first|done|omega|fail))[m0, l8]))
  refine C7 A1L (fun w' hw' => A7N w' _ _ _) ?_
  (have zz:=trivial;repeat((first|clear zz|with_reducible first|refine A3 ?_|refine A5 fun _=>?_|refine A4 fun _=>?_);try simp(disch:=first|omega|assumption|((repeat(first|exact A1|exact uH|apply A2|apply uT));first|done|fail)|(simp;first|done|omega|fail))[]))
  refine A6f (fun w => A6K w f) (fun w' hw' => B1F w' f) ?_
  cases c3 : L6 x y with
  | false => (have zz:=trivial;repeat((first|clear zz|with_reducible first|refine A3 ?_|refine A5 fun _=>?_|refine A4 fun _=>?_);try simp(disch:=first|omega|assumption|((repeat(first|exact A1|exact uH|apply A2|apply uT));first|done|fail)|(simp;first|done|omega|fail))[c3])); exact A8 (by simp [P1, c1', c3])
  | true =>
   have hp := A7B c3
   by_cases c2 : (A0u f).2 = 0
   ·have hz : (M3 x).size + (M3 y).size + (A0u f).1.size < 2 ^ 30 := by
     have := congrArg ByteArray.size hp
     simp at this
     have : (A0u f).1.size ≤ 100 := by unfold A0u; split <;> simp
     omega
    (have zz:=trivial;repeat((first|clear zz|with_reducible first|refine A3 ?_|refine A5 fun _=>?_|refine A4 fun _=>?_);try simp(disch:=first|omega|assumption|((repeat(first|exact A1|exact uH|apply A2|apply uT));first|done|fail)|(simp;first|done|omega|fail))[c2, c3, P0]))
    exact A8 (by simp [P1, A0D, c1', c2, c3, hp])
   ·(have zz:=trivial;repeat((first|clear zz|with_reducible first|refine A3 ?_|refine A5 fun _=>?_|refine A4 fun _=>?_);try simp(disch:=first|omega|assumption|((repeat(first|exact A1|exact uH|apply A2|apply uT));first|done|fail)|(simp;first|done|omega|fail))[c2, c3]))
    exact A8 (by simp [P1, A0D, c1', c2, c3])
 ·rw [show (V3 number U9).getD .nilIface = .nilIface by simp [V3, U9, c1, c1']]
  (have zz:=trivial;repeat((first|clear zz|with_reducible first|refine A3 ?_|refine A5 fun _=>?_|refine A4 fun _=>?_);try simp(disch:=first|omega|assumption|((repeat(first|exact A1|exact uH|apply A2|apply uT));first|done|fail)|(simp;first|done|omega|fail))[m0, l8]))
  exact A8 (by simp [P1, c1, c1'])
end Go.Proofs.Ytlplkjgcfjdinaa
