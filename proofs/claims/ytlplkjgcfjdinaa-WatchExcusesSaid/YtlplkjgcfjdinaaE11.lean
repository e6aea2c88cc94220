/- The proof of a given statement, a part of it (Map ShIp6 ShIp4 ShSum Sum Ip4 Ip6 Port). No condition but what each lemma says. -/
import Derived.MapKept
import Derived.Test.YtlplkjgcfjdinaaE10
set_option linter.unusedVariables false
set_option linter.unusedSimpArgs false
namespace Go.Proofs.Ytlplkjgcfjdinaa
open Go
section
variable {κ : Type} [DecidableEq κ]
def M6 (enc : κ → Value) : List (κ × Value) → Nat → List MapEntry
 | [], _ => []
 | p :: l, i => ⟨enc p.1, p.2, i⟩ :: M6 enc l (i + 1)
def U2 (enc : κ → Value) (l : List (κ × Value)) : Obj := .map (M6 enc l 0).toArray l.length
def s9 (k : κ) : List (κ × Value) → Nat → Option (Nat × Value)
 | [], _ => none
 | p :: l, i => if k = p.1 then some (i, p.2) else s9 k l (i + 1)
def V4 (k : κ) : List (κ × Value) → Option Value
 | [] => none
 | p :: l => if k = p.1 then some p.2 else V4 k l
def S8 (k : κ) (v : Value) : List (κ × Value) → List (κ × Value)
 | [] => [(k, v)]
 | p :: l => if k = p.1 then (k, v) :: l else p :: S8 k v l
theorem A99 (k k' : κ) (v : Value) (l : List (κ × Value)) : V4 k' (S8 k v l) = if k' = k then some v else V4 k' l := by
 induction l with
 | nil => simp [S8, V4]
 | cons p l ih =>
  simp only [S8]
  by_cases h : k = p.1
  ·rw [if_pos h]; simp only [V4]
   by_cases h' : k' = k
   ·rw [if_pos h', if_pos h']
   ·rw [if_neg h', if_neg h', if_neg (by rw [← h]; exact h')]
  ·rw [if_neg h]; simp only [V4, ih]
   by_cases h' : k' = p.1
   ·rw [if_pos h', if_pos h', if_neg (by rw [h']; exact fun e => h e.symm)]
   ·rw [if_neg h', if_neg h']
theorem B0r (k : κ) (l : List (κ × Value)) (i : Nat) : (s9 k l i).map (·.2) = V4 k l := by
 induction l generalizing i with
 | nil => rfl
 | cons p l ih => simp only [s9, V4]; split <;> simp [ih]
@[simp] theorem B73 {α : Type} (enc : α → Value) (l : List (α × Value)) (i : Nat) : (M6 enc l i).length = l.length := by
 induction l generalizing i with
 | nil => rfl
 | cons p l ih => simp [M6, ih]
theorem A76 {α : Type} (enc : α → Value) (l m : List (α × Value)) (i : Nat) : M6 enc (l ++ m) i = M6 enc l i ++ M6 enc m (i + l.length) := by
 induction l generalizing i with
 | nil => simp [M6]
 | cons p l ih => simp only [List.cons_append, M6, ih, List.length_cons]; congr 3; omega
theorem B1G (k : κ) (v : Value) (l : List (κ × Value)) (j : Nat) (h : s9 k l j = none) : S8 k v l = l ++ [(k, v)] := by
 induction l generalizing j with
 | nil => rfl
 | cons p l ih =>
  simp only [s9] at h
  split at h
  ·cases h
  ·rename_i hn; simp only [S8, if_neg hn, List.cons_append, ih _ h]
theorem B1m (enc : κ → Value) (k : κ) (v : Value) (l : List (κ × Value)) : ∀ (j n : Nat) (u : Value), s9 k l j = some (n, u) → j ≤ n ∧ n < j + l.length ∧ ((M6 enc l j)[n - j]?).map (·.key) = some (enc k) ∧
  M6 enc (S8 k v l) j = (M6 enc l j).modify (n - j) (fun e => { e with key := enc k, val := v }) := by
 induction l with
 | nil => intro j n u h; cases h
 | cons p l ih =>
  intro j n u h
  simp only [s9] at h
  split at h
  ·rename_i hk; cases h
   refine ⟨Nat.le_refl _, by simp, by simp [M6, hk], ?_⟩
   simp only [S8, if_pos hk, M6, Nat.sub_self, List.modify_zero_cons]
  ·rename_i hn
   obtain ⟨h1, h2, h3, h4⟩ := ih _ _ _ h
   have e : n - j = n - (j + 1) + 1 := by omega
   refine ⟨by omega, by simp only [List.length_cons]; omega, by rw [e]; simpa [M6] using h3, ?_⟩
   simp only [S8, if_neg hn, M6, e, List.modify_succ_cons, h4]
structure KeyT (P : Program) (kt : TypeId) (enc : κ → Value) : Prop where
 find : ∀ k l j w, (Instr.findKey kt (enc k) (M6 enc l j)).run P w = .ok (s9 k l 0) w
 check : ∀ k e w, (Instr.checkKey e 10000 kt (enc k)).run P w = .ok () w
 stays : ∀ k, Instr.sameBits 10000 (enc k) (enc k) = true
theorem A3F {d : TypeDesc} {enc : κ → Value} (hs : ∀ a b, Instr.sameNow d (enc a) (enc b) = some (decide (a = b))) (k : κ) (l : List (κ × Value)) : ∀ j i, Instr.findNow d (enc k) (M6 enc l j) i = some (s9 k l i) := by
 induction l with
 | nil => intro j i; rfl
 | cons p l ih =>
  intro j i
  simp only [M6, Instr.findNow, hs, s9]
  by_cases h : k = p.1
  ·simp [h]
  ·simp [h, ih]
end
theorem KeyT.int {P : Program} {kt : TypeId} {n m : Nat} {z : Value} (h : TI P kt (.int .i64) n m z) : KeyT P kt (fun a : Int => Value.int .i64 a) := by
 refine ⟨fun k l j w => ?_, fun k e w => ?_, fun k => ?_⟩
 ·exact MapKept.run_findKey h.und (A3F (fun a b => by simp [Instr.sameNow]; exact A5H a b) k l j 0)
 ·exact MapKept.run_checkKey h.und (by trivial) e 9999
 ·simp [Instr.sameBits]
theorem KeyT.string {P : Program} {kt : TypeId} {n m : Nat} {z : Value} (h : TI P kt .string n m z) : KeyT P kt Value.string := by
 refine ⟨fun k l j w => ?_, fun k e w => ?_, fun k => ?_⟩
 ·exact MapKept.run_findKey h.und (A3F (fun a b => by simp only [Instr.sameNow, B0g]) k l j 0)
 ·exact MapKept.run_checkKey h.und (by trivial) e 9999
 ·simp only [Instr.sameBits, B0g, decide_true]
section
variable {κ : Type} [DecidableEq κ] {enc : κ → Value} {σ : Bool} {P : Program} {X : Nat → Prop} {S : List Nat} {w0 : World} {H H' : List Res} {K : Value → WP} {K0 : WP} {t kt et : TypeId} {n m n2 m2 : Nat} {z z2 : Value} {d : TypeDesc}
theorem A8n {α : Type} (enc : α → Value) (hK : ∀ r, TW σ S w0 (.pt r (U2 enc []) :: H) (K (.map (some r)))) : TW σ S w0 H (B0 P X (Instr.makeMap t none) K) := fun w hw => by
 have : (Instr.makeMap t none).run P w = .ok (.map (some (sz w))) (w.alloc (U2 enc [])) := by simp [Instr.makeMap, run_newObj, U2, M6, sz]
 rw [M9 this (Sk.alloc X w _ (Or.inl rfl))]
 exact hK _ _ (hw.new rfl (Or.inl rfl))
theorem A4G (hm : TI P t (.map kt et) n m z) (he : TI P et d n2 m2 z2) (hk : KeyT P kt enc) {r : Nat} {l : List (κ × Value)} {k : κ} (hr : Res.pt r (U2 enc l) ∈ H) :
  TW σ S w0 H (A6 P (Instr.lookup t (.map (some r)) (enc k) false) K) = TW σ S w0 H (K ((V4 k l).getD z2)) := TW.congr fun w hw => by
 have hb : w.heap[r]? = some (.map (M6 enc l 0).toArray l.length) := hw.pt hr
 refine P5 ?_ K
 have h1 : (getObj r).run P w = .ok (.map (M6 enc l 0).toArray l.length) w := MapKept.run_getObj_map hb
 simp only [Instr.lookup, Sem.run_bind, hm.run_und, Result.andThen_ok, h1, Sem.run_pure, hk.check, hk.find]
 rw [← B0r k l 0]
 cases s9 k l 0 with
 | none => simp [he.run_zero]
 | some p => simp
theorem A4H (hm : TI P t (.map kt et) n m z) (hk : KeyT P kt enc) {r : Nat} {l : List (κ × Value)} {k : κ} {v : Value} (hu : Up (.pt r (U2 enc l)) (.pt r (U2 enc (S8 k v l))) H H') (hK : TW σ S w0 H' K0) :
  TW σ S w0 H (C7 P X (Instr.mapUpdate t (.map (some r)) (enc k) v) K0) := fun w hw => by
 have hmem : Res.pt r (U2 enc l) ∈ H := by obtain ⟨A, B, rfl, _⟩ := hu.parts; simp
 have hb0 := hw.pt hmem
 have hb : w.heap[r]? = some (.map (M6 enc l 0).toArray l.length) := hb0
 have h1 : (getObj r).run P w = .ok (.map (M6 enc l 0).toArray l.length) w := MapKept.run_getObj_map hb
 have hrun : (Instr.mapUpdate t (.map (some r)) (enc k) v).run P w = .ok () (World.putb w r (U2 enc (S8 k v l))) := by
  simp only [Instr.mapUpdate, Sem.run_bind, hm.run_und, Result.andThen_ok, h1, hk.check, hk.find]
  cases hf : s9 k l 0 with
  | none =>
   have e := B1G k v l 0 hf
   simp [U2, e, A76, M6, World.putb, MapKept.run_setObj_map _ hb]
  | some p =>
   obtain ⟨i, u⟩ := p
   obtain ⟨_, h2, h3, h4⟩ := B1m enc k v l 0 i u hf
   have hl : (S8 k v l).length = l.length := by
    have := congrArg List.length h4; simpa using this
   simp only [Nat.sub_zero] at h3 h4
   simp [U2, h4, hl, World.putb, MapKept.run_setObj_map _ hb, Instr.keyThatStays, h3, hk.stays]
 have hks : KS σ [r] w (World.putb w r (U2 enc (S8 k v l))) := by
  refine ((B6.refl [r] w).putb _ (Or.inl (by simp))).ks fun _ => ?_
  have h2 : ∀ (q : Nat) x, (∀ c T, x ≠ Obj.map c T) → w.heap[q]? = some x → (World.putb w r (U2 enc (S8 k v l))).heap[q]? = some x := fun q x hx e => by
   have : r ≠ q := by rintro rfl; rw [hb] at e; cases e; exact hx _ _ rfl
   exact (U6 (w := w) (o := U2 enc (S8 k v l)) this).trans e
  exact ⟨by simp [World.putb], fun q d => h2 q _ (by simp), fun q lo _ => h2 q _ (by simp), rfl, rfl⟩
 have hsk : Sk X w (World.putb w r (U2 enc (S8 k v l))) := by
  have h2 : ∀ (q : Nat) x, (∀ c T, x ≠ Obj.map c T) → w.heap[q]? = some x → (World.putb w r (U2 enc (S8 k v l))).heap[q]? = some x := fun q x hx e => by
   have : r ≠ q := by rintro rfl; rw [hb] at e; cases e; exact hx _ _ rfl
   exact (U6 (w := w) (o := U2 enc (S8 k v l)) this).trans e
  exact ⟨by simp [World.putb], fun q d => h2 q _ (by simp), fun q lo _ => h2 q _ (by simp), rfl, rfl⟩
 rw [B1D hrun hsk]
 refine hK _ (hw.up hu ⟨hks, ?_, ?_, by simp⟩)
 ·simp only [List.mem_singleton, forall_eq, Res.holds]; exact ⟨L5 (G3 hb0), rfl⟩
 ·simp only [List.mem_singleton, forall_eq, Res.foot]; exact ⟨Or.inl (by simp), by have := G3 hb0; simpa using this⟩
end
end Go.Proofs.Ytlplkjgcfjdinaa
namespace Go.Proofs.Ytlplkjgcfjdinaa
open Go
def A4Z (X : Nat → Prop) (t0 t1 : Value) (R : Value → WP) : WP :=
 B0 PR X (Instr.box 79 t0) fun t2 =>
 jn (n := 2) (fun t4 t5 =>
 B0 PR X (Instr.alloc 103 true (.tuple #[])) fun t6 =>
 C6 PR X 43 [t6, (.int .i64 1610612736), (.int .i64 4)] fun t34 =>
 A0 PR (A7 .len #[9] 0 [t1]) fun t36 =>
 C6 PR X 43 [t6, t36, (.int .i64 2)] fun t37 =>
 A0 PR (Instr.fieldAt 79 t2 2) fun t38 =>
 A6 PR (Instr.loadAt 3 t38) fun t39 =>
 C6 PR X 43 [t6, t39, (.int .i64 1)] fun t40 =>
 C6 PR X 43 [t6, (.int .i64 64), (.int .i64 1)] fun t41 =>
 jn (n := 1) (fun t49 =>
 A0 PR (Instr.fieldAt 103 t6 0) fun t57 =>
 C6 PR X 45 [t57] fun t58 =>
 R (.tuple #[t58, (.int .i64 0)])) fun J1 =>
 A0 PR (Instr.fieldAt 79 t2 0) fun t42 =>
 A6 PR (Instr.loadAt 9 t42) fun t43 =>
 A0 PR (Instr.fieldAt 79 t2 1) fun t44 =>
 A6 PR (Instr.loadAt 9 t44) fun t45 =>
 B0 PR X (Instr.buildSlice 105 3 #[(0, t43), (1, t45), (2, t1)]) fun t47 =>
 A0 PR (A7 .len #[105] 0 [t47]) fun t48 =>
 lp (n := 1) (fun L2 t49_1 =>
 A0 PR (binOp .lss 3 t49_1 t48) fun t50 =>
 jn (n := 0) (
 jn (n := 0) (
 A0 PR (binOp .add 3 t49_1 (.int .i64 1)) fun t56 =>
 L2 t56) fun J3 =>
 A0 PR (Instr.indexAt 105 t47 t49_1) fun t51 =>
 A6 PR (Instr.loadAt 9 t51) fun t52 =>
 A0 PR (Instr.fieldAt 103 t6 0) fun t53 =>
 C6 PR X 44 [t53, t52] fun t55 =>
 J3) fun J4 =>
 C9 t50 (
 J4) (
 J1 t49_1)) (.int .i64 0)) fun J5 =>
 A0 PR (Instr.fieldAt 79 t2 0) fun t10 =>
 A6 PR (Instr.loadAt 9 t10) fun t11 =>
 A0 PR (A7 .len #[9] 0 [t11]) fun t12 =>
 A0 PR (binOp .neq 3 t12 (.int .i64 16)) fun t13 =>
 gj t13 false (fun J => A0 PR (Instr.fieldAt 79 t2 1) J) fun t15 =>
 gj t13 false (fun J => A6 PR (Instr.loadAt 9 t15) J) fun t16 =>
 gj t13 false (fun J => A0 PR (A7 .len #[9] 0 [t16]) J) fun t17 =>
 gj t13 false (fun J => A0 PR (binOp .neq 3 t17 (.int .i64 16)) J) fun t18 =>
 A0 PR (do pure (if ← asBool t13 then (.bool true) else t18)) fun t19 =>
 gj t19 false (fun J => A0 PR (Instr.fieldAt 79 t2 2) J) fun t21 =>
 gj t19 false (fun J => A6 PR (Instr.loadAt 3 t21) J) fun t22 =>
 gj t19 false (fun J => A0 PR (binOp .lss 3 t22 (.int .i64 0)) J) fun t23 =>
 A0 PR (do pure (if ← asBool t19 then (.bool true) else t23)) fun t24 =>
 gj t24 false (fun J => A0 PR (Instr.fieldAt 79 t2 2) J) fun t26 =>
 gj t24 false (fun J => A6 PR (Instr.loadAt 3 t26) J) fun t27 =>
 gj t24 false (fun J => A0 PR (binOp .gtr 3 t27 (.int .i64 255)) J) fun t28 =>
 A0 PR (do pure (if ← asBool t24 then (.bool true) else t28)) fun t29 =>
 C9 t29 (
 R (.tuple #[(.string (ByteArray.mk #[])), (.int .i64 1)])) (
 A0 PR (A7 .len #[9] 0 [t1]) fun t32 =>
 A0 PR (binOp .gtr 3 t32 (.int .i64 65535)) fun t33 =>
 C9 t33 (
 R (.tuple #[(.string (ByteArray.mk #[])), (.int .i64 4)])) (
 J5 (.string (ByteArray.mk #[])) (.int .i64 0)))
theorem A8M : B1 PR 25 := A9 Try.func25 (by kernel_rfl) rfl
theorem A9y {X : Nat → Prop} {t0 t1 : Value} {R : Value → WP} {w : World} (h : A4Z X t0 t1 R w) : Fn PR X 25 #[t0, t1] w R := D3 (args := [t0, t1]) mixed Try.func25 (by kernel_rfl) h
def l6 (X : Nat → Prop) (t0 t1 t2 : Value) (R : Value → WP) : WP :=
 drw <|
 A0 PR (u4 t0) fun t7 =>
 A0 PR (Instr.fieldAt 103 t7 0) fun t8 =>
 A0 PR (convert 3 112 t1) fun t10 =>
 C6 PR X 47 [t10, t2] fun t12 =>
 C6 PR X 44 [t8, t12] fun t13 =>
 R (.tuple #[])
theorem M0 : B1 PR 43 := A9 Try.func43 (by kernel_rfl) rfl
theorem A1l {X : Nat → Prop} {t0 t1 t2 : Value} {R : Value → WP} {w : World} (h : l6 X t0 t1 t2 R w) : Fn PR X 43 #[t0, t1, t2] w R := D3 (args := [t0, t1, t2]) mixed Try.func43 (by kernel_rfl) h
def A2k (X : Nat → Prop) (t0 : Value) (R : Value → WP) : WP :=
 B0 PR X (Instr.alloc 79 true (.tuple #[])) fun t2 =>
 jn (n := 2) (fun t3 t4 =>
 jn (n := 2) (fun t3_1 t4_1 =>
 B0 PR X (Instr.buildSlice 37 6 #[(0, (.int .i64 4)), (1, (.int .i64 2)), (2, (.int .i64 1)), (3, (.int .i64 1)), (4, (.int .i64 16)), (5, (.int .i64 16))]) fun t19 =>
 C6 PR X 83 [t0, t19] fun t20 =>
 A0 PR (Instr.indexAt 105 t20 (.int .i64 1)) fun t23 =>
 A6 PR (Instr.loadAt 9 t23) fun t24 =>
 C6 PR X 72 [t24, (.int .i64 0), (.int .i64 2)] fun t25 =>
 A0 PR (Instr.extract t25 0) fun t26 =>
 A0 PR (Instr.extract t25 1) fun t27 =>
 A0 PR (Instr.indexAt 105 t20 (.int .i64 6)) fun t29 =>
 A6 PR (Instr.loadAt 9 t29) fun t30 =>
 jn (n := 2) (fun t3_2 t4_2 =>
 drw <|
 A0 PR (Instr.indexAt 105 t20 (.int .i64 4)) fun t38 =>
 A6 PR (Instr.loadAt 9 t38) fun t39 =>
 A0 PR (Instr.indexAt 105 t20 (.int .i64 5)) fun t41 =>
 A6 PR (Instr.loadAt 9 t41) fun t42 =>
 A0 PR (Instr.indexAt 105 t20 (.int .i64 2)) fun t44 =>
 A6 PR (Instr.loadAt 9 t44) fun t45 =>
 A0 PR (Instr.index 9 t45 (.int .i64 0)) fun t46 =>
 A0 PR (convert 5 3 t46) fun t47 =>
 A0 PR (Instr.build 79 #[(0, t39), (1, t42), (2, t47)]) fun t48 =>
 A0 PR (Instr.sliceAt 9 t30 none (some t26) none) fun t51 =>
 C7 PR X (Instr.storeAt 79 t2 t48) <|
 A6 PR (E8 [.c 79 t2, .v t51, .v (.int .i64 0)]) R) fun J1 =>
 A0 PR (A7 .len #[9] 0 [t30]) fun t33 =>
 A0 PR (convert 3 112 t33) fun t34 =>
 A0 PR (binOp .gtr 112 t26 t34) fun t35 =>
 C9 t35 (
 A0 PR (Instr.build 79 #[]) fun t36 =>
 C7 PR X (Instr.storeAt 79 t2 t36) <|
 A6 PR (E8 [.c 79 t2, .v (.string (ByteArray.mk #[])), .v (.int .i64 4)]) R) (
 J1 t3_1 t4_1)) fun J2 =>
 A0 PR (Instr.index 9 t0 (.int .i64 0)) fun t14 =>
 A0 PR (binOp .shr 5 t14 (.int .u64 4)) fun t15 =>
 A0 PR (binOp .neq 5 t15 (.int .u8 6)) fun t16 =>
 C9 t16 (
 A0 PR (Instr.build 79 #[]) fun t17 =>
 C7 PR X (Instr.storeAt 79 t2 t17) <|
 A6 PR (E8 [.c 79 t2, .v (.string (ByteArray.mk #[])), .v (.int .i64 3)]) R) (
 J2 t3 t4)) fun J3 =>
 A0 PR (A7 .len #[9] 0 [t0]) fun t10 =>
 A0 PR (binOp .lss 3 t10 (.int .i64 40)) fun t11 =>
 C9 t11 (
 A0 PR (Instr.build 79 #[]) fun t12 =>
 C7 PR X (Instr.storeAt 79 t2 t12) <|
 A6 PR (E8 [.c 79 t2, .v (.string (ByteArray.mk #[])), .v (.int .i64 2)]) R) (
 J3 (.string (ByteArray.mk #[])) (.int .i64 0))
theorem A6T : B1 PR 70 := A9 Try.func70 (by kernel_rfl) rfl
theorem A73 {X : Nat → Prop} {t0 : Value} {R : Value → WP} {w : World} (h : A2k X t0 R w) : Fn PR X 70 #[t0] w R := D3 (args := [t0]) mixed Try.func70 (by kernel_rfl) h
def A46 (X : Nat → Prop) (t0 t1 : Value) (R : Value → WP) : WP :=
 jn (n := 3) (fun t5 t0_1 t10 =>
 B0 PR X (Instr.buildSlice 105 1 #[(0, t0_1)]) fun t26 =>
 B0 PR X (A7 .append #[105, 105] 105 [t5, t26]) fun t27 =>
 R t27) fun J1 =>
 A0 PR (A7 .len #[37] 0 [t1]) fun t9 =>
 lp (n := 3) (fun L2 t5_1 t0_2 t10_1 =>
 A0 PR (binOp .lss 3 t10_1 t9) fun t11 =>
 jn (n := 0) (
 jn (n := 2) (fun t5_2 t0_3 =>
 A0 PR (binOp .add 3 t10_1 (.int .i64 1)) fun t23 =>
 L2 t5_2 t0_3 t23) fun J3 =>
 A0 PR (Instr.indexAt 37 t1 t10_1) fun t12 =>
 A6 PR (Instr.loadAt 3 t12) fun t13 =>
 A0 PR (Instr.sliceAt 9 t0_2 none (some t13) none) fun t17 =>
 B0 PR X (Instr.buildSlice 105 1 #[(0, t17)]) fun t18 =>
 B0 PR X (A7 .append #[105, 105] 105 [t5_1, t18]) fun t19 =>
 A0 PR (Instr.sliceAt 9 t0_2 (some t13) none none) fun t22 =>
 J3 t19 t22) fun J4 =>
 C9 t11 (
 J4) (
 J1 t5_1 t0_2 t10_1)) (.slice none 0 0) t0 (.int .i64 0)
theorem A79 : B1 PR 83 := A9 Try.func83 (by kernel_rfl) rfl
theorem A93 {X : Nat → Prop} {t0 t1 : Value} {R : Value → WP} {w : World} (h : A46 X t0 t1 R w) : Fn PR X 83 #[t0, t1] w R := D3 (args := [t0, t1]) mixed Try.func83 (by kernel_rfl) h
end Go.Proofs.Ytlplkjgcfjdinaa
namespace Go.Proofs.Ytlplkjgcfjdinaa
open Go
def A4p (X : Nat → Prop) (t0 t1 : Value) (R : Value → WP) : WP :=
 B0 PR X (Instr.box 81 t0) fun t2 =>
 B0 PR X (Instr.box 9 t1) fun t3 =>
 jn (n := 2) (fun t4 t5 =>
 A0 PR (Instr.makeFunc (.func 46) #[] #[t3, t2]) fun t32 =>
 drw <|
 A6 PR (Instr.loadAt 9 t3) fun t38 =>
 F4 PR X t32 [(.int .i64 0)] fun t35 =>
 watch PR [(none, (Instr.loadAt 9 t3), t38)] <|
 C6 PR X 48 [t35] fun t36 =>
 watch PR [(none, (Instr.loadAt 9 t3), t38)] <|
 F4 PR X t32 [t36] fun t37 =>
 watch PR [(none, (Instr.loadAt 9 t3), t38)] <|
 A0 PR (binOp .add 9 t37 t38) fun t39 =>
 R (.tuple #[t39, (.int .i64 0)])) fun J1 =>
 A0 PR (Instr.fieldAt 81 t2 0) fun t8 =>
 A6 PR (Instr.loadAt 9 t8) fun t9 =>
 A0 PR (A7 .len #[9] 0 [t9]) fun t10 =>
 A0 PR (binOp .neq 3 t10 (.int .i64 4)) fun t11 =>
 gj t11 false (fun J => A0 PR (Instr.fieldAt 81 t2 1) J) fun t13 =>
 gj t11 false (fun J => A6 PR (Instr.loadAt 9 t13) J) fun t14 =>
 gj t11 false (fun J => A0 PR (A7 .len #[9] 0 [t14]) J) fun t15 =>
 gj t11 false (fun J => A0 PR (binOp .neq 3 t15 (.int .i64 4)) J) fun t16 =>
 A0 PR (do pure (if ← asBool t11 then (.bool true) else t16)) fun t17 =>
 gj t17 false (fun J => A0 PR (Instr.fieldAt 81 t2 2) J) fun t19 =>
 gj t17 false (fun J => A6 PR (Instr.loadAt 3 t19) J) fun t20 =>
 gj t17 false (fun J => A0 PR (binOp .lss 3 t20 (.int .i64 0)) J) fun t21 =>
 A0 PR (do pure (if ← asBool t17 then (.bool true) else t21)) fun t22 =>
 gj t22 false (fun J => A0 PR (Instr.fieldAt 81 t2 2) J) fun t24 =>
 gj t22 false (fun J => A6 PR (Instr.loadAt 3 t24) J) fun t25 =>
 gj t22 false (fun J => A0 PR (binOp .gtr 3 t25 (.int .i64 255)) J) fun t26 =>
 A0 PR (do pure (if ← asBool t22 then (.bool true) else t26)) fun t27 =>
 C9 t27 (
 R (.tuple #[(.string (ByteArray.mk #[])), (.int .i64 1)])) (
 A6 PR (Instr.loadAt 9 t3) fun t29 =>
 A0 PR (A7 .len #[9] 0 [t29]) fun t30 =>
 A0 PR (binOp .gtr 3 t30 (.int .i64 65515)) fun t31 =>
 C9 t31 (
 R (.tuple #[(.string (ByteArray.mk #[])), (.int .i64 4)])) (
 J1 (.string (ByteArray.mk #[])) (.int .i64 0)))
theorem A8T : B1 PR 26 := A9 Try.func26 (by kernel_rfl) rfl
theorem A85 {X : Nat → Prop} {t0 t1 : Value} {R : Value → WP} {w : World} (h : A4p X t0 t1 R w) : Fn PR X 26 #[t0, t1] w R := D3 (args := [t0, t1]) mixed Try.func26 (by kernel_rfl) h
def A2M (X : Nat → Prop) (t0 t1 t2 : Value) (R : Value → WP) : WP :=
 drw <|
 A6 PR (Instr.loadAt 9 t1) fun t5 =>
 A0 PR (A7 .len #[9] 0 [t5]) fun t6 =>
 A0 PR (binOp .add 3 (.int .i64 20) t6) fun t7 =>
 A0 PR (convert 3 112 t7) fun t8 =>
 A0 PR (Instr.fieldAt 81 t2 2) fun t12 =>
 A6 PR (Instr.loadAt 3 t12) fun t13 =>
 A0 PR (convert 3 112 t13) fun t14 =>
 A0 PR (convert 3 112 t0) fun t18 =>
 A0 PR (Instr.fieldAt 81 t2 0) fun t21 =>
 A6 PR (Instr.loadAt 9 t21) fun t22 =>
 A0 PR (Instr.fieldAt 81 t2 1) fun t24 =>
 A6 PR (Instr.loadAt 9 t24) fun t25 =>
 C6 PR X 47 [t8, (.int .i64 2)] fun t9 =>
 watch PR [(none, (Instr.loadAt 9 t24), t25), (none, (Instr.loadAt 9 t21), t22), (none, (Instr.loadAt 3 t12), t13)] <|
 A0 PR (binOp .add 9 (.string (ByteArray.mk #[69, 0])) t9) fun t10 =>
 A0 PR (binOp .add 9 t10 (.string (ByteArray.mk #[0, 0, 64, 0, 64]))) fun t11 =>
 C6 PR X 47 [t14, (.int .i64 1)] fun t15 =>
 watch PR [(none, (Instr.loadAt 9 t24), t25), (none, (Instr.loadAt 9 t21), t22)] <|
 A0 PR (binOp .add 9 t11 t15) fun t16 =>
 C6 PR X 47 [t18, (.int .i64 2)] fun t19 =>
 watch PR [(none, (Instr.loadAt 9 t24), t25), (none, (Instr.loadAt 9 t21), t22)] <|
 A0 PR (binOp .add 9 t16 t19) fun t20 =>
 A0 PR (binOp .add 9 t20 t22) fun t23 =>
 A0 PR (binOp .add 9 t23 t25) fun t26 =>
 R t26
theorem A1L : B1 PR 46 := A9 Try.func46 (by kernel_rfl) rfl
theorem A6Q {X : Nat → Prop} {t0 t1 t2 : Value} {R : Value → WP} {w : World} (h : A2M X t0 t1 t2 R w) : Fn PR X 46 #[t0, t1, t2] w R := D3 (args := [t0, t1, t2]) mixed Try.func46 (by kernel_rfl) h
def A2p (X : Nat → Prop) (t0 : Value) (R : Value → WP) : WP :=
 B0 PR X (Instr.box 9 t0) fun t1 =>
 B0 PR X (Instr.alloc 81 true (.tuple #[])) fun t2 =>
 A0 PR (Instr.makeFunc (.func 75) #[] #[t1]) fun t9 =>
 B0 PR X (Instr.alloc 73 true (.tuple #[])) fun t5 =>
 C7 PR X (Instr.storeAt 73 t5 t9) <|
 drw <|
 kt (n := 2) (fun t6 t7 =>
 A0 PR (Instr.makeFunc (.func 77) #[] #[t1]) fun t16 =>
 A0 PR (Instr.build 161 #[(0, t16), (1, (.int .i64 2))]) fun t17 =>
 A0 PR (Instr.makeFunc (.func 78) #[] #[t5]) fun t18 =>
 A0 PR (Instr.build 161 #[(0, t18), (1, (.int .i64 3))]) fun t19 =>
 A0 PR (Instr.makeFunc (.func 79) #[] #[t6, t1, t7]) fun t20 =>
 A0 PR (Instr.build 161 #[(0, t20), (1, (.int .i64 4))]) fun t21 =>
 A0 PR (Instr.makeFunc (.func 80) #[] #[t1, t6]) fun t22 =>
 A0 PR (Instr.build 161 #[(0, t22), (1, (.int .i64 5))]) fun t23 =>
 A0 PR (Instr.makeFunc (.func 82) #[] #[t5]) fun t24 =>
 A0 PR (Instr.build 161 #[(0, t24), (1, (.int .i64 6))]) fun t25 =>
 B0 PR X (Instr.buildSlice 165 5 #[(0, t17), (1, t19), (2, t21), (3, t23), (4, t25)]) fun t26 =>
 C6 PR X 76 [t26] fun t27 =>
 jn (n := 2) (fun t3 t4 =>
 drw <|
 A6 PR (Instr.loadAt 9 t1) fun t32 =>
 A0 PR (Instr.sliceAt 9 t32 (some (.int .i64 12)) (some (.int .i64 16)) none) fun t33 =>
 A6 PR (Instr.loadAt 9 t1) fun t34 =>
 A0 PR (Instr.sliceAt 9 t34 (some (.int .i64 16)) (some (.int .i64 20)) none) fun t35 =>
 A6 PR (Instr.loadAt 73 t5) fun t36 =>
 A6 PR (Instr.loadAt 9 t1) fun t39 =>
 A6 PR (Instr.loadAt 3 t6) fun t40 =>
 A6 PR (Instr.loadAt 3 t7) fun t41 =>
 A0 PR (Instr.sliceAt 9 t39 (some t40) (some t41) none) fun t42 =>
 F4 PR X t36 [(.int .i64 9), (.int .i64 1)] fun t37 =>
 watch PR [(none, (Instr.loadAt 3 t7), t41), (none, (Instr.loadAt 3 t6), t40), (none, (Instr.loadAt 9 t1), t39), (none, (Instr.loadAt 9 t1), t34), (none, (Instr.loadAt 9 t1), t32)] <|
 A0 PR (Instr.build 81 #[(0, t33), (1, t35), (2, t37)]) fun t38 =>
 C7 PR X (Instr.storeAt 81 t2 t38) <|
 watch PR [(none, (Instr.loadAt 3 t7), t41), (none, (Instr.loadAt 3 t6), t40), (none, (Instr.loadAt 9 t1), t39)] <|
 A6 PR (E8 [.c 81 t2, .v t42, .v (.int .i64 0)]) R) fun J1 =>
 A0 PR (binOp .neq 44 t27 (.int .i64 0)) fun t29 =>
 C9 t29 (
 A0 PR (Instr.build 81 #[]) fun t30 =>
 C7 PR X (Instr.storeAt 81 t2 t30) <|
 A6 PR (E8 [.c 81 t2, .v (.string (ByteArray.mk #[])), .v t27]) R) (
 J1 (.string (ByteArray.mk #[])) (.int .i64 0))) fun C2 =>
 A6 PR (Instr.loadAt 73 t5) fun t10_1 =>
 A6 PR (Instr.loadAt 73 t5) fun t14_1 =>
 both (F4 PR X t10_1 [(.int .i64 0), (.int .i64 1)] fun t11_5 =>
 watch PR [(none, (Instr.loadAt 73 t5), t14_1)] <|
 A0 PR (binOp .and 3 t11_5 (.int .i64 15)) fun t12_5 =>
 A0 PR (binOp .mul 3 t12_5 (.int .i64 4)) fun t13_5 =>
 both (F4 PR X t14_1 [(.int .i64 2), (.int .i64 2)] fun t15_11 =>
 both (B0 PR X (Instr.alloc 3 true (.tuple #[])) fun t6_9 =>
 B0 PR X (Instr.alloc 3 true (.tuple #[])) fun t7_9 =>
 C7 PR X (Instr.storeAt 3 t6_9 t13_5) <|
 C7 PR X (Instr.storeAt 3 t7_9 t15_11) <|
 C2 t6_9 t7_9) (both (B0 PR X (Instr.alloc 3 true (.tuple #[])) fun t7_8 =>
 B0 PR X (Instr.alloc 3 true (.tuple #[])) fun t6_8 =>
 C7 PR X (Instr.storeAt 3 t6_8 t13_5) <|
 C7 PR X (Instr.storeAt 3 t7_8 t15_11) <|
 C2 t6_8 t7_8) ((fun _ => True)))) (both (B0 PR X (Instr.alloc 3 true (.tuple #[])) fun t6_7 =>
 watch PR [(none, (Instr.loadAt 73 t5), t14_1)] <|
 both (F4 PR X t14_1 [(.int .i64 2), (.int .i64 2)] fun t15_10 =>
 B0 PR X (Instr.alloc 3 true (.tuple #[])) fun t7_7 =>
 C7 PR X (Instr.storeAt 3 t6_7 t13_5) <|
 C7 PR X (Instr.storeAt 3 t7_7 t15_10) <|
 C2 t6_7 t7_7) (both (B0 PR X (Instr.alloc 3 true (.tuple #[])) fun t7_6 =>
 watch PR [(none, (Instr.loadAt 73 t5), t14_1)] <|
 F4 PR X t14_1 [(.int .i64 2), (.int .i64 2)] fun t15_9 =>
 C7 PR X (Instr.storeAt 3 t6_7 t13_5) <|
 C7 PR X (Instr.storeAt 3 t7_6 t15_9) <|
 C2 t6_7 t7_6) ((fun _ => True)))) (both (B0 PR X (Instr.alloc 3 true (.tuple #[])) fun t7_5 =>
 watch PR [(none, (Instr.loadAt 73 t5), t14_1)] <|
 both (F4 PR X t14_1 [(.int .i64 2), (.int .i64 2)] fun t15_8 =>
 B0 PR X (Instr.alloc 3 true (.tuple #[])) fun t6_6 =>
 C7 PR X (Instr.storeAt 3 t6_6 t13_5) <|
 C7 PR X (Instr.storeAt 3 t7_5 t15_8) <|
 C2 t6_6 t7_5) (both (B0 PR X (Instr.alloc 3 true (.tuple #[])) fun t6_5 =>
 watch PR [(none, (Instr.loadAt 73 t5), t14_1)] <|
 F4 PR X t14_1 [(.int .i64 2), (.int .i64 2)] fun t15_7 =>
 C7 PR X (Instr.storeAt 3 t6_5 t13_5) <|
 C7 PR X (Instr.storeAt 3 t7_5 t15_7) <|
 C2 t6_5 t7_5) ((fun _ => True)))) ((fun _ => True))))) (both (B0 PR X (Instr.alloc 3 true (.tuple #[])) fun t6_4 =>
 watch PR [(none, (Instr.loadAt 73 t5), t14_1), (none, (Instr.loadAt 73 t5), t10_1)] <|
 both (F4 PR X t10_1 [(.int .i64 0), (.int .i64 1)] fun t11_4 =>
 watch PR [(none, (Instr.loadAt 73 t5), t14_1)] <|
 A0 PR (binOp .and 3 t11_4 (.int .i64 15)) fun t12_4 =>
 A0 PR (binOp .mul 3 t12_4 (.int .i64 4)) fun t13_4 =>
 both (F4 PR X t14_1 [(.int .i64 2), (.int .i64 2)] fun t15_6 =>
 B0 PR X (Instr.alloc 3 true (.tuple #[])) fun t7_4 =>
 C7 PR X (Instr.storeAt 3 t6_4 t13_4) <|
 C7 PR X (Instr.storeAt 3 t7_4 t15_6) <|
 C2 t6_4 t7_4) (both (B0 PR X (Instr.alloc 3 true (.tuple #[])) fun t7_3 =>
 watch PR [(none, (Instr.loadAt 73 t5), t14_1)] <|
 F4 PR X t14_1 [(.int .i64 2), (.int .i64 2)] fun t15_5 =>
 C7 PR X (Instr.storeAt 3 t6_4 t13_4) <|
 C7 PR X (Instr.storeAt 3 t7_3 t15_5) <|
 C2 t6_4 t7_3) ((fun _ => True)))) (both (B0 PR X (Instr.alloc 3 true (.tuple #[])) fun t7_2 =>
 watch PR [(none, (Instr.loadAt 73 t5), t14_1), (none, (Instr.loadAt 73 t5), t10_1)] <|
 F4 PR X t10_1 [(.int .i64 0), (.int .i64 1)] fun t11_3 =>
 watch PR [(none, (Instr.loadAt 73 t5), t14_1)] <|
 A0 PR (binOp .and 3 t11_3 (.int .i64 15)) fun t12_3 =>
 A0 PR (binOp .mul 3 t12_3 (.int .i64 4)) fun t13_3 =>
 F4 PR X t14_1 [(.int .i64 2), (.int .i64 2)] fun t15_4 =>
 C7 PR X (Instr.storeAt 3 t6_4 t13_3) <|
 C7 PR X (Instr.storeAt 3 t7_2 t15_4) <|
 C2 t6_4 t7_2) ((fun _ => True)))) (both (B0 PR X (Instr.alloc 3 true (.tuple #[])) fun t7_1 =>
 watch PR [(none, (Instr.loadAt 73 t5), t14_1), (none, (Instr.loadAt 73 t5), t10_1)] <|
 both (F4 PR X t10_1 [(.int .i64 0), (.int .i64 1)] fun t11_2 =>
 watch PR [(none, (Instr.loadAt 73 t5), t14_1)] <|
 A0 PR (binOp .and 3 t11_2 (.int .i64 15)) fun t12_2 =>
 A0 PR (binOp .mul 3 t12_2 (.int .i64 4)) fun t13_2 =>
 both (F4 PR X t14_1 [(.int .i64 2), (.int .i64 2)] fun t15_3 =>
 B0 PR X (Instr.alloc 3 true (.tuple #[])) fun t6_3 =>
 C7 PR X (Instr.storeAt 3 t6_3 t13_2) <|
 C7 PR X (Instr.storeAt 3 t7_1 t15_3) <|
 C2 t6_3 t7_1) (both (B0 PR X (Instr.alloc 3 true (.tuple #[])) fun t6_2 =>
 watch PR [(none, (Instr.loadAt 73 t5), t14_1)] <|
 F4 PR X t14_1 [(.int .i64 2), (.int .i64 2)] fun t15_2 =>
 C7 PR X (Instr.storeAt 3 t6_2 t13_2) <|
 C7 PR X (Instr.storeAt 3 t7_1 t15_2) <|
 C2 t6_2 t7_1) ((fun _ => True)))) (both (B0 PR X (Instr.alloc 3 true (.tuple #[])) fun t6_1 =>
 watch PR [(none, (Instr.loadAt 73 t5), t14_1), (none, (Instr.loadAt 73 t5), t10_1)] <|
 F4 PR X t10_1 [(.int .i64 0), (.int .i64 1)] fun t11_1 =>
 watch PR [(none, (Instr.loadAt 73 t5), t14_1)] <|
 A0 PR (binOp .and 3 t11_1 (.int .i64 15)) fun t12_1 =>
 A0 PR (binOp .mul 3 t12_1 (.int .i64 4)) fun t13_1 =>
 F4 PR X t14_1 [(.int .i64 2), (.int .i64 2)] fun t15_1 =>
 C7 PR X (Instr.storeAt 3 t6_1 t13_1) <|
 C7 PR X (Instr.storeAt 3 t7_1 t15_1) <|
 C2 t6_1 t7_1) ((fun _ => True)))) ((fun _ => True))))
theorem A6J : B1 PR 67 := A9 Try.func67 (by kernel_rfl) rfl
theorem A60 {X : Nat → Prop} {t0 : Value} {R : Value → WP} {w : World} (h : A2p X t0 R w) : Fn PR X 67 #[t0] w R := D3 (args := [t0]) mixed Try.func67 (by kernel_rfl) h
def A0b (X : Nat → Prop) (t0 t1 t2 : Value) (R : Value → WP) : WP :=
 A6 PR (Instr.loadAt 9 t2) fun t9 =>
 C6 PR X 72 [t9, t0, t1] fun t12 =>
 A0 PR (Instr.extract t12 0) fun t13 =>
 A0 PR (Instr.extract t12 1) fun t14 =>
 A0 PR (convert 112 3 t13) fun t16 =>
 R t16
theorem U5 : B1 PR 75 := A9 Try.func75 (by kernel_rfl) rfl
theorem A4N {X : Nat → Prop} {t0 t1 t2 : Value} {R : Value → WP} {w : World} (h : A0b X t0 t1 t2 R w) : Fn PR X 75 #[t0, t1, t2] w R := D3 (args := [t0, t1, t2]) mixed Try.func75 (by kernel_rfl) h
def A28 (X : Nat → Prop) (t0 : Value) (R : Value → WP) : WP :=
 jn (n := 2) (fun t3 t8 =>
 R t3) fun J1 =>
 A0 PR (A7 .len #[165] 0 [t0]) fun t7 =>
 lp (n := 2) (fun L2 t3_1 t8_1 =>
 A0 PR (binOp .lss 3 t8_1 t7) fun t9 =>
 jn (n := 0) (
 jn (n := 1) (fun t3_2 =>
 A0 PR (binOp .add 3 t8_1 (.int .i64 1)) fun t17 =>
 L2 t3_2 t17) fun J3 =>
 A0 PR (Instr.indexAt 165 t0 t8_1) fun t10 =>
 A6 PR (Instr.loadAt 161 t10) fun t11 =>
 B0 PR X (Instr.alloc 161 true (.tuple #[])) fun t5 =>
 C7 PR X (Instr.storeAt 161 t5 t11) <|
 A0 PR (Instr.fieldAt 161 t5 0) fun t12 =>
 A6 PR (Instr.loadAt 29 t12) fun t13 =>
 F4 PR X t13 [] fun t14 =>
 C9 t14 (
 A0 PR (Instr.fieldAt 161 t5 1) fun t15 =>
 A6 PR (Instr.loadAt 44 t15) fun t16 =>
 J1 t16 t8_1) (
 J3 t3_1)) fun J4 =>
 C9 t9 (
 J4) (
 J1 t3_1 t8_1)) (.int .i64 0) (.int .i64 0)
theorem A6L : B1 PR 76 := A9 Try.func76 (by kernel_rfl) rfl
theorem A6p {X : Nat → Prop} {t0 : Value} {R : Value → WP} {w : World} (h : A28 X t0 R w) : Fn PR X 76 #[t0] w R := D3 (args := [t0]) mixed Try.func76 (by kernel_rfl) h
def A0f (X : Nat → Prop) (t0 : Value) (R : Value → WP) : WP :=
 A6 PR (Instr.loadAt 9 t0) fun t2 =>
 A0 PR (A7 .len #[9] 0 [t2]) fun t3 =>
 A0 PR (binOp .lss 3 t3 (.int .i64 20)) fun t4 =>
 R t4
theorem A38 : B1 PR 77 := A9 Try.func77 (by kernel_rfl) rfl
theorem A4c {X : Nat → Prop} {t0 : Value} {R : Value → WP} {w : World} (h : A0f X t0 R w) : Fn PR X 77 #[t0] w R := D3 (args := [t0]) mixed Try.func77 (by kernel_rfl) h
def A0m (X : Nat → Prop) (t0 : Value) (R : Value → WP) : WP :=
 A6 PR (Instr.loadAt 73 t0) fun t2 =>
 F4 PR X t2 [(.int .i64 0), (.int .i64 1)] fun t3 =>
 A0 PR (binOp .shr 3 t3 (.int .u64 4)) fun t4 =>
 A0 PR (binOp .neq 3 t4 (.int .i64 4)) fun t5 =>
 R t5
theorem A34 : B1 PR 78 := A9 Try.func78 (by kernel_rfl) rfl
theorem A4T {X : Nat → Prop} {t0 : Value} {R : Value → WP} {w : World} (h : A0m X t0 R w) : Fn PR X 78 #[t0] w R := D3 (args := [t0]) mixed Try.func78 (by kernel_rfl) h
def A0g (X : Nat → Prop) (t0 t1 t2 : Value) (R : Value → WP) : WP :=
 A6 PR (Instr.loadAt 3 t0) fun t4 =>
 A0 PR (binOp .lss 3 t4 (.int .i64 20)) fun t5 =>
 gj t5 false (fun J => A6 PR (Instr.loadAt 3 t0) J) fun t7 =>
 gj t5 false (fun J => A6 PR (Instr.loadAt 9 t1) J) fun t8 =>
 gj t5 false (fun J => A0 PR (A7 .len #[9] 0 [t8]) J) fun t9 =>
 gj t5 false (fun J => A0 PR (binOp .gtr 3 t7 t9) J) fun t10 =>
 A0 PR (do pure (if ← asBool t5 then (.bool true) else t10)) fun t11 =>
 gj t11 false (fun J => A6 PR (Instr.loadAt 3 t2) J) fun t13 =>
 gj t11 false (fun J => A6 PR (Instr.loadAt 3 t0) J) fun t14 =>
 gj t11 false (fun J => A0 PR (binOp .lss 3 t13 t14) J) fun t15 =>
 A0 PR (do pure (if ← asBool t11 then (.bool true) else t15)) fun t16 =>
 gj t16 false (fun J => A6 PR (Instr.loadAt 3 t2) J) fun t18 =>
 gj t16 false (fun J => A6 PR (Instr.loadAt 9 t1) J) fun t19 =>
 gj t16 false (fun J => A0 PR (A7 .len #[9] 0 [t19]) J) fun t20 =>
 gj t16 false (fun J => A0 PR (binOp .gtr 3 t18 t20) J) fun t21 =>
 A0 PR (do pure (if ← asBool t16 then (.bool true) else t21)) fun t22 =>
 R t22
theorem A3v : B1 PR 79 := A9 Try.func79 (by kernel_rfl) rfl
theorem A43 {X : Nat → Prop} {t0 t1 t2 : Value} {R : Value → WP} {w : World} (h : A0g X t0 t1 t2 R w) : Fn PR X 79 #[t0, t1, t2] w R := D3 (args := [t0, t1, t2]) mixed Try.func79 (by kernel_rfl) h
def A0e (X : Nat → Prop) (t0 t1 : Value) (R : Value → WP) : WP :=
 A6 PR (Instr.loadAt 9 t0) fun t3 =>
 A6 PR (Instr.loadAt 3 t1) fun t4 =>
 A0 PR (Instr.sliceAt 9 t3 none (some t4) none) fun t5 =>
 C6 PR X 81 [t5] fun t6 =>
 A0 PR (Op.unary .not t6) fun t7 =>
 R t7
theorem A4K : B1 PR 80 := A9 Try.func80 (by kernel_rfl) rfl
theorem A4M {X : Nat → Prop} {t0 t1 : Value} {R : Value → WP} {w : World} (h : A0e X t0 t1 R w) : Fn PR X 80 #[t0, t1] w R := D3 (args := [t0, t1]) mixed Try.func80 (by kernel_rfl) h
def A0w (X : Nat → Prop) (t0 : Value) (R : Value → WP) : WP :=
 A6 PR (Instr.loadAt 73 t0) fun t2 =>
 F4 PR X t2 [(.int .i64 6), (.int .i64 2)] fun t3 =>
 A0 PR (binOp .and 3 t3 (.int .i64 16383)) fun t4 =>
 A0 PR (binOp .neq 3 t4 (.int .i64 0)) fun t5 =>
 R t5
theorem A36 : B1 PR 82 := A9 Try.func82 (by kernel_rfl) rfl
theorem A4S {X : Nat → Prop} {t0 : Value} {R : Value → WP} {w : World} (h : A0w X t0 R w) : Fn PR X 82 #[t0] w R := D3 (args := [t0]) mixed Try.func82 (by kernel_rfl) h
end Go.Proofs.Ytlplkjgcfjdinaa
namespace Go.Proofs.Ytlplkjgcfjdinaa
open Go
def A45 (X : Nat → Prop) (t0 : Value) (R : Value → WP) : WP :=
 C6 PR X 58 [t0] fun t4 =>
 A0 PR (binOp .sub 3 (.int .i64 65535) t4) fun t5 =>
 R t5
theorem A8b : B1 PR 48 := A9 Try.func48 (by kernel_rfl) rfl
theorem A9B {X : Nat → Prop} {t0 : Value} {R : Value → WP} {w : World} (h : A45 X t0 R w) : Fn PR X 48 #[t0] w R := D3 (args := [t0]) mixed Try.func48 (by kernel_rfl) h
def A3g (X : Nat → Prop) (t0 : Value) (R : Value → WP) : WP :=
 B0 PR X (Instr.alloc 112 true (.tuple #[])) fun t3 =>
 jn (n := 0) (
 jn (n := 0) (
 A6 PR (Instr.loadAt 112 t3) fun t18 =>
 A0 PR (convert 112 3 t18) fun t19 =>
 unw (R t19)) fun J1 =>
 lp (n := 0) (fun L2 =>
 jn (n := 0) (
 A6 PR (Instr.loadAt 112 t3) fun t13 =>
 A0 PR (binOp .shr 112 t13 (.int .u64 16)) fun t14 =>
 A6 PR (Instr.loadAt 112 t3) fun t15 =>
 A0 PR (binOp .and 112 t15 (.int .u64 65535)) fun t16 =>
 A0 PR (binOp .add 112 t14 t16) fun t17 =>
 C7 PR X (Instr.storeAt 112 t3 t17) <|
 L2) fun J3 =>
 A6 PR (Instr.loadAt 112 t3) fun t11 =>
 A0 PR (binOp .leq 112 t11 (.int .u64 65535)) fun t12 =>
 C9 t12 (
 J1) (
 J3)) ) fun J4 =>
 C6 PR X 65 [t0] fun t6 =>
 rng (N := 1) PR X (fun t7 K5 =>
 bgn <|
 A6 PR (Instr.loadAt 112 t3) fun t8 =>
 A0 PR (binOp .add 112 t8 t7) fun t10 =>
 C7 PR (fun _ => False) (Instr.storeAt 112 t3 t10) <|
 K5 none) t6 (fun j => match j with | none => (J4) | some (.exit i) => (match Nat.beq i 0 with | true => (J4) | false => (E0)) | some .ret => (unw (R (.int .i64 0))) | some _ => E0)
theorem A25 : B1 PR 58 := A9 Try.func58 (by kernel_rfl) rfl
theorem A8D {X : Nat → Prop} {t0 : Value} {R : Value → WP} {w : World} (h : A3g X t0 R w) : Fn PR X 58 #[t0] w R := D3 (args := [t0]) mixed Try.func58 (by kernel_rfl) h
def A2v (X : Nat → Prop) (t0 : Value) (R : Value → WP) : WP :=
 B0 PR X (Instr.box 9 t0) fun t1 =>
 A0 PR (Instr.makeFunc (.func 74) #[] #[t1]) fun t3 =>
 R t3
theorem A6d : B1 PR 65 := A9 Try.func65 (by kernel_rfl) rfl
theorem A7V {X : Nat → Prop} {t0 : Value} {R : Value → WP} {w : World} (h : A2v X t0 R w) : Fn PR X 65 #[t0] w R := D3 (args := [t0]) mixed Try.func65 (by kernel_rfl) h
def A0z (X : Nat → Prop) (t0 t1 : Value) (R : Value → WP) : WP :=
 jn (n := 0) (
 lp (n := 1) (fun L1 t3 =>
 jn (n := 0) (
 jn (n := 0) (
 A0 PR (binOp .add 3 t3 (.int .i64 2)) fun t17 =>
 L1 t17) fun J2 =>
 A6 PR (Instr.loadAt 9 t1) fun t19 =>
 C6 PR X 72 [t19, t3, (.int .i64 2)] fun t21 =>
 A0 PR (Instr.extract t21 0) fun t22 =>
 A0 PR (Instr.extract t21 1) fun t23 =>
 F4 PR X t0 [t22] fun t26 =>
 A0 PR (Op.unary .not t26) fun t27 =>
 C9 t27 (
 R (.tuple #[])) (
 J2)) fun J3 =>
 A6 PR (Instr.loadAt 9 t1) fun t13 =>
 A0 PR (A7 .len #[9] 0 [t13]) fun t14 =>
 A0 PR (binOp .lss 3 t3 t14) fun t15 =>
 C9 t15 (
 J3) (
 R (.tuple #[]))) (.int .i64 0)) fun J4 =>
 A6 PR (Instr.loadAt 9 t1) fun t6 =>
 A0 PR (A7 .len #[9] 0 [t6]) fun t7 =>
 A0 PR (binOp .rem 3 t7 (.int .i64 2)) fun t8 =>
 A0 PR (binOp .eql 3 t8 (.int .i64 1)) fun t9 =>
 C9 t9 (
 A6 PR (Instr.loadAt 9 t1) fun t10 =>
 A0 PR (binOp .add 9 t10 (.string (ByteArray.mk #[0]))) fun t11 =>
 C7 PR X (Instr.storeAt 9 t1 t11) <|
 J4) (
 J4)
theorem A3x : B1 PR 74 := A9 Try.func74 (by kernel_rfl) rfl
theorem A42 {X : Nat → Prop} {t0 t1 : Value} {R : Value → WP} {w : World} (h : A0z X t0 t1 R w) : Fn PR X 74 #[t0, t1] w R := D3 (args := [t0, t1]) mixed Try.func74 (by kernel_rfl) h
theorem A4V {X : Nat → Prop} {t0 t1 : Value} {K : Value → WP} {w : World} (h : Fn PR X 74 #[t0, t1] w K) : A03 PR X 74 [t0, t1] K w := ⟨A3x, h⟩
def A3m (X : Nat → Prop) (t0 : Value) (R : Value → WP) : WP :=
 C6 PR X 58 [t0] fun t4 =>
 A0 PR (binOp .eql 3 t4 (.int .i64 65535)) fun t5 =>
 R t5
theorem A69 : B1 PR 81 := A9 Try.func81 (by kernel_rfl) rfl
theorem A8c {X : Nat → Prop} {t0 : Value} {R : Value → WP} {w : World} (h : A3m X t0 R w) : Fn PR X 81 #[t0] w R := D3 (args := [t0]) mixed Try.func81 (by kernel_rfl) h
end Go.Proofs.Ytlplkjgcfjdinaa
namespace Go.Proofs.Ytlplkjgcfjdinaa
open Go
abbrev B0Y (b : Nat) : Value := .func (.func 74) #[] #[.pointer (some ⟨b, 0, none⟩)]
theorem B18 (w : World) (s : ByteArray) : Fn PR C5 65 #[.string s] w (Rn [] w (fun b v => v = B0Y b) fun b => [.pt b (.cells #[.string s] 9)]) := by
 refine A7V (TW.go (κ := false) (S := []) ?_)
 unfold A2v
 (have zz:=trivial;repeat((first|clear zz|with_reducible first|refine A3 ?_|refine A5 fun _=>?_|refine A4 fun _=>?_);try simp(disch:=first|omega|assumption|((repeat(first|exact A1|exact uH|apply A2|apply uT));first|done|fail)|(simp;first|done|omega|fail))[]))
 rename_i b
 exact A0E b rfl (by simp)
def A6n (s : ByteArray) (i : Nat) : List Value := [.int .u64 (W4 s (2 * i) 2 : Nat)]
def M8 (s : ByteArray) : Nat := (s.size + 1) / 2
def pad (s : ByteArray) : ByteArray := if s.size % 2 = 1 then s ++ ByteArray.mk #[0] else s
theorem B2a (s : ByteArray) : (pad s).size = 2 * M8 s := by
 unfold pad M8; split
 ·rw [ByteArray.size_append, show (ByteArray.mk #[0]).size = 1 from rfl]; omega
 ·omega
theorem A6M (s t : ByteArray) (i : Nat) : D4 (s ++ t) i = if i < s.size then D4 s i else D4 t (i - s.size) := by
 unfold D4
 rw [ByteArray.data_append, Array.getD_eq_getD_getElem?, Array.getElem?_append, Array.getD_eq_getD_getElem?, Array.getD_eq_getD_getElem?]
 simp only [ByteArray.size]
 split <;> rfl
theorem A81 (s : ByteArray) (i : Nat) : D4 (pad s) i = D4 s i := by
 unfold pad; split
 ·rw [A6M]; split
  ·rfl
  ·rename_i h
   have h1 : D4 s i = 0 := by unfold D4; rw [Array.getD_eq_getD_getElem?, Array.getElem?_eq_none (by simp only [ByteArray.size] at h; omega)]; rfl
   rw [h1]; unfold D4
   by_cases h2 : i - s.size = 0
   ·rw [h2]; rfl
   ·rw [Array.getD_eq_getD_getElem?, Array.getElem?_eq_none (by simp; omega)]; rfl
 ·rfl
theorem B28 (s : ByteArray) (a n : Nat) : W4 (pad s) a n = W4 s a n := by
 induction n with
 | zero => rfl
 | succ n ih => simp only [W4, ih, A81]
theorem B2K (b : Nat) (s : ByteArray) (hs : s.size < 2 ^ 60) : A6f (B0Y b) [.pt b (.cells #[.string s] 9)] (fun _ _ => True) ((List.range (M8 s)).map (A6n s)) := by
 refine ⟨_, _, _, rfl, fun l J E hJ hE stJ stE hy w0 h0 => ?_⟩
 refine A4V (A42 (TW.at (κ := true) ?_ (hJ _ _ _ h0).1))
 unfold A0z
 have hp := B2a s
 have hnw : M8 s ≤ s.size := by unfold M8; omega
 have key : ∀ Lp : WP, TW true (B7 [Res.pt b (.cells #[.string s] 9)]) w0 [.pt b (.cells #[.string (pad s)] 9)] Lp → (if s.size % 2 = 1 then TW true (B7 [Res.pt b (.cells #[.string s] 9)]) w0 [.pt b (.cells #[.string (s ++ ByteArray.mk #[0])] 9)] Lp else TW true (B7 [Res.pt b (.cells #[.string s] 9)]) w0 [.pt b (.cells #[.string s] 9)] Lp) := by
  intro Lp h; unfold pad at h; split <;> simp_all
 have hrem : ((s.size : Int).tmod 2 = 1) = (s.size % 2 = 1) := by
  rw [Int.tmod_eq_emod_of_nonneg (by omega)]; exact propext (by omega)
 have hadd : s.size + (ByteArray.mk #[0]).size ≤ 9223372036854775807 := by rw [show (ByteArray.mk #[0]).size = 1 from rfl]; omega
 (have zz:=trivial;repeat((first|clear zz|with_reducible first|refine A3 ?_|refine A5 fun _=>?_|refine A4 fun _=>?_);try simp(disch:=first|omega|assumption|((repeat(first|exact A1|exact uH|apply A2|apply uT));first|done|fail)|(simp;first|done|omega|fail))[B4s, N8, hrem]))
 refine key _ ?_
 clear key
 refine B2f (fun i => i) (fun _ => [.pt b (.cells #[.string (pad s)] 9)]) (fun i => i ≤ M8 s) (fun i => M8 s - i) (fun i : Nat => .int .i64 (2 * (i : Int))) 0 hJ stJ h0 (Nat.zero_le _) fun i a hi hJi _ L hL => ?_
 by_cases hlt : i < M8 s
 ·have h2 : 2 * (i : Int) < (pad s).size := by omega
  (have zz:=trivial;repeat((first|clear zz|with_reducible first|refine A3 ?_|refine A5 fun _=>?_|refine A4 fun _=>?_);try simp(disch:=first|omega|assumption|((repeat(first|exact A1|exact uH|apply A2|apply uT));first|done|fail)|(simp;first|done|omega|fail))[h2]))
  refine C8 K1 (fun w' _ => s5 w' (pad s) (by omega) _ _) ?_
  have hg : p6 (pad s) (2 * (i : Int)) 2 = true := by simp only [p6, decide_eq_true_eq]; omega
  have hv : A00 (pad s) (2 * (i : Int)) 2 = (W4 s (2 * i) 2 : Nat) := by
   unfold A00; rw [if_pos hg, B28]; congr 2
  rw [hv, hg]
  (have zz:=trivial;repeat((first|clear zz|with_reducible first|refine A3 ?_|refine A5 fun _=>?_|refine A4 fun _=>?_);try simp(disch:=first|omega|assumption|((repeat(first|exact A1|exact uH|apply A2|apply uT));first|done|fail)|(simp;first|done|omega|fail))[]))
  refine A89 hJ hE stJ hy hJi (by simpa using hlt) (by simp [A6n]) (fun w3 h => ?_) (fun w3 h => ?_)
  ·(have zz:=trivial;repeat((first|clear zz|with_reducible first|refine A3 ?_|refine A5 fun _=>?_|refine A4 fun _=>?_);try simp(disch:=first|omega|assumption|((repeat(first|exact A1|exact uH|apply A2|apply uT));first|done|fail)|(simp;first|done|omega|fail))[]))
   intro w' hw'
   have := hL (i + 1) w' hlt (by omega) (stJ _ _ _ _ _ h hw')
   simpa [Int.mul_add] using this
  ·(have zz:=trivial;repeat((first|clear zz|with_reducible first|refine A3 ?_|refine A5 fun _=>?_|refine A4 fun _=>?_);try simp(disch:=first|omega|assumption|((repeat(first|exact A1|exact uH|apply A2|apply uT));first|done|fail)|(simp;first|done|omega|fail))[]))
   exact A6v stE h
 ·have h2 : ¬ 2 * (i : Int) < (pad s).size := by omega
  obtain rfl : i = M8 s := by omega
  (have zz:=trivial;repeat((first|clear zz|with_reducible first|refine A3 ?_|refine A5 fun _=>?_|refine A4 fun _=>?_);try simp(disch:=first|omega|assumption|((repeat(first|exact A1|exact uH|apply A2|apply uT));first|done|fail)|(simp;first|done|omega|fail))[h2]))
  exact A70 stJ (by simpa using hJi)
def A1y (s : ByteArray) : Nat → Nat
 | 0 => 0
 | i + 1 => A1y s i + W4 s (2 * i) 2
def fld (n : Nat) : Nat := if n = 0 then 0 else (n - 1) % 65535 + 1
def d3 (s : ByteArray) : Nat := fld (A1y s (M8 s))
theorem B1w (n : Nat) : fld (n / 65536 + n % 65536) = fld n := by
 unfold fld
 have h := Nat.div_add_mod n 65536
 by_cases h0 : n = 0
 ·subst h0; rfl
 ·rw [if_neg (by omega), if_neg h0]; omega
theorem B0l {n : Nat} (h : n ≤ 65535) : fld n = n := by unfold fld; split <;> omega
theorem B0V (n : Nat) : fld n ≤ 65535 := by unfold fld; split <;> omega
theorem A8g (s : ByteArray) (i : Nat) : A1y s i ≤ i * 65535 := by
 induction i with
 | zero => simp [A1y]
 | succ i ih => have := A24 s (2 * i) 2; simp only [A1y]; omega
theorem B2E (n : Nat) (h : n < 2 ^ 64) : IntKind.u64.wrap ((n % 2 ^ IntKind.u64.bits &&& 65535 % 2 ^ IntKind.u64.bits : Nat) : Int) = ((n % 65536 : Nat) : Int) := by
 rw [show (2 : Nat) ^ IntKind.u64.bits = 2 ^ 64 from rfl, Nat.mod_eq_of_lt h, show 65535 % 2 ^ 64 = 2 ^ 16 - 1 from rfl, Nat.and_two_pow_sub_one_eq_mod]
 exact y0 (by omega) (by omega)
theorem A8s (w : World) (s : ByteArray) (hs : s.size < 2 ^ 40) : Fn PR C5 58 #[.string s] w (fun v w' => v = .int .i64 (d3 s : Nat) ∧ B6 [] w w') := by
 refine Fn.pure (A8D (TW.go (κ := false) (S := []) ?_))
 unfold A3g
 (have zz:=trivial;repeat((first|clear zz|with_reducible first|refine A3 ?_|refine A5 fun _=>?_|refine A4 fun _=>?_);try simp(disch:=first|omega|assumption|((repeat(first|exact A1|exact uH|apply A2|apply uT));first|done|fail)|(simp;first|done|omega|fail))[]))
 rename_i bn
 refine K7 A6d (fun w' _ => B18 w' s) ?_
 rintro b v rfl
 have hnw : M8 s ≤ 2 ^ 39 := by unfold M8; omega
 refine A6g (B2K b s (by omega)) (by simp [A6n]) (fun _ (_ : Unit) => True) (fun i _ => [.pt bn (.cells #[.int .u64 ((A1y s i : Nat) : Int)] 112)]) (fun _ (_ : Unit) => False) (fun _ => []) () trivial ?_ ?_ ?_ ?_
 ·intros; trivial
 ·rintro i hi _ F _ K' hK _
  have hi' : i < M8 s := by simpa using hi
  have h1 := A8g s i
  have h2 := A24 s (2 * i) 2
  simp only [List.getElem_map, List.getElem_range, A6n, VF.app]
  (have zz:=trivial;repeat((first|clear zz|with_reducible first|refine A3 ?_|refine A5 fun _=>?_|refine A4 fun _=>?_);try simp(disch:=first|omega|assumption|((repeat(first|exact A1|exact uH|apply A2|apply uT));first|done|fail)|(simp;first|done|omega|fail))[]))
  refine TW.eqH ?_ (hK () trivial)
  simp [A1y]
 ·rintro _ _
  (have zz:=trivial;repeat((first|clear zz|with_reducible first|refine A3 ?_|refine A5 fun _=>?_|refine A4 fun _=>?_);try simp(disch:=first|omega|assumption|((repeat(first|exact A1|exact uH|apply A2|apply uT));first|done|fail)|(simp;first|done|omega|fail))[]))
  refine B4w (fun n : Nat => [.pt bn (.cells #[.int .u64 (n : Int)] 112)]) (fun n => fld n = d3 s ∧ n < 2 ^ 63) (fun n => n) _ ⟨by simp [d3], by have := A8g s (M8 s); simp; omega⟩ ?_
  rintro n ⟨h1, h2⟩ L hL
  by_cases h3 : n ≤ 65535
  ·have h4 : (n : Int) ≤ 65535 := by omega
   (have zz:=trivial;repeat((first|clear zz|with_reducible first|refine A3 ?_|refine A5 fun _=>?_|refine A4 fun _=>?_);try simp(disch:=first|omega|assumption|((repeat(first|exact A1|exact uH|apply A2|apply uT));first|done|fail)|(simp;first|done|omega|fail))[h4]))
   rw [B0l h3] at h1
   exact A8 (by rw [h1])
  ·have h4 : ¬ (n : Int) ≤ 65535 := by omega
   have e1 : (n : Int).fdiv (2 ^ min 16 IntKind.u64.bits) = (n / 65536 : Nat) := by rw [show (2 : Int) ^ min 16 IntKind.u64.bits = 65536 from rfl, Int.fdiv_eq_ediv_of_nonneg _ (by omega)]; omega
   (have zz:=trivial;repeat((first|clear zz|with_reducible first|refine A3 ?_|refine A5 fun _=>?_|refine A4 fun _=>?_);try simp(disch:=first|omega|assumption|((repeat(first|exact A1|exact uH|apply A2|apply uT));first|done|fail)|(simp;first|done|omega|fail))[h4]))
   refine TW.eqH ?_ (hL (n / 65536 + n % 65536) ⟨by rw [B1w]; exact h1, by omega⟩ (by omega))
   rw [e1, B2E n (by omega), y0 (by omega) (by omega)]; simp
 ·rintro _ _ h; exact h.elim
def A5s (s : ByteArray) : Int := 65535 - d3 s
theorem B4N (w : World) (s : ByteArray) (hs : s.size < 2 ^ 40) : Fn PR C5 48 #[.string s] w (fun v w' => v = .int .i64 (A5s s) ∧ B6 [] w w') := by
 refine Fn.pure (A9B (TW.go (κ := false) (S := []) ?_))
 unfold A45
 refine C8 A25 (fun w' _ => A8s w' s hs) ?_
 have := B0V (A1y s (M8 s))
 have h2 : ((d3 s : Nat) : Int) ≤ 65535 := by unfold d3; omega
 (have zz:=trivial;repeat((first|clear zz|with_reducible first|refine A3 ?_|refine A5 fun _=>?_|refine A4 fun _=>?_);try simp(disch:=first|omega|assumption|((repeat(first|exact A1|exact uH|apply A2|apply uT));first|done|fail)|(simp;first|done|omega|fail))[]))
 exact A8 rfl
theorem B3b (w : World) (s : ByteArray) (hs : s.size < 2 ^ 40) : Fn PR C5 81 #[.string s] w (fun v w' => v = .bool (decide (d3 s = 65535)) ∧ B6 [] w w') := by
 refine Fn.pure (A8c (TW.go (κ := false) (S := []) ?_))
 unfold A3m
 refine C8 A25 (fun w' _ => A8s w' s hs) ?_
 (have zz:=trivial;repeat((first|clear zz|with_reducible first|refine A3 ?_|refine A5 fun _=>?_|refine A4 fun _=>?_);try simp(disch:=first|omega|assumption|((repeat(first|exact A1|exact uH|apply A2|apply uT));first|done|fail)|(simp;first|done|omega|fail))[]))
 exact A8 (by simp; omega)
end Go.Proofs.Ytlplkjgcfjdinaa
namespace Go.Proofs.Ytlplkjgcfjdinaa
open Go
def gv (s : ByteArray) (a n : Nat) : Nat := if a + n ≤ s.size then W4 s a n else 0
theorem A1J (s : ByteArray) (a n : Nat) (h1 : 1 ≤ n) (h8 : n ≤ 8) : A00 s a n = gv s a n := by
 unfold A00 gv
 by_cases h : a + n ≤ s.size
 ·rw [if_pos (by simp only [p6, decide_eq_true_eq]; omega), if_pos h]; simp
 ·rw [if_neg (by simp only [p6, decide_eq_true_eq]; omega), if_neg h]; rfl
theorem A4g (s : ByteArray) (a : Nat) : gv s a 1 < 256 := by
 unfold gv; split
 ·exact A24 s a 1
 ·omega
theorem A1Z (s : ByteArray) (a : Nat) : gv s a 2 < 65536 := by
 unfold gv; split
 ·exact A24 s a 2
 ·omega
theorem A0K (w : World) (s : ByteArray) (hs : s.size < 2 ^ 40) (b a n : Nat) (h1 : 1 ≤ n) (h2 : n ≤ 2) (hc : w.cell? ⟨b, 0, none⟩ = some (.string s)) :
  Fn PR C5 75 #[.int .i64 (a : Int), .int .i64 (n : Int), .pointer (some ⟨b, 0, none⟩)] w (fun v w' => v = .int .i64 (gv s a n : Nat) ∧ B6 [] w w') := by
 refine Fn.pure (A4N (TW.go (κ := false) (S := []) ?_))
 unfold A0b
 (have zz:=trivial;repeat((first|clear zz|with_reducible first|refine A3 ?_|refine A5 fun _=>?_|refine A4 fun _=>?_|refine B8 fun _=>?_|refine B9 (hK:=fun _=>?_)|refine B4 (hK:=fun _=>?_)|refine C0 (hK:=fun _=>?_)|refine C3 (hK:=fun _=>?_)|refine C4 (hK:=fun _=>?_));try simp(disch:=first|omega|assumption|((repeat(first|exact A1|exact uH|apply A2|apply uT));first|done|fail)|(simp;first|done|omega|fail))[hc]))
 refine C8 K1 (fun w' _ => s5 w' s (by omega) _ _) ?_
 rw [A1J s a n h1 (by omega)]
 have hlt : gv s a n < 65536 := by
  obtain rfl | rfl : n = 1 ∨ n = 2 := by omega
  ·have := A4g s a; omega
  ·exact A1Z s a
 (have zz:=trivial;repeat((first|clear zz|with_reducible first|refine A3 ?_|refine A5 fun _=>?_|refine A4 fun _=>?_|refine B8 fun _=>?_|refine B9 (hK:=fun _=>?_)|refine B4 (hK:=fun _=>?_)|refine C0 (hK:=fun _=>?_)|refine C3 (hK:=fun _=>?_)|refine C4 (hK:=fun _=>?_));try simp(disch:=first|omega|assumption|((repeat(first|exact A1|exact uH|apply A2|apply uT));first|done|fail)|(simp;first|done|omega|fail))[]))
 exact A8 rfl
theorem B3k (w : World) (s : ByteArray) (hs : s.size < 2 ^ 40) (b : Nat) (hc : w.cell? ⟨b, 0, none⟩ = some (.string s)) :
  Fn PR C5 75 #[.int .i64 0, .int .i64 1, .pointer (some ⟨b, 0, none⟩)] w (fun v w' => v = .int .i64 (gv s 0 1 : Nat) ∧ B6 [] w w') := A0K w s hs b 0 1 (by omega) (by omega) hc
theorem B3Q (w : World) (s : ByteArray) (hs : s.size < 2 ^ 40) (b : Nat) (hc : w.cell? ⟨b, 0, none⟩ = some (.string s)) :
  Fn PR C5 75 #[.int .i64 2, .int .i64 2, .pointer (some ⟨b, 0, none⟩)] w (fun v w' => v = .int .i64 (gv s 2 2 : Nat) ∧ B6 [] w w') := A0K w s hs b 2 2 (by omega) (by omega) hc
theorem B20 (w : World) (s : ByteArray) (hs : s.size < 2 ^ 40) (b : Nat) (hc : w.cell? ⟨b, 0, none⟩ = some (.string s)) :
  Fn PR C5 75 #[.int .i64 9, .int .i64 1, .pointer (some ⟨b, 0, none⟩)] w (fun v w' => v = .int .i64 (gv s 9 1 : Nat) ∧ B6 [] w w') := A0K w s hs b 9 1 (by omega) (by omega) hc
def A6k (x : Value × Int × Bool) : List Value := [x.1, .int .i64 x.2.1]
def z8 (l : List (Value × Int × Bool)) : Int := match l.find? (·.2.2) with | some x => x.2.1 | none => 0
theorem A8C {l : List (Value × Int × Bool)} (h : ∀ i (hi : i < l.length), l[i].2.2 = false) : z8 l = 0 := by
 have : l.find? (·.2.2) = none := by
  rw [List.find?_eq_none]; intro x hx; obtain ⟨i, hi, rfl⟩ := List.getElem_of_mem hx; simp [h i hi]
 simp [z8, this]
theorem A8V {l : List (Value × Int × Bool)} {i : Nat} (hi : i < l.length) (hp : l[i].2.2 = true) (h : ∀ j (hj : j < i), (l[j]'(by omega)).2.2 = false) : z8 l = l[i].2.1 := by
 have : l.find? (·.2.2) = some l[i] := by
  rw [List.find?_eq_some_iff_getElem]
  exact ⟨hp, i, hi, rfl, fun j hj => by simp [h j hj]⟩
 simp [z8, this]
theorem B1p (w : World) (v : Value) (l : List (Value × Int × Bool)) (hl : l.length < 1000) (hv : F1 w v l.length (l.flatMap A6k))
  (hg : ∀ i (hi : i < l.length), (∀ j (hj : j < i), (l[j]'(by omega)).2.2 = false) → ∃ f cap, l[i].1 = .func (.func f) #[] cap ∧ B1 PR f ∧ ∀ w', KS false [] w w' → Fn PR C5 f cap w' (fun v w'' => v = .bool l[i].2.2 ∧ B6 [] w' w'')) :
  Fn PR C5 76 #[v] w (fun u w' => u = .int .i64 (z8 l) ∧ B6 [] w w') := by
 refine Fn.pure (A6p (TW.go (κ := false) (S := []) ?_))
 unfold A28
 obtain ⟨a, c, rfl, hrow⟩ := hv.form
 (have zz:=trivial;repeat((first|clear zz|with_reducible first|refine A3 ?_|refine A5 fun _=>?_|refine A4 fun _=>?_|refine B8 fun _=>?_|refine B9 (hK:=fun _=>?_)|refine B4 (hK:=fun _=>?_)|refine C0 (hK:=fun _=>?_)|refine C3 (hK:=fun _=>?_)|refine C4 (hK:=fun _=>?_));try simp(disch:=first|omega|assumption|((repeat(first|exact A1|exact uH|apply A2|apply uT));first|done|fail)|(simp;first|done|omega|fail))[]))
 refine g8 (α := Unit) l.length (fun _ _ => .int .i64 0) (fun _ _ => []) (fun i _ => ∀ j (hj : j < i), ∀ (h : j < l.length), l[j].2.2 = false) () (by intro j hj; omega) ?_
 rintro i _ hi hpre L hL
 by_cases hlt : i < l.length
 ·obtain ⟨b, o, rfl, hr⟩ := hrow (by omega)
  have hx : l[i]? = some l[i] := List.getElem?_eq_getElem hlt
  have hrn := hr.at (f := A6k) (k := 2) (fun _ => rfl) hx
  have hpre' : ∀ j (hj : j < i), (l[j]'(by omega)).2.2 = false := fun j hj => hpre j hj (by omega)
  obtain ⟨f, cap, he, hent, hcall⟩ := hg i hlt hpre'
  rw [A6k, he] at hrn
  (have zz:=trivial;repeat((first|clear zz|with_reducible first|refine A3 ?_|refine A5 fun _=>?_|refine A4 fun _=>?_|refine B8 fun _=>?_|refine B9 (hK:=fun _=>?_)|refine B4 (hK:=fun _=>?_)|refine C0 (hK:=fun _=>?_)|refine C3 (hK:=fun _=>?_)|refine C4 (hK:=fun _=>?_));try simp(disch:=first|omega|assumption|((repeat(first|exact A1|exact uH|apply A2|apply uT));first|done|fail)|(simp;first|done|omega|fail))[hlt, hrn]))
  refine A74 hent (φ := fun v => v = .bool l[i].2.2) (fun w' hw' => by simpa using hcall w' hw'.ks) ?_
  rintro _ rfl
  cases hb : l[i].2.2 with
  | true =>
   (have zz:=trivial;repeat((first|clear zz|with_reducible first|refine A3 ?_|refine A5 fun _=>?_|refine A4 fun _=>?_|refine B8 fun _=>?_|refine B9 (hK:=fun _=>?_)|refine B4 (hK:=fun _=>?_)|refine C0 (hK:=fun _=>?_)|refine C3 (hK:=fun _=>?_)|refine C4 (hK:=fun _=>?_));try simp(disch:=first|omega|assumption|((repeat(first|exact A1|exact uH|apply A2|apply uT));first|done|fail)|(simp;first|done|omega|fail))[]))
   exact A8 (by rw [A8V hlt hb hpre'])
  | false =>
   (have zz:=trivial;repeat((first|clear zz|with_reducible first|refine A3 ?_|refine A5 fun _=>?_|refine A4 fun _=>?_|refine B8 fun _=>?_|refine B9 (hK:=fun _=>?_)|refine B4 (hK:=fun _=>?_)|refine C0 (hK:=fun _=>?_)|refine C3 (hK:=fun _=>?_)|refine C4 (hK:=fun _=>?_));try simp(disch:=first|omega|assumption|((repeat(first|exact A1|exact uH|apply A2|apply uT));first|done|fail)|(simp;first|done|omega|fail))[]))
   refine Sels.tw .nil (hL hlt () ?_)
   intro j hj h
   by_cases hji : j = i
   ·subst hji; exact hb
   ·exact hpre j (by omega) h
 ·obtain rfl : i = l.length := by omega
  (have zz:=trivial;repeat((first|clear zz|with_reducible first|refine A3 ?_|refine A5 fun _=>?_|refine A4 fun _=>?_|refine B8 fun _=>?_|refine B9 (hK:=fun _=>?_)|refine B4 (hK:=fun _=>?_)|refine C0 (hK:=fun _=>?_)|refine C3 (hK:=fun _=>?_)|refine C4 (hK:=fun _=>?_));try simp(disch:=first|omega|assumption|((repeat(first|exact A1|exact uH|apply A2|apply uT));first|done|fail)|(simp;first|done|omega|fail))[]))
  exact A8 (by rw [A8C fun j hj => hpre j hj hj])
structure HeadV where
 src : ByteArray
 dst : ByteArray
 proto : Nat
 rest : ByteArray
 e : Nat
abbrev G4 : ByteArray := ByteArray.mk #[]
def HeadV.err (e : Nat) : HeadV := ⟨G4, G4, 0, G4, e⟩
def HeadV.val (h : HeadV) : Value := .tuple #[.agg #[.string h.src, .string h.dst, .int .i64 h.proto], .string h.rest, .int .i64 h.e]
def F3 (s : ByteArray) : Nat := gv s 0 1 % 16 * 4
def A4J (s : ByteArray) : Nat := if s.size < 20 then 2 else if gv s 0 1 / 16 ≠ 4 then 3 else if F3 s < 20 ∨ s.size < F3 s ∨ gv s 2 2 < F3 s ∨ s.size < gv s 2 2 then 4
 else if d3 (s.extract 0 (F3 s)) ≠ 65535 then 5 else if gv s 6 2 % 16384 ≠ 0 then 6 else 0
def d7 (s : ByteArray) : HeadV := if A4J s = 0 then ⟨s.extract 12 16, s.extract 16 20, gv s 9 1, s.extract (F3 s) (gv s 2 2), 0⟩ else .err (A4J s)
theorem B5r (n : Nat) (h : n < 256) : IntKind.i64.wrap ((n % 2 ^ IntKind.i64.bits &&& 15 % 2 ^ IntKind.i64.bits : Nat) : Int) = ((n % 16 : Nat) : Int) := by
 rw [show (2 : Nat) ^ IntKind.i64.bits = 2 ^ 64 from rfl, Nat.mod_eq_of_lt (by omega), show 15 % 2 ^ 64 = 2 ^ 4 - 1 from rfl, Nat.and_two_pow_sub_one_eq_mod]
 exact V1 (by omega) (by omega)
theorem B5e (n : Nat) (h : n < 65536) : IntKind.i64.wrap ((n % 2 ^ IntKind.i64.bits &&& 16383 % 2 ^ IntKind.i64.bits : Nat) : Int) = ((n % 16384 : Nat) : Int) := by
 rw [show (2 : Nat) ^ IntKind.i64.bits = 2 ^ 64 from rfl, Nat.mod_eq_of_lt (by omega), show 16383 % 2 ^ 64 = 2 ^ 14 - 1 from rfl, Nat.and_two_pow_sub_one_eq_mod]
 exact V1 (by omega) (by omega)
section
variable (w : World) (s : ByteArray) (hs : s.size < 2 ^ 40) (b1 b5 b6 b7 : Nat) (h1 : w.cell? ⟨b1, 0, none⟩ = some (.string s)) (h5 : w.cell? ⟨b5, 0, none⟩ = some (.func (.func 75) #[] #[.pointer (some ⟨b1, 0, none⟩)]))
 (h6 : w.cell? ⟨b6, 0, none⟩ = some (.int .i64 (F3 s : Nat))) (h7 : w.cell? ⟨b7, 0, none⟩ = some (.int .i64 (gv s 2 2 : Nat)))
include h1
theorem B49 : Fn PR C5 77 #[.pointer (some ⟨b1, 0, none⟩)] w (fun v w' => v = .bool (decide (s.size < 20)) ∧ B6 [] w w') := by
 refine Fn.pure (A4c (TW.go (κ := false) (S := []) ?_))
 unfold A0f
 (have zz:=trivial;repeat((first|clear zz|with_reducible first|refine A3 ?_|refine A5 fun _=>?_|refine A4 fun _=>?_|refine B8 fun _=>?_|refine B9 (hK:=fun _=>?_)|refine B4 (hK:=fun _=>?_)|refine C0 (hK:=fun _=>?_)|refine C3 (hK:=fun _=>?_)|refine C4 (hK:=fun _=>?_));try simp(disch:=first|omega|assumption|((repeat(first|exact A1|exact uH|apply A2|apply uT));first|done|fail)|(simp;first|done|omega|fail))[h1]))
 exact A8 (by simp; omega)
include hs h5
theorem B43 : Fn PR C5 78 #[.pointer (some ⟨b5, 0, none⟩)] w (fun v w' => v = .bool (decide (gv s 0 1 / 16 ≠ 4)) ∧ B6 [] w w') := by
 refine Fn.pure (A4T (TW.go (κ := false) (S := []) ?_))
 unfold A0m
 (have zz:=trivial;repeat((first|clear zz|with_reducible first|refine A3 ?_|refine A5 fun _=>?_|refine A4 fun _=>?_|refine B8 fun _=>?_|refine B9 (hK:=fun _=>?_)|refine B4 (hK:=fun _=>?_)|refine C0 (hK:=fun _=>?_)|refine C3 (hK:=fun _=>?_)|refine C4 (hK:=fun _=>?_));try simp(disch:=first|omega|assumption|((repeat(first|exact A1|exact uH|apply A2|apply uT));first|done|fail)|(simp;first|done|omega|fail))[h1, h5]))
 refine C8 U5 (fun w' hw' => A0K w' s hs b1 0 1 (by omega) (by omega) (hw'.ks.cell (by simp) h1)) ?_
 have e1 : ((gv s 0 1 : Nat) : Int).fdiv (2 ^ min 4 IntKind.i64.bits) = (gv s 0 1 / 16 : Nat) := by rw [show (2 : Int) ^ min 4 IntKind.i64.bits = 16 from rfl, Int.fdiv_eq_ediv_of_nonneg _ (by omega)]; omega
 (have zz:=trivial;repeat((first|clear zz|with_reducible first|refine A3 ?_|refine A5 fun _=>?_|refine A4 fun _=>?_|refine B8 fun _=>?_|refine B9 (hK:=fun _=>?_)|refine B4 (hK:=fun _=>?_)|refine C0 (hK:=fun _=>?_)|refine C3 (hK:=fun _=>?_)|refine C4 (hK:=fun _=>?_));try simp(disch:=first|omega|assumption|((repeat(first|exact A1|exact uH|apply A2|apply uT));first|done|fail)|(simp;first|done|omega|fail))[]))
 rw [e1]
 exact A8 (by simp; omega)
theorem B40 : Fn PR C5 82 #[.pointer (some ⟨b5, 0, none⟩)] w (fun v w' => v = .bool (decide (gv s 6 2 % 16384 ≠ 0)) ∧ B6 [] w w') := by
 refine Fn.pure (A4S (TW.go (κ := false) (S := []) ?_))
 unfold A0w
 (have zz:=trivial;repeat((first|clear zz|with_reducible first|refine A3 ?_|refine A5 fun _=>?_|refine A4 fun _=>?_|refine B8 fun _=>?_|refine B9 (hK:=fun _=>?_)|refine B4 (hK:=fun _=>?_)|refine C0 (hK:=fun _=>?_)|refine C3 (hK:=fun _=>?_)|refine C4 (hK:=fun _=>?_));try simp(disch:=first|omega|assumption|((repeat(first|exact A1|exact uH|apply A2|apply uT));first|done|fail)|(simp;first|done|omega|fail))[h1, h5]))
 refine C8 U5 (fun w' hw' => A0K w' s hs b1 6 2 (by omega) (by omega) (hw'.ks.cell (by simp) h1)) ?_
 have := A1Z s 6
 (have zz:=trivial;repeat((first|clear zz|with_reducible first|refine A3 ?_|refine A5 fun _=>?_|refine A4 fun _=>?_|refine B8 fun _=>?_|refine B9 (hK:=fun _=>?_)|refine B4 (hK:=fun _=>?_)|refine C0 (hK:=fun _=>?_)|refine C3 (hK:=fun _=>?_)|refine C4 (hK:=fun _=>?_));try simp(disch:=first|omega|assumption|((repeat(first|exact A1|exact uH|apply A2|apply uT));first|done|fail)|(simp;first|done|omega|fail))[]))
 rw [B5e _ this]
 exact A8 (by simp; omega)
omit h5
include h6
theorem B5A (hl : F3 s ≤ s.size) : Fn PR C5 80 #[.pointer (some ⟨b1, 0, none⟩), .pointer (some ⟨b6, 0, none⟩)] w (fun v w' => v = .bool (decide (d3 (s.extract 0 (F3 s)) ≠ 65535)) ∧ B6 [] w w') := by
 refine Fn.pure (A4M (TW.go (κ := false) (S := []) ?_))
 unfold A0e
 have hl' : ((F3 s : Nat) : Int) ≤ s.size := by omega
 (have zz:=trivial;repeat((first|clear zz|with_reducible first|refine A3 ?_|refine A5 fun _=>?_|refine A4 fun _=>?_|refine B8 fun _=>?_|refine B9 (hK:=fun _=>?_)|refine B4 (hK:=fun _=>?_)|refine C0 (hK:=fun _=>?_)|refine C3 (hK:=fun _=>?_)|refine C4 (hK:=fun _=>?_));try simp(disch:=first|omega|assumption|((repeat(first|exact A1|exact uH|apply A2|apply uT));first|done|fail)|(simp;first|done|omega|fail))[h1, h6]))
 refine C8 A69 (fun w' hw' => B3b w' _ (by simp [ByteArray.size_extract]; omega)) ?_
 (have zz:=trivial;repeat((first|clear zz|with_reducible first|refine A3 ?_|refine A5 fun _=>?_|refine A4 fun _=>?_|refine B8 fun _=>?_|refine B9 (hK:=fun _=>?_)|refine B4 (hK:=fun _=>?_)|refine C0 (hK:=fun _=>?_)|refine C3 (hK:=fun _=>?_)|refine C4 (hK:=fun _=>?_));try simp(disch:=first|omega|assumption|((repeat(first|exact A1|exact uH|apply A2|apply uT));first|done|fail)|(simp;first|done|omega|fail))[]))
 exact A8 (by simp)
include h7
theorem B5L : Fn PR C5 79 #[.pointer (some ⟨b6, 0, none⟩), .pointer (some ⟨b1, 0, none⟩), .pointer (some ⟨b7, 0, none⟩)] w
  (fun v w' => v = .bool (decide (F3 s < 20 ∨ s.size < F3 s ∨ gv s 2 2 < F3 s ∨ s.size < gv s 2 2)) ∧ B6 [] w w') := by
 have hs_ := hs
 refine Fn.pure (A43 (TW.go (κ := false) (S := []) ?_))
 unfold A0g
 by_cases g1 : F3 s < 20
 ·have g1' : ((F3 s : Nat) : Int) < 20 := by omega
  (have zz:=trivial;repeat((first|clear zz|with_reducible first|refine A3 ?_|refine A5 fun _=>?_|refine A4 fun _=>?_|refine B8 fun _=>?_|refine B9 (hK:=fun _=>?_)|refine B4 (hK:=fun _=>?_)|refine C0 (hK:=fun _=>?_)|refine C3 (hK:=fun _=>?_)|refine C4 (hK:=fun _=>?_));try simp(disch:=first|omega|assumption|((repeat(first|exact A1|exact uH|apply A2|apply uT));first|done|fail)|(simp;first|done|omega|fail))[h1, h6, h7, g1, g1']))
  exact A8 (by simp [g1])
 have g1' : ¬ ((F3 s : Nat) : Int) < 20 := by omega
 by_cases g2 : s.size < F3 s
 ·have g2' : ((s.size : Nat) : Int) < F3 s := by omega
  (have zz:=trivial;repeat((first|clear zz|with_reducible first|refine A3 ?_|refine A5 fun _=>?_|refine A4 fun _=>?_|refine B8 fun _=>?_|refine B9 (hK:=fun _=>?_)|refine B4 (hK:=fun _=>?_)|refine C0 (hK:=fun _=>?_)|refine C3 (hK:=fun _=>?_)|refine C4 (hK:=fun _=>?_));try simp(disch:=first|omega|assumption|((repeat(first|exact A1|exact uH|apply A2|apply uT));first|done|fail)|(simp;first|done|omega|fail))[h1, h6, h7, g1, g1', g2, g2']))
  exact A8 (by simp [g2])
 have g2' : ¬ ((s.size : Nat) : Int) < F3 s := by omega
 by_cases g3 : gv s 2 2 < F3 s
 ·have g3' : ((gv s 2 2 : Nat) : Int) < F3 s := by omega
  (have zz:=trivial;repeat((first|clear zz|with_reducible first|refine A3 ?_|refine A5 fun _=>?_|refine A4 fun _=>?_|refine B8 fun _=>?_|refine B9 (hK:=fun _=>?_)|refine B4 (hK:=fun _=>?_)|refine C0 (hK:=fun _=>?_)|refine C3 (hK:=fun _=>?_)|refine C4 (hK:=fun _=>?_));try simp(disch:=first|omega|assumption|((repeat(first|exact A1|exact uH|apply A2|apply uT));first|done|fail)|(simp;first|done|omega|fail))[h1, h6, h7, g1, g1', g2, g2', g3, g3']))
  exact A8 (by simp [g3])
 have g3' : ¬ ((gv s 2 2 : Nat) : Int) < F3 s := by omega
 (have zz:=trivial;repeat((first|clear zz|with_reducible first|refine A3 ?_|refine A5 fun _=>?_|refine A4 fun _=>?_|refine B8 fun _=>?_|refine B9 (hK:=fun _=>?_)|refine B4 (hK:=fun _=>?_)|refine C0 (hK:=fun _=>?_)|refine C3 (hK:=fun _=>?_)|refine C4 (hK:=fun _=>?_));try simp(disch:=first|omega|assumption|((repeat(first|exact A1|exact uH|apply A2|apply uT));first|done|fail)|(simp;first|done|omega|fail))[h1, h6, h7, g1, g1', g2, g2', g3, g3']))
 exact A8 (by simp [g1, g2, g3])
end
theorem A8P (w : World) (s : ByteArray) (hs : s.size < 2 ^ 40) : Fn PR C5 67 #[.string s] w (fun v w' => v = (d7 s).val ∧ B6 [] w w') := by
 refine Fn.pure (A60 (TW.go (κ := false) (S := []) ?_))
 unfold A2p
 (have zz:=trivial;repeat((first|clear zz|with_reducible first|refine A3 ?_|refine A5 fun _=>?_|refine A4 fun _=>?_|refine B8 fun _=>?_|refine B9 (hK:=fun _=>?_)|refine B4 (hK:=fun _=>?_)|refine C0 (hK:=fun _=>?_)|refine C3 (hK:=fun _=>?_)|refine C4 (hK:=fun _=>?_));try simp(disch:=first|omega|assumption|((repeat(first|exact A1|exact uH|apply A2|apply uT));first|done|fail)|(simp;first|done|omega|fail))[]))
 rename_i b1 b2 b5
 refine B5Z (α := Nat × Nat) (fun _ => True) (fun x => [.pt x.1 (.cells #[.int .i64 (F3 s : Nat)] 3), .pt x.2 (.cells #[.int .i64 (gv s 2 2 : Nat)] 3),
  .pt b5 (.cells #[.func (.func 75) #[] #[.pointer (some ⟨b1, 0, none⟩)]] 73), .pt b2 (.cells #[.string G4, .string G4, .int .i64 0] 81), .pt b1 (.cells #[.string s] 9)])
  (fun x => .pointer (some ⟨x.1, 0, none⟩)) (fun x => .pointer (some ⟨x.2, 0, none⟩)) ?_ ?_
 ·rintro ⟨b6, b7⟩ _
  simp only
  (have zz:=trivial;repeat((first|clear zz|with_reducible first|refine A3 ?_|refine A5 fun _=>?_|refine A4 fun _=>?_|refine B8 fun _=>?_|refine B9 (hK:=fun _=>?_)|refine B4 (hK:=fun _=>?_)|refine C0 (hK:=fun _=>?_)|refine C3 (hK:=fun _=>?_)|refine C4 (hK:=fun _=>?_));try simp(disch:=first|omega|assumption|((repeat(first|exact A1|exact uH|apply A2|apply uT));first|done|fail)|(simp;first|done|omega|fail))[]))
  rename_i bl
  refine C8 (u := .int .i64 (A4J s : Nat)) A6L (fun w' hw' => ?_) ?_
  ·have h1 := hw'.cell1 (b := b1) (by (repeat constructor))
   have h5 := hw'.cell1 (b := b5) (by (repeat constructor))
   have h6 := hw'.cell1 (b := b6) (by (repeat constructor))
   have h7 := hw'.cell1 (b := b7) (by (repeat constructor))
   have hk : ∀ {w2 : World} {b : Nat} {v : Value}, KS false [] w' w2 → w'.cell? ⟨b, 0, none⟩ = some v → w2.cell? ⟨b, 0, none⟩ = some v := fun h e => h.cell (by simp) e
   have hE : z8 [(.func (.func 77) #[] #[.pointer (some ⟨b1, 0, none⟩)], 2, decide (s.size < 20)), (.func (.func 78) #[] #[.pointer (some ⟨b5, 0, none⟩)], 3, decide (gv s 0 1 / 16 ≠ 4)),
    (.func (.func 79) #[] #[.pointer (some ⟨b6, 0, none⟩), .pointer (some ⟨b1, 0, none⟩), .pointer (some ⟨b7, 0, none⟩)], 4, decide (F3 s < 20 ∨ s.size < F3 s ∨ gv s 2 2 < F3 s ∨ s.size < gv s 2 2)),
    (.func (.func 80) #[] #[.pointer (some ⟨b1, 0, none⟩), .pointer (some ⟨b6, 0, none⟩)], 5, decide (d3 (s.extract 0 (F3 s)) ≠ 65535)), (.func (.func 82) #[] #[.pointer (some ⟨b5, 0, none⟩)], 6, decide (gv s 6 2 % 16384 ≠ 0))] = (A4J s : Nat) := by
    unfold z8 A4J
    by_cases c1 : s.size < 20
    ·simp [c1]
    by_cases c2 : gv s 0 1 / 16 ≠ 4
    ·simp [c1, c2]
    by_cases c3 : F3 s < 20 ∨ s.size < F3 s ∨ gv s 2 2 < F3 s ∨ s.size < gv s 2 2
    ·simp [c1, c2, c3]
    by_cases c4 : d3 (s.extract 0 (F3 s)) ≠ 65535
    ·simp [c1, c2, c3, c4]
    by_cases c5 : gv s 6 2 % 16384 ≠ 0
    ·simp [c1, c2, c3, c4, c5]
    ·simp [c1, c2, c3, c4, c5]
   rw [← hE]
   refine B1p w' _ _ (by simp) ?_ ?_
   ·have := M5.own (κ := false) (S := []) (w0 := w) (e := 161) (k := 2) (q := 5) (v := .slice (some ⟨bl, 0, none⟩) 5 5) (by (repeat constructor)) w' hw'
    simpa [A6k] using this
   ·intro i hi hpre
    have hi' : i = 0 ∨ i = 1 ∨ i = 2 ∨ i = 3 ∨ i = 4 := by simp at hi; omega
    rcases hi' with rfl | rfl | rfl | rfl | rfl
    ·exact ⟨_, _, rfl, A38, fun w2 h => B49 w2 s b1 (hk h h1)⟩
    ·exact ⟨_, _, rfl, A34, fun w2 h => B43 w2 s hs b1 b5 (hk h h1) (hk h h5)⟩
    ·exact ⟨_, _, rfl, A3v, fun w2 h => B5L w2 s hs b1 b6 b7 (hk h h1) (hk h h6) (hk h h7)⟩
    ·have h2 := hpre 2 (by omega)
     simp only [List.getElem_cons_succ, List.getElem_cons_zero, decide_eq_false_iff_not] at h2
     exact ⟨_, _, rfl, A4K, fun w2 h => B5A w2 s hs b1 b6 (hk h h1) (hk h h6) (by omega)⟩
    ·exact ⟨_, _, rfl, A36, fun w2 h => B40 w2 s hs b1 b5 (hk h h1) (hk h h5)⟩
  ·by_cases he : A4J s = 0
   ·have hE := he
    unfold A4J at hE
    by_cases c1 : s.size < 20
    ·simp [c1] at hE
    by_cases c2 : gv s 0 1 / 16 ≠ 4
    ·simp [c1, c2] at hE
    by_cases c3 : F3 s < 20 ∨ s.size < F3 s ∨ gv s 2 2 < F3 s ∨ s.size < gv s 2 2
    ·simp [c1, c2, c3] at hE
    clear hE
    have hg91 := A4g s 9
    (have zz:=trivial;repeat((first|clear zz|with_reducible first|refine A3 ?_|refine A5 fun _=>?_|refine A4 fun _=>?_|refine B8 fun _=>?_|refine B9 (hK:=fun _=>?_)|refine B4 (hK:=fun _=>?_)|refine C0 (hK:=fun _=>?_)|refine C3 (hK:=fun _=>?_)|refine C4 (hK:=fun _=>?_));try simp(disch:=first|omega|assumption|((repeat(first|exact A1|exact uH|apply A2|apply uT));first|done|fail)|(simp;first|done|omega|fail))[he]))
    refine C8 U5 (fun w' hw' => B20 w' s hs b1 (hw'.cell1 (by (repeat constructor)))) ?_
    (have zz:=trivial;repeat((first|clear zz|with_reducible first|refine A3 ?_|refine A5 fun _=>?_|refine A4 fun _=>?_|refine B8 fun _=>?_|refine B9 (hK:=fun _=>?_)|refine B4 (hK:=fun _=>?_)|refine C0 (hK:=fun _=>?_)|refine C3 (hK:=fun _=>?_)|refine C4 (hK:=fun _=>?_));try simp(disch:=first|omega|assumption|((repeat(first|exact A1|exact uH|apply A2|apply uT));first|done|fail)|(simp;first|done|omega|fail))[]))
    exact A8 (by simp [d7, he, HeadV.val])
   ·(have zz:=trivial;repeat((first|clear zz|with_reducible first|refine A3 ?_|refine A5 fun _=>?_|refine A4 fun _=>?_|refine B8 fun _=>?_|refine B9 (hK:=fun _=>?_)|refine B4 (hK:=fun _=>?_)|refine C0 (hK:=fun _=>?_)|refine C3 (hK:=fun _=>?_)|refine C4 (hK:=fun _=>?_));try simp(disch:=first|omega|assumption|((repeat(first|exact A1|exact uH|apply A2|apply uT));first|done|fail)|(simp;first|done|omega|fail))[he]))
    exact A8 (by simp [d7, he, HeadV.val, HeadV.err])
 ·intro J hJ
  have hl := A4g s 0
  have e15 := B5r _ hl
  have em : ((gv s 0 1 : Nat) : Int) % 16 * 4 = (F3 s : Nat) := by simp [F3]
  have hJ' := fun b6 b7 => hJ (b6, b7) trivial
  simp only at hJ'
  clear hJ
  iterate 16 all_goals (try (first
   | exact fun _ _ => trivial
   | with_reducible refine And.intro ?_ ?_
   | (with_reducible apply C8 U5); (first | with_reducible exact fun w' hw' => B3k w' s hs b1 (hw'.cell1 (by ((repeat (first | exact A1 | exact Up.here | exact Sel.here | apply A2 | apply Up.there | apply Sel.there)); first | done | fail))) | with_reducible exact fun w' hw' => B3Q w' s hs b1 (hw'.cell1 (by ((repeat (first | exact A1 | exact Up.here | exact Sel.here | apply A2 | apply Up.there | apply Sel.there)); first | done | fail))))
   | with_reducible refine A4 fun _ => ?_
   | simp(disch:=first|omega|assumption|((repeat(first|exact A1|exact uH|apply A2|apply uT));first|done|fail)|(simp;first|done|omega|fail))[e15, em]
   | with_reducible exact Sels.tw (by ((repeat (first | exact Sels.nil | (apply Sels.cons; · ((repeat (first | exact A1 | exact Up.here | exact Sel.here | apply A2 | apply Up.there | apply Sel.there)); first | done | fail)))); first | done | fail)) (hJ' _ _)))
  all_goals trace_state
def A11 (src dst : ByteArray) (proto : Int) (n : Nat) (own : Int) : ByteArray :=
 ByteArray.mk #[69, 0] ++ D8 (20 + n) 2 ++ ByteArray.mk #[0, 0, 64, 0, 64] ++ D8 proto 1 ++ D8 own 2 ++ src ++ dst
theorem A9Z (w : World) (src dst rest : ByteArray) (proto own : Int) (b1 b2 : Nat) (h1 : w.cell? ⟨b1, 0, none⟩ = some (.string rest)) (h2 : w.cell? ⟨b2, 0, none⟩ = some (.string src)) (h3 : w.cell? ⟨b2, 1, none⟩ = some (.string dst))
  (h4 : w.cell? ⟨b2, 2, none⟩ = some (.int .i64 proto)) (hr : rest.size ≤ 65515) (hs : src.size = 4) (hd : dst.size = 4) (hp0 : 0 ≤ proto) (hp : proto ≤ 255) (ho0 : 0 ≤ own) (ho : own ≤ 65535) :
  Fn PR C5 46 #[.int .i64 own, .pointer (some ⟨b1, 0, none⟩), .pointer (some ⟨b2, 0, none⟩)] w (fun v w' => v = .string (A11 src dst proto rest.size own) ∧ B6 [] w w') := by
 refine Fn.pure (A6Q (TW.go (κ := false) (S := []) ?_))
 unfold A2M
 (have zz:=trivial;repeat((first|clear zz|with_reducible first|refine A3 ?_|refine A5 fun _=>?_|refine A4 fun _=>?_|refine B8 fun _=>?_|refine B9 (hK:=fun _=>?_)|refine B4 (hK:=fun _=>?_)|refine C0 (hK:=fun _=>?_)|refine C3 (hK:=fun _=>?_)|refine C4 (hK:=fun _=>?_));try simp(disch:=first|omega|assumption|((repeat(first|exact A1|exact uH|apply A2|apply uT));first|done|fail)|(simp;first|done|omega|fail))[h1, h2, h3, h4]))
 refine C8 E3 (fun w' hw' => U9 w' _ _) ?_
 (have zz:=trivial;repeat((first|clear zz|with_reducible first|refine A3 ?_|refine A5 fun _=>?_|refine A4 fun _=>?_|refine B8 fun _=>?_|refine B9 (hK:=fun _=>?_)|refine B4 (hK:=fun _=>?_)|refine C0 (hK:=fun _=>?_)|refine C3 (hK:=fun _=>?_)|refine C4 (hK:=fun _=>?_));try simp(disch:=first|omega|assumption|((repeat(first|exact A1|exact uH|apply A2|apply uT));first|done|fail)|(simp;first|done|omega|fail))[h1, h2, h3, h4, N8]))
 refine C8 E3 (fun w' hw' => U9 w' _ _) ?_
 (have zz:=trivial;repeat((first|clear zz|with_reducible first|refine A3 ?_|refine A5 fun _=>?_|refine A4 fun _=>?_|refine B8 fun _=>?_|refine B9 (hK:=fun _=>?_)|refine B4 (hK:=fun _=>?_)|refine C0 (hK:=fun _=>?_)|refine C3 (hK:=fun _=>?_)|refine C4 (hK:=fun _=>?_));try simp(disch:=first|omega|assumption|((repeat(first|exact A1|exact uH|apply A2|apply uT));first|done|fail)|(simp;first|done|omega|fail))[h1, h2, h3, h4, N8]))
 refine C8 E3 (fun w' hw' => U9 w' _ _) ?_
 (have zz:=trivial;repeat((first|clear zz|with_reducible first|refine A3 ?_|refine A5 fun _=>?_|refine A4 fun _=>?_|refine B8 fun _=>?_|refine B9 (hK:=fun _=>?_)|refine B4 (hK:=fun _=>?_)|refine C0 (hK:=fun _=>?_)|refine C3 (hK:=fun _=>?_)|refine C4 (hK:=fun _=>?_));try simp(disch:=first|omega|assumption|((repeat(first|exact A1|exact uH|apply A2|apply uT));first|done|fail)|(simp;first|done|omega|fail))[h1, h2, h3, h4, N8, hs, hd]))
 exact A8 rfl
def A2A (src dst rest : ByteArray) (proto : Int) : ByteArray × Nat :=
 if src.size ≠ 4 ∨ dst.size ≠ 4 ∨ proto < 0 ∨ 255 < proto then (G4, 1) else if 65515 < rest.size then (G4, 4) else (A11 src dst proto rest.size (A5s (A11 src dst proto rest.size 0)) ++ rest, 0)
theorem A59 {src dst : ByteArray} {proto own : Int} {n : Nat} (hs : src.size = 4) (hd : dst.size = 4) : (A11 src dst proto n own).size = 20 := by simp [A11, hs, hd]
theorem B3M (s : ByteArray) : 0 ≤ A5s s ∧ A5s s ≤ 65535 := by
 have := B0V (A1y s (M8 s)); unfold A5s d3; omega
theorem B0B (w : World) (src dst rest : ByteArray) (proto : Int) (hrs : rest.size < 2 ^ 40) :
  Fn PR C5 26 #[.agg #[.string src, .string dst, .int .i64 proto], .string rest] w (fun v w' => v = .tuple #[.string (A2A src dst rest proto).1, .int .i64 (A2A src dst rest proto).2] ∧ B6 [] w w') := by
 refine Fn.pure (A85 (TW.go (κ := false) (S := []) ?_))
 unfold A4p
 by_cases c1 : src.size = 4
 case neg =>
  have c1' : ¬ (src.size : Int) = 4 := by omega
  (have zz:=trivial;repeat((first|clear zz|with_reducible first|refine A3 ?_|refine A5 fun _=>?_|refine A4 fun _=>?_|refine B8 fun _=>?_|refine B9 (hK:=fun _=>?_)|refine B4 (hK:=fun _=>?_)|refine C0 (hK:=fun _=>?_)|refine C3 (hK:=fun _=>?_)|refine C4 (hK:=fun _=>?_));try simp(disch:=first|omega|assumption|((repeat(first|exact A1|exact uH|apply A2|apply uT));first|done|fail)|(simp;first|done|omega|fail))[c1'])); exact A8 (by simp [A2A, c1])
 by_cases c2 : dst.size = 4
 case neg =>
  have c2' : ¬ (dst.size : Int) = 4 := by omega
  (have zz:=trivial;repeat((first|clear zz|with_reducible first|refine A3 ?_|refine A5 fun _=>?_|refine A4 fun _=>?_|refine B8 fun _=>?_|refine B9 (hK:=fun _=>?_)|refine B4 (hK:=fun _=>?_)|refine C0 (hK:=fun _=>?_)|refine C3 (hK:=fun _=>?_)|refine C4 (hK:=fun _=>?_));try simp(disch:=first|omega|assumption|((repeat(first|exact A1|exact uH|apply A2|apply uT));first|done|fail)|(simp;first|done|omega|fail))[c1, c2'])); exact A8 (by simp [A2A, c2])
 by_cases c3 : proto < 0
 ·(have zz:=trivial;repeat((first|clear zz|with_reducible first|refine A3 ?_|refine A5 fun _=>?_|refine A4 fun _=>?_|refine B8 fun _=>?_|refine B9 (hK:=fun _=>?_)|refine B4 (hK:=fun _=>?_)|refine C0 (hK:=fun _=>?_)|refine C3 (hK:=fun _=>?_)|refine C4 (hK:=fun _=>?_));try simp(disch:=first|omega|assumption|((repeat(first|exact A1|exact uH|apply A2|apply uT));first|done|fail)|(simp;first|done|omega|fail))[c1, c2, c3])); exact A8 (by simp [A2A, c3])
 by_cases c4 : 255 < proto
 ·(have zz:=trivial;repeat((first|clear zz|with_reducible first|refine A3 ?_|refine A5 fun _=>?_|refine A4 fun _=>?_|refine B8 fun _=>?_|refine B9 (hK:=fun _=>?_)|refine B4 (hK:=fun _=>?_)|refine C0 (hK:=fun _=>?_)|refine C3 (hK:=fun _=>?_)|refine C4 (hK:=fun _=>?_));try simp(disch:=first|omega|assumption|((repeat(first|exact A1|exact uH|apply A2|apply uT));first|done|fail)|(simp;first|done|omega|fail))[c1, c2, c3, c4])); exact A8 (by simp [A2A, c4])
 by_cases c5 : 65515 < rest.size
 ·have c5' : 65515 < (rest.size : Int) := by omega
  (have zz:=trivial;repeat((first|clear zz|with_reducible first|refine A3 ?_|refine A5 fun _=>?_|refine A4 fun _=>?_|refine B8 fun _=>?_|refine B9 (hK:=fun _=>?_)|refine B4 (hK:=fun _=>?_)|refine C0 (hK:=fun _=>?_)|refine C3 (hK:=fun _=>?_)|refine C4 (hK:=fun _=>?_));try simp(disch:=first|omega|assumption|((repeat(first|exact A1|exact uH|apply A2|apply uT));first|done|fail)|(simp;first|done|omega|fail))[c1, c2, c3, c4, c5'])); exact A8 (by simp [A2A, c1, c2, c3, c4, c5])
 have c5' : ¬ 65515 < (rest.size : Int) := by omega
 (have zz:=trivial;repeat((first|clear zz|with_reducible first|refine A3 ?_|refine A5 fun _=>?_|refine A4 fun _=>?_|refine B8 fun _=>?_|refine B9 (hK:=fun _=>?_)|refine B4 (hK:=fun _=>?_)|refine C0 (hK:=fun _=>?_)|refine C3 (hK:=fun _=>?_)|refine C4 (hK:=fun _=>?_));try simp(disch:=first|omega|assumption|((repeat(first|exact A1|exact uH|apply A2|apply uT));first|done|fail)|(simp;first|done|omega|fail))[c1, c2, c3, c4, c5']))
 rename_i bh br
 have key : ∀ w', LW false [] w [.pt br (.cells #[.string rest] 9), .pt bh (.cells #[.string src, .string dst, .int .i64 proto] 81)] w' → ∀ own : Int, 0 ≤ own → own ≤ 65535 → _ :=
  fun w' hw' own h0 h1 => A9Z w' src dst rest proto own br bh (hw'.cell1 (by (repeat constructor))) (hw'.cell (by (repeat constructor)) (by rfl)) (hw'.cell (by (repeat constructor)) (by rfl)) (hw'.cell (by (repeat constructor)) (by rfl)) (by omega) c1 c2 (by omega) (by omega) h0 h1
 refine C8 A1L (fun w' hw' => key w' hw' 0 (by omega) (by omega)) ?_
 (have zz:=trivial;repeat((first|clear zz|with_reducible first|refine A3 ?_|refine A5 fun _=>?_|refine A4 fun _=>?_|refine B8 fun _=>?_|refine B9 (hK:=fun _=>?_)|refine B4 (hK:=fun _=>?_)|refine C0 (hK:=fun _=>?_)|refine C3 (hK:=fun _=>?_)|refine C4 (hK:=fun _=>?_));try simp(disch:=first|omega|assumption|((repeat(first|exact A1|exact uH|apply A2|apply uT));first|done|fail)|(simp;first|done|omega|fail))[]))
 have hz : (A11 src dst proto rest.size 0).size = 20 := A59 c1 c2
 have hv := B3M (A11 src dst proto rest.size 0)
 refine C8 A8b (fun w' hw' => B4N w' _ (by omega)) ?_
 (have zz:=trivial;repeat((first|clear zz|with_reducible first|refine A3 ?_|refine A5 fun _=>?_|refine A4 fun _=>?_|refine B8 fun _=>?_|refine B9 (hK:=fun _=>?_)|refine B4 (hK:=fun _=>?_)|refine C0 (hK:=fun _=>?_)|refine C3 (hK:=fun _=>?_)|refine C4 (hK:=fun _=>?_));try simp(disch:=first|omega|assumption|((repeat(first|exact A1|exact uH|apply A2|apply uT));first|done|fail)|(simp;first|done|omega|fail))[]))
 refine C8 A1L (fun w' hw' => key w' hw' _ hv.1 hv.2) ?_
 have hz2 : (A11 src dst proto rest.size (A5s (A11 src dst proto rest.size 0))).size = 20 := A59 c1 c2
 (have zz:=trivial;repeat((first|clear zz|with_reducible first|refine A3 ?_|refine A5 fun _=>?_|refine A4 fun _=>?_|refine B8 fun _=>?_|refine B9 (hK:=fun _=>?_)|refine B4 (hK:=fun _=>?_)|refine C0 (hK:=fun _=>?_)|refine C3 (hK:=fun _=>?_)|refine C4 (hK:=fun _=>?_));try simp(disch:=first|omega|assumption|((repeat(first|exact A1|exact uH|apply A2|apply uT));first|done|fail)|(simp;first|done|omega|fail))[N8]))
 exact A8 (by simp [A2A, c1, c2, c3, c4, c5])
end Go.Proofs.Ytlplkjgcfjdinaa
namespace Go.Proofs.Ytlplkjgcfjdinaa
open Go
def A1x : List Nat → ByteArray → List ByteArray
 | [], s => [s]
 | n :: ns, s => s.extract 0 n :: A1x ns (s.extract n s.size)
theorem B4S (w : World) (v : Value) (ns : List Nat) (s : ByteArray) (hn : ns.length < 100) (hv : F1 w v ns.length (ns.map fun n : Nat => Value.int .i64 (n : Int))) (hs : ns.sum ≤ s.size) (hs2 : s.size < 2 ^ 40) :
  Fn PR C5 83 #[.string s, v] w (Rn [] w (fun v u => u = v) fun v => [.own 9 1 v (ns.length + 1) ((A1x ns s).map .string)]) := by
 refine A93 (TW.go (κ := false) (S := []) ?_)
 unfold A46
 obtain ⟨a, c, rfl, hrow⟩ := hv.form
 (have zz:=trivial;repeat((first|clear zz|with_reducible first|refine A3 ?_|refine A5 fun _=>?_|refine A4 fun _=>?_|refine B8 fun _=>?_|refine B9 (hK:=fun _=>?_)|refine B4 (hK:=fun _=>?_)|refine C0 (hK:=fun _=>?_)|refine C3 (hK:=fun _=>?_)|refine C4 (hK:=fun _=>?_));try simp(disch:=first|omega|assumption|((repeat(first|exact A1|exact uH|apply A2|apply uT));first|done|fail)|(simp;first|done|omega|fail))[]))
 refine A3N 9 1 ?_
 refine B0a (α := Value × ByteArray × List ByteArray) ns.length (fun _ x => x.1) (fun _ x => .string x.2.1) (fun i x => [.own 9 1 x.1 i (x.2.2.map .string)])
  (fun i x => A1x ns s = x.2.2 ++ A1x (ns.drop i) x.2.1 ∧ (ns.drop i).sum ≤ x.2.1.size ∧ x.2.1.size ≤ s.size) (.slice none 0 0, s, []) ⟨by simp, by simpa using hs, Nat.le_refl _⟩ ?_
 rintro i ⟨v, r, d⟩ hi ⟨h1, h2, h3⟩ L hL
 simp only at h1 h2 h3 hL ⊢
 by_cases hlt : i < ns.length
 ·obtain ⟨b, o, rfl, hr⟩ := hrow (by omega)
  have hx : ns[i]? = some ns[i] := List.getElem?_eq_getElem hlt
  have hc := hr.one hx
  rw [List.drop_eq_getElem_cons hlt] at h1 h2
  simp only [List.sum_cons, A1x] at h1 h2
  have hle : ((ns[i] : Nat) : Int) ≤ r.size := by omega
  (have zz:=trivial;repeat((first|clear zz|with_reducible first|refine A3 ?_|refine A5 fun _=>?_|refine A4 fun _=>?_|refine B8 fun _=>?_|refine B9 (hK:=fun _=>?_)|refine B4 (hK:=fun _=>?_)|refine C0 (hK:=fun _=>?_)|refine C3 (hK:=fun _=>?_)|refine C4 (hK:=fun _=>?_));try simp(disch:=first|omega|assumption|((repeat(first|exact A1|exact uH|apply A2|apply uT));first|done|fail)|(simp;first|done|omega|fail))[hlt, hc]))
  refine A3P (by (repeat constructor)) (M5.own (by (repeat constructor))) (by decide) (by simp) (by simp) (by simp only [maxLen]; omega) (by omega) fun a' c' => ?_
  (have zz:=trivial;repeat((first|clear zz|with_reducible first|refine A3 ?_|refine A5 fun _=>?_|refine A4 fun _=>?_|refine B8 fun _=>?_|refine B9 (hK:=fun _=>?_)|refine B4 (hK:=fun _=>?_)|refine C0 (hK:=fun _=>?_)|refine C3 (hK:=fun _=>?_)|refine C4 (hK:=fun _=>?_));try simp(disch:=first|omega|assumption|((repeat(first|exact A1|exact uH|apply A2|apply uT));first|done|fail)|(simp;first|done|omega|fail))[hlt, hle]))
  have := hL hlt (.slice a' (i + 1) c', r.extract ns[i] r.size, d ++ [r.extract 0 ns[i]]) ⟨by rw [h1]; simp, by rw [ByteArray.size_extract]; omega, by rw [ByteArray.size_extract]; omega⟩
  simp only [List.map_append, List.map_cons, List.map_nil] at this
  exact Sels.tw (by (repeat' constructor)) this
 ·obtain rfl : i = ns.length := by omega
  (have zz:=trivial;repeat((first|clear zz|with_reducible first|refine A3 ?_|refine A5 fun _=>?_|refine A4 fun _=>?_|refine B8 fun _=>?_|refine B9 (hK:=fun _=>?_)|refine B4 (hK:=fun _=>?_)|refine C0 (hK:=fun _=>?_)|refine C3 (hK:=fun _=>?_)|refine C4 (hK:=fun _=>?_));try simp(disch:=first|omega|assumption|((repeat(first|exact A1|exact uH|apply A2|apply uT));first|done|fail)|(simp;first|done|omega|fail))[]))
  refine A3P (by (repeat constructor)) (M5.own (by (repeat constructor))) (by decide) (by simp) (by simp) (by simp only [maxLen]; omega) (by omega) fun a' c' => ?_
  simp only [List.drop_length, A1x] at h1
  rw [h1]
  exact A0E _ rfl (by simp)
def A5N (s : ByteArray) : Nat := if s.size < 40 then 2 else if gv s 0 1 / 16 ≠ 6 then 3 else if s.size - 40 < gv s 4 2 then 4 else 0
def W3 (s : ByteArray) : HeadV := if A5N s = 0 then ⟨s.extract 8 24, s.extract 24 40, gv s 6 1, s.extract 40 (40 + gv s 4 2), 0⟩ else .err (A5N s)
theorem A1T (s : ByteArray) (a b i : Nat) (hb : b ≤ s.size) (hi : i < b - a) : D4 (s.extract a b) i = D4 s (a + i) := by
 unfold D4
 rw [Array.getD_eq_getD_getElem?, Array.getD_eq_getD_getElem?, ByteArray.data_extract, Array.getElem?_extract]
 rw [if_pos (by simp only [ByteArray.size] at hb; omega)]
theorem A8L (s : ByteArray) (a b i n : Nat) (hb : b ≤ s.size) (hn : i + n ≤ b - a) : W4 (s.extract a b) i n = W4 s (a + i) n := by
 induction n with
 | zero => rfl
 | succ n ih => simp only [W4]; rw [ih (by omega), A1T s a b _ hb (by omega), Nat.add_assoc]
theorem A9V {s : ByteArray} {a n : Nat} (h : a + n ≤ s.size) : gv s a n = W4 s a n := if_pos h
theorem A9J (s : ByteArray) (a b i n : Nat) (hb : b ≤ s.size) (hn : i + n ≤ b - a) (hab : a ≤ b) : gv (s.extract a b) i n = gv s (a + i) n := by
 rw [A9V (by rw [ByteArray.size_extract]; omega), A9V (by omega), A8L s a b i n hb hn]
theorem B0G {s : ByteArray} {a : Nat} (h : a < s.size) : gv s a 1 = D4 s a := by rw [A9V (by omega)]; simp [W4]
theorem A3s (s : ByteArray) (a b c d : Nat) (hb : b ≤ s.size) (hd : a + d ≤ b) : (s.extract a b).extract c d = s.extract (a + c) (a + d) := by
 apply ByteArray.ext
 rw [ByteArray.data_extract, ByteArray.data_extract, ByteArray.data_extract, Array.extract_extract]
 congr 1; omega
def B1a (s : ByteArray) : Nat → List Nat → List ByteArray
 | a, [] => [s.extract a s.size]
 | a, n :: ns => s.extract a (a + n) :: B1a s (a + n) ns
theorem B3J (s : ByteArray) (ns : List Nat) : ∀ a, a + ns.sum ≤ s.size → A1x ns (s.extract a s.size) = B1a s a ns := by
 induction ns with
 | nil => intro a _; rfl
 | cons n ns ih =>
  intro a h
  simp only [List.sum_cons] at h
  simp only [A1x, B1a]
  rw [A3s _ _ _ _ _ (by omega) (by omega), A3s _ _ _ _ _ (by omega) (by rw [ByteArray.size_extract]; omega), ByteArray.size_extract, Nat.add_zero]
  rw [show a + (min s.size s.size - a) = s.size from by omega, ih _ (by omega)]
theorem A8B (s : ByteArray) : s.extract 0 s.size = s := by
 apply ByteArray.ext; rw [ByteArray.data_extract]; exact Array.extract_size ..
theorem A9m {s : ByteArray} (h : 40 ≤ s.size) : A1x [4, 2, 1, 1, 16, 16] s = [s.extract 0 4, s.extract 4 6, s.extract 6 7, s.extract 7 8, s.extract 8 24, s.extract 24 40, s.extract 40 s.size] := by
 have := B3J s [4, 2, 1, 1, 16, 16] 0 (by simp; omega)
 rw [A8B] at this; rw [this]; rfl
theorem A8N (w : World) (s : ByteArray) (hs : s.size < 2 ^ 40) : Fn PR C5 70 #[.string s] w (fun v w' => v = (W3 s).val ∧ B6 [] w w') := by
 refine Fn.pure (A73 (TW.go (κ := false) (S := []) ?_))
 unfold A2k
 by_cases c1 : s.size < 40
 ·have c1' : (s.size : Int) < 40 := by omega
  (have zz:=trivial;repeat((first|clear zz|with_reducible first|refine A3 ?_|refine A5 fun _=>?_|refine A4 fun _=>?_|refine B8 fun _=>?_|refine B9 (hK:=fun _=>?_)|refine B4 (hK:=fun _=>?_)|refine C0 (hK:=fun _=>?_)|refine C3 (hK:=fun _=>?_)|refine C4 (hK:=fun _=>?_));try simp(disch:=first|omega|assumption|((repeat(first|exact A1|exact uH|apply A2|apply uT));first|done|fail)|(simp;first|done|omega|fail))[c1'])); exact A8 (by simp [W3, A5N, c1, HeadV.val, HeadV.err])
 have c1' : ¬ (s.size : Int) < 40 := by omega
 obtain ⟨by0, hb0, hb1⟩ := n7 (s := s) (i := 0) (by omega)
 have hg0 : gv s 0 1 = D4 s 0 := B0G (by omega)
 have e1 : ((by0.toNat : Nat) : Int).fdiv (2 ^ min 4 IntKind.u8.bits) = (gv s 0 1 / 16 : Nat) := by rw [show (2 : Int) ^ min 4 IntKind.u8.bits = 16 from rfl, Int.fdiv_eq_ediv_of_nonneg _ (by omega), hb1, hg0]; omega
 have hb0' : s[(0 : Int).toNat]? = some by0 := hb0
 by_cases c2 : gv s 0 1 / 16 = 6
 case neg =>
  have c2' : ¬ ((gv s 0 1 / 16 : Nat) : Int) = 6 := by omega
  (have zz:=trivial;repeat((first|clear zz|with_reducible first|refine A3 ?_|refine A5 fun _=>?_|refine A4 fun _=>?_|refine B8 fun _=>?_|refine B9 (hK:=fun _=>?_)|refine B4 (hK:=fun _=>?_)|refine C0 (hK:=fun _=>?_)|refine C3 (hK:=fun _=>?_)|refine C4 (hK:=fun _=>?_));try simp(disch:=first|omega|assumption|((repeat(first|exact A1|exact uH|apply A2|apply uT));first|done|fail)|(simp;first|done|omega|fail))[c1', T4]))
  rw [e1, if_neg c2']
  (have zz:=trivial;repeat((first|clear zz|with_reducible first|refine A3 ?_|refine A5 fun _=>?_|refine A4 fun _=>?_|refine B8 fun _=>?_|refine B9 (hK:=fun _=>?_)|refine B4 (hK:=fun _=>?_)|refine C0 (hK:=fun _=>?_)|refine C3 (hK:=fun _=>?_)|refine C4 (hK:=fun _=>?_));try simp(disch:=first|omega|assumption|((repeat(first|exact A1|exact uH|apply A2|apply uT));first|done|fail)|(simp;first|done|omega|fail))[])); exact A8 (by simp [W3, A5N, c1, c2, HeadV.val, HeadV.err])
 have c2' : ((gv s 0 1 / 16 : Nat) : Int) = 6 := by omega
 (have zz:=trivial;repeat((first|clear zz|with_reducible first|refine A3 ?_|refine A5 fun _=>?_|refine A4 fun _=>?_|refine B8 fun _=>?_|refine B9 (hK:=fun _=>?_)|refine B4 (hK:=fun _=>?_)|refine C0 (hK:=fun _=>?_)|refine C3 (hK:=fun _=>?_)|refine C4 (hK:=fun _=>?_));try simp(disch:=first|omega|assumption|((repeat(first|exact A1|exact uH|apply A2|apply uT));first|done|fail)|(simp;first|done|omega|fail))[c1', T4]))
 rw [e1, if_pos c2']
 (have zz:=trivial;repeat((first|clear zz|with_reducible first|refine A3 ?_|refine A5 fun _=>?_|refine A4 fun _=>?_|refine B8 fun _=>?_|refine B9 (hK:=fun _=>?_)|refine B4 (hK:=fun _=>?_)|refine C0 (hK:=fun _=>?_)|refine C3 (hK:=fun _=>?_)|refine C4 (hK:=fun _=>?_));try simp(disch:=first|omega|assumption|((repeat(first|exact A1|exact uH|apply A2|apply uT));first|done|fail)|(simp;first|done|omega|fail))[]))
 rename_i bh bl
 refine K7 A79 (fun w' hw' => B4S w' _ [4, 2, 1, 1, 16, 16] s (by simp) ?_ (by simp; omega) (by omega)) ?_
 ·have := M5.own (κ := false) (S := []) (w0 := w) (e := 3) (k := 1) (q := 6) (v := .slice (some ⟨bl, 0, none⟩) 6 6) (by (repeat constructor)) w' hw'
  simpa using this
 rintro v _ rfl
 rw [A9m (by omega)]
 simp only [List.length_cons, List.length_nil, List.map_cons, List.map_nil, List.cons_append, List.nil_append]
 refine A2C (by (repeat constructor)) (by omega) fun g c hv => ?_
 subst hv
 (have zz:=trivial;repeat((first|clear zz|with_reducible first|refine A3 ?_|refine A5 fun _=>?_|refine A4 fun _=>?_|refine B8 fun _=>?_|refine B9 (hK:=fun _=>?_)|refine B4 (hK:=fun _=>?_)|refine C0 (hK:=fun _=>?_)|refine C3 (hK:=fun _=>?_)|refine C4 (hK:=fun _=>?_));try simp(disch:=first|omega|assumption|((repeat(first|exact A1|exact uH|apply A2|apply uT));first|done|fail)|(simp;first|done|omega|fail))[]))
 refine C8 K1 (fun w' _ => s5 w' _ (by simp; omega) _ _) ?_
 have hgv := A1J (s.extract 4 6) 0 2 (by omega) (by omega)
 rw [A9J s 4 6 0 2 (by omega) (by omega) (by omega)] at hgv
 simp only [Int.natCast_zero, Int.cast_ofNat_Int] at hgv
 have hlt := A1Z s 4
 rw [hgv]
 (have zz:=trivial;repeat((first|clear zz|with_reducible first|refine A3 ?_|refine A5 fun _=>?_|refine A4 fun _=>?_|refine B8 fun _=>?_|refine B9 (hK:=fun _=>?_)|refine B4 (hK:=fun _=>?_)|refine C0 (hK:=fun _=>?_)|refine C3 (hK:=fun _=>?_)|refine C4 (hK:=fun _=>?_));try simp(disch:=first|omega|assumption|((repeat(first|exact A1|exact uH|apply A2|apply uT));first|done|fail)|(simp;first|done|omega|fail))[]))
 refine B7V (fun c3 => ?_) (fun c3 => ?_)
 ·(have zz:=trivial;repeat((first|clear zz|with_reducible first|refine A3 ?_|refine A5 fun _=>?_|refine A4 fun _=>?_|refine B8 fun _=>?_|refine B9 (hK:=fun _=>?_)|refine B4 (hK:=fun _=>?_)|refine C0 (hK:=fun _=>?_)|refine C3 (hK:=fun _=>?_)|refine C4 (hK:=fun _=>?_));try simp(disch:=first|omega|assumption|((repeat(first|exact A1|exact uH|apply A2|apply uT));first|done|fail)|(simp;first|done|omega|fail))[]))
  exact A8 (by simp [W3, A5N, c1, c2, c3, HeadV.val, HeadV.err])
 ·obtain ⟨by6, hb6, hb6'⟩ := n7 (s := s.extract 6 7) (i := 0) (by simp; omega)
  have hp : D4 (s.extract 6 7) 0 = gv s 6 1 := by rw [A1T s 6 7 0 (by omega) (by omega), B0G (by omega)]
  have hb6'' : (s.extract 6 7)[(0 : Int).toNat]? = some by6 := hb6
  have hle : ((gv s 4 2 : Nat) : Int) ≤ (s.extract 40 s.size).size := by rw [ByteArray.size_extract]; omega
  (have zz:=trivial;repeat((first|clear zz|with_reducible first|refine A3 ?_|refine A5 fun _=>?_|refine A4 fun _=>?_|refine B8 fun _=>?_|refine B9 (hK:=fun _=>?_)|refine B4 (hK:=fun _=>?_)|refine C0 (hK:=fun _=>?_)|refine C3 (hK:=fun _=>?_)|refine C4 (hK:=fun _=>?_));try simp(disch:=first|omega|assumption|((repeat(first|exact A1|exact uH|apply A2|apply uT));first|done|fail)|(simp;first|done|omega|fail))[T4]))
  have h6 := A4g s 6
  have w6 : IntKind.i64.wrap (gv s 6 1 : Nat) = (gv s 6 1 : Nat) := V1 (by omega) (by omega)
  rw [hb6', hp]
  exact A8 (by rw [A3s s 40 s.size 0 _ (by omega) (by omega)]; simp [W3, A5N, c1, c2, c3, HeadV.val, w6])
theorem p9 : liesAt PR PR.depth 103 (2 / PR.cellsOf 103) 0 101 1 = true := by kernel_rfl
theorem A0x (w : World) (b : Nat) (a : Option Addr) (v : Value) (q : Nat) (xs : List Value) (x n : Int) (ha : a = none ∨ a = some ⟨b, 0, none⟩) (hx0 : 0 ≤ x) (hx : x < 2 ^ 62) (hs : q < 2 ^ 39)
  (hw : LW false (B7 (Bd b 103 a v q xs)) w (Bd b 103 a v q xs) w) : Fn PR C5 43 #[.pointer (some ⟨b, 0, none⟩), .int .i64 x, .int .i64 n] w
   (Rn (B7 (Bd b 103 a v q xs)) w (fun (_ : Value) u => u = .tuple #[]) fun v' => Bd b 103 (some ⟨b, 0, none⟩) v' (q + (D8 x n).size) (xs ++ D2 (D8 x n))) := by
 refine A1l (TW.goH (κ := false) (S := B7 (Bd b 103 a v q xs)) ?_ hw)
 unfold l6
 (have zz:=trivial;repeat((first|clear zz|with_reducible first|refine A3 ?_|refine A5 fun _=>?_|refine A4 fun _=>?_|refine B8 fun _=>?_|refine B9 (hK:=fun _=>?_)|refine B4 (hK:=fun _=>?_)|refine C0 (hK:=fun _=>?_)|refine C3 (hK:=fun _=>?_)|refine C4 (hK:=fun _=>?_));try simp(disch:=first|omega|assumption|((repeat(first|exact A1|exact uH|apply A2|apply uT));first|done|fail)|(simp;first|done|omega|fail))[]))
 refine C8 E3 (fun w' _ => U9 w' _ _) ?_
 have hp : (D8 x n).size ≤ 8 := by
  by_cases h : 1 ≤ n ∧ n ≤ 8
  ·rw [B0f h.1 h.2]; omega
  ·simp [D8, h]
 refine A4s (Hc := Bd b 103 a v q xs) (Hk := []) E9 (by rfl) (fun w' hw' => W6 w' b _ a v q xs _ ha p9 (by omega) hw'.self) ?_
 rintro v' _ rfl
 (have zz:=trivial;repeat((first|clear zz|with_reducible first|refine A3 ?_|refine A5 fun _=>?_|refine A4 fun _=>?_|refine B8 fun _=>?_|refine B9 (hK:=fun _=>?_)|refine B4 (hK:=fun _=>?_)|refine C0 (hK:=fun _=>?_)|refine C3 (hK:=fun _=>?_)|refine C4 (hK:=fun _=>?_));try simp(disch:=first|omega|assumption|((repeat(first|exact A1|exact uH|apply A2|apply uT));first|done|fail)|(simp;first|done|omega|fail))[]))
 exact G9 v' rfl (by simp only [Bd]; (repeat' constructor))
def A33 (src dst rest : ByteArray) (proto : Int) : ByteArray := D8 1610612736 4 ++ D8 rest.size 2 ++ D8 proto 1 ++ D8 64 1 ++ src ++ dst ++ rest
def A5n (rest : ByteArray) : Nat → Nat | 0 => 8 | 1 => 24 | 2 => 40 | _ => 40 + rest.size
def A5b (src dst rest : ByteArray) (proto : Int) : Nat → ByteArray
 | 0 => D8 1610612736 4 ++ D8 rest.size 2 ++ D8 proto 1 ++ D8 64 1
 | 1 => D8 1610612736 4 ++ D8 rest.size 2 ++ D8 proto 1 ++ D8 64 1 ++ src
 | 2 => D8 1610612736 4 ++ D8 rest.size 2 ++ D8 proto 1 ++ D8 64 1 ++ src ++ dst
 | _ => A33 src dst rest proto
def A17 (src dst rest : ByteArray) (proto : Int) : ByteArray × Nat :=
 if src.size ≠ 16 ∨ dst.size ≠ 16 ∨ proto < 0 ∨ 255 < proto then (G4, 1) else if 65535 < rest.size then (G4, 4) else (A33 src dst rest proto, 0)
theorem B1K (w : World) (src dst rest : ByteArray) (proto : Int) (hrs : rest.size < 2 ^ 40) :
  Fn PR C5 25 #[.agg #[.string src, .string dst, .int .i64 proto], .string rest] w (fun v w' => v = .tuple #[.string (A17 src dst rest proto).1, .int .i64 (A17 src dst rest proto).2] ∧ B6 [] w w') := by
 refine Fn.pure (A9y (TW.go (κ := false) (S := []) ?_))
 unfold A4Z
 by_cases c1 : src.size = 16
 case neg =>
  have c1' : ¬ (src.size : Int) = 16 := by omega
  (have zz:=trivial;repeat((first|clear zz|with_reducible first|refine A3 ?_|refine A5 fun _=>?_|refine A4 fun _=>?_|refine B8 fun _=>?_|refine B9 (hK:=fun _=>?_)|refine B4 (hK:=fun _=>?_)|refine C0 (hK:=fun _=>?_)|refine C3 (hK:=fun _=>?_)|refine C4 (hK:=fun _=>?_));try simp(disch:=first|omega|assumption|((repeat(first|exact A1|exact uH|apply A2|apply uT));first|done|fail)|(simp;first|done|omega|fail))[c1'])); exact A8 (by simp [A17, c1])
 by_cases c2 : dst.size = 16
 case neg =>
  have c2' : ¬ (dst.size : Int) = 16 := by omega
  (have zz:=trivial;repeat((first|clear zz|with_reducible first|refine A3 ?_|refine A5 fun _=>?_|refine A4 fun _=>?_|refine B8 fun _=>?_|refine B9 (hK:=fun _=>?_)|refine B4 (hK:=fun _=>?_)|refine C0 (hK:=fun _=>?_)|refine C3 (hK:=fun _=>?_)|refine C4 (hK:=fun _=>?_));try simp(disch:=first|omega|assumption|((repeat(first|exact A1|exact uH|apply A2|apply uT));first|done|fail)|(simp;first|done|omega|fail))[c1, c2'])); exact A8 (by simp [A17, c2])
 by_cases c3 : proto < 0
 ·(have zz:=trivial;repeat((first|clear zz|with_reducible first|refine A3 ?_|refine A5 fun _=>?_|refine A4 fun _=>?_|refine B8 fun _=>?_|refine B9 (hK:=fun _=>?_)|refine B4 (hK:=fun _=>?_)|refine C0 (hK:=fun _=>?_)|refine C3 (hK:=fun _=>?_)|refine C4 (hK:=fun _=>?_));try simp(disch:=first|omega|assumption|((repeat(first|exact A1|exact uH|apply A2|apply uT));first|done|fail)|(simp;first|done|omega|fail))[c1, c2, c3])); exact A8 (by simp [A17, c3])
 by_cases c4 : 255 < proto
 ·(have zz:=trivial;repeat((first|clear zz|with_reducible first|refine A3 ?_|refine A5 fun _=>?_|refine A4 fun _=>?_|refine B8 fun _=>?_|refine B9 (hK:=fun _=>?_)|refine B4 (hK:=fun _=>?_)|refine C0 (hK:=fun _=>?_)|refine C3 (hK:=fun _=>?_)|refine C4 (hK:=fun _=>?_));try simp(disch:=first|omega|assumption|((repeat(first|exact A1|exact uH|apply A2|apply uT));first|done|fail)|(simp;first|done|omega|fail))[c1, c2, c3, c4])); exact A8 (by simp [A17, c4])
 by_cases c5 : 65535 < rest.size
 ·have c5' : 65535 < (rest.size : Int) := by omega
  (have zz:=trivial;repeat((first|clear zz|with_reducible first|refine A3 ?_|refine A5 fun _=>?_|refine A4 fun _=>?_|refine B8 fun _=>?_|refine B9 (hK:=fun _=>?_)|refine B4 (hK:=fun _=>?_)|refine C0 (hK:=fun _=>?_)|refine C3 (hK:=fun _=>?_)|refine C4 (hK:=fun _=>?_));try simp(disch:=first|omega|assumption|((repeat(first|exact A1|exact uH|apply A2|apply uT));first|done|fail)|(simp;first|done|omega|fail))[c1, c2, c3, c4, c5'])); exact A8 (by simp [A17, c1, c2, c3, c4, c5])
 have c5' : ¬ 65535 < (rest.size : Int) := by omega
 (have zz:=trivial;repeat((first|clear zz|with_reducible first|refine A3 ?_|refine A5 fun _=>?_|refine A4 fun _=>?_|refine B8 fun _=>?_|refine B9 (hK:=fun _=>?_)|refine B4 (hK:=fun _=>?_)|refine C0 (hK:=fun _=>?_)|refine C3 (hK:=fun _=>?_)|refine C4 (hK:=fun _=>?_));try simp(disch:=first|omega|assumption|((repeat(first|exact A1|exact uH|apply A2|apply uT));first|done|fail)|(simp;first|done|omega|fail))[c1, c2, c3, c4, c5']))
 rename_i bh bw
 refine A3N 5 1 ?_
 refine F5 M0 (fun w' _ hs => A0x w' bw none (.slice none 0 0) 0 [] 1610612736 4 (Or.inl rfl) (by omega) (by omega) (by omega) hs) (by (repeat' constructor)) ?_
 rintro v1 _ rfl
 (have zz:=trivial;repeat((first|clear zz|with_reducible first|refine A3 ?_|refine A5 fun _=>?_|refine A4 fun _=>?_|refine B8 fun _=>?_|refine B9 (hK:=fun _=>?_)|refine B4 (hK:=fun _=>?_)|refine C0 (hK:=fun _=>?_)|refine C3 (hK:=fun _=>?_)|refine C4 (hK:=fun _=>?_));try simp(disch:=first|omega|assumption|((repeat(first|exact A1|exact uH|apply A2|apply uT));first|done|fail)|(simp;first|done|omega|fail))[]))
 refine F5 M0 (fun w' _ hs => A0x w' bw _ v1 4 _ rest.size 2 (Or.inr rfl) (by omega) (by omega) (by omega) hs) (by (repeat' constructor)) ?_
 rintro v2 _ rfl
 (have zz:=trivial;repeat((first|clear zz|with_reducible first|refine A3 ?_|refine A5 fun _=>?_|refine A4 fun _=>?_|refine B8 fun _=>?_|refine B9 (hK:=fun _=>?_)|refine B4 (hK:=fun _=>?_)|refine C0 (hK:=fun _=>?_)|refine C3 (hK:=fun _=>?_)|refine C4 (hK:=fun _=>?_));try simp(disch:=first|omega|assumption|((repeat(first|exact A1|exact uH|apply A2|apply uT));first|done|fail)|(simp;first|done|omega|fail))[]))
 refine F5 M0 (fun w' _ hs => A0x w' bw _ v2 6 _ proto 1 (Or.inr rfl) (by omega) (by omega) (by omega) hs) (by (repeat' constructor)) ?_
 rintro v3 _ rfl
 (have zz:=trivial;repeat((first|clear zz|with_reducible first|refine A3 ?_|refine A5 fun _=>?_|refine A4 fun _=>?_|refine B8 fun _=>?_|refine B9 (hK:=fun _=>?_)|refine B4 (hK:=fun _=>?_)|refine C0 (hK:=fun _=>?_)|refine C3 (hK:=fun _=>?_)|refine C4 (hK:=fun _=>?_));try simp(disch:=first|omega|assumption|((repeat(first|exact A1|exact uH|apply A2|apply uT));first|done|fail)|(simp;first|done|omega|fail))[]))
 refine F5 M0 (fun w' _ hs => A0x w' bw _ v3 7 _ 64 1 (Or.inr rfl) (by omega) (by omega) (by omega) hs) (by (repeat' constructor)) ?_
 rintro v4 _ rfl
 (have zz:=trivial;repeat((first|clear zz|with_reducible first|refine A3 ?_|refine A5 fun _=>?_|refine A4 fun _=>?_|refine B8 fun _=>?_|refine B9 (hK:=fun _=>?_)|refine B4 (hK:=fun _=>?_)|refine C0 (hK:=fun _=>?_)|refine C3 (hK:=fun _=>?_)|refine C4 (hK:=fun _=>?_));try simp(disch:=first|omega|assumption|((repeat(first|exact A1|exact uH|apply A2|apply uT));first|done|fail)|(simp;first|done|omega|fail))[]))
 rename_i bl
 refine A8j (α := Value) 3 (fun i v => [.own 9 1 (.slice (some ⟨bl, 0, none⟩) 3 3) 3 [.string src, .string dst, .string rest], .pt bw (.cells #[.pointer (some ⟨bw, 0, none⟩), v] 103),
  .own 5 1 v (A5n rest i) (D2 (A5b src dst rest proto i)), .pt bh (.cells #[.string src, .string dst, .int .i64 proto] 79)]) (fun _ _ => True) v4 trivial ?_ (by simp [A5n, A5b, l4])
 rintro i v hi _ L hL
 obtain rfl | rfl | rfl | rfl : i = 0 ∨ i = 1 ∨ i = 2 ∨ i = 3 := by omega
 ·have hL' := fun v' => hL (by omega) v' trivial
  simp only [A5n, A5b, l4, List.append_assoc] at hL' ⊢
  (have zz:=trivial;repeat((first|clear zz|with_reducible first|refine A3 ?_|refine A5 fun _=>?_|refine A4 fun _=>?_|refine B8 fun _=>?_|refine B9 (hK:=fun _=>?_)|refine B4 (hK:=fun _=>?_)|refine C0 (hK:=fun _=>?_)|refine C3 (hK:=fun _=>?_)|refine C4 (hK:=fun _=>?_));try simp(disch:=first|omega|assumption|((repeat(first|exact A1|exact uH|apply A2|apply uT));first|done|fail)|(simp;first|done|omega|fail))[]))
  refine F5 E9 (fun w' _ hs => W6 w' bw _ _ v 8 _ src (Or.inr rfl) p9 (by omega) hs) (by (repeat' constructor)) ?_
  rintro v' _ rfl
  (have zz:=trivial;repeat((first|clear zz|with_reducible first|refine A3 ?_|refine A5 fun _=>?_|refine A4 fun _=>?_|refine B8 fun _=>?_|refine B9 (hK:=fun _=>?_)|refine B4 (hK:=fun _=>?_)|refine C0 (hK:=fun _=>?_)|refine C3 (hK:=fun _=>?_)|refine C4 (hK:=fun _=>?_));try simp(disch:=first|omega|assumption|((repeat(first|exact A1|exact uH|apply A2|apply uT));first|done|fail)|(simp;first|done|omega|fail))[c1]))
  exact Sels.tw (by (repeat' constructor)) (hL' v')
 ·have hL' := fun v' => hL (by omega) v' trivial
  simp only [A5n, A5b, l4, List.append_assoc] at hL' ⊢
  (have zz:=trivial;repeat((first|clear zz|with_reducible first|refine A3 ?_|refine A5 fun _=>?_|refine A4 fun _=>?_|refine B8 fun _=>?_|refine B9 (hK:=fun _=>?_)|refine B4 (hK:=fun _=>?_)|refine C0 (hK:=fun _=>?_)|refine C3 (hK:=fun _=>?_)|refine C4 (hK:=fun _=>?_));try simp(disch:=first|omega|assumption|((repeat(first|exact A1|exact uH|apply A2|apply uT));first|done|fail)|(simp;first|done|omega|fail))[]))
  refine F5 E9 (fun w' _ hs => W6 w' bw _ _ v 24 _ dst (Or.inr rfl) p9 (by omega) hs) (by (repeat' constructor)) ?_
  rintro v' _ rfl
  (have zz:=trivial;repeat((first|clear zz|with_reducible first|refine A3 ?_|refine A5 fun _=>?_|refine A4 fun _=>?_|refine B8 fun _=>?_|refine B9 (hK:=fun _=>?_)|refine B4 (hK:=fun _=>?_)|refine C0 (hK:=fun _=>?_)|refine C3 (hK:=fun _=>?_)|refine C4 (hK:=fun _=>?_));try simp(disch:=first|omega|assumption|((repeat(first|exact A1|exact uH|apply A2|apply uT));first|done|fail)|(simp;first|done|omega|fail))[c2]))
  exact Sels.tw (by (repeat' constructor)) (hL' v')
 ·have hL' := fun v' => hL (by omega) v' trivial
  simp only [A5n, A5b, A33, l4, List.append_assoc] at hL' ⊢
  (have zz:=trivial;repeat((first|clear zz|with_reducible first|refine A3 ?_|refine A5 fun _=>?_|refine A4 fun _=>?_|refine B8 fun _=>?_|refine B9 (hK:=fun _=>?_)|refine B4 (hK:=fun _=>?_)|refine C0 (hK:=fun _=>?_)|refine C3 (hK:=fun _=>?_)|refine C4 (hK:=fun _=>?_));try simp(disch:=first|omega|assumption|((repeat(first|exact A1|exact uH|apply A2|apply uT));first|done|fail)|(simp;first|done|omega|fail))[]))
  refine F5 E9 (fun w' _ hs => W6 w' bw _ _ v 40 _ rest (Or.inr rfl) p9 (by omega) hs) (by (repeat' constructor)) ?_
  rintro v' _ rfl
  (have zz:=trivial;repeat((first|clear zz|with_reducible first|refine A3 ?_|refine A5 fun _=>?_|refine A4 fun _=>?_|refine B8 fun _=>?_|refine B9 (hK:=fun _=>?_)|refine B4 (hK:=fun _=>?_)|refine C0 (hK:=fun _=>?_)|refine C3 (hK:=fun _=>?_)|refine C4 (hK:=fun _=>?_));try simp(disch:=first|omega|assumption|((repeat(first|exact A1|exact uH|apply A2|apply uT));first|done|fail)|(simp;first|done|omega|fail))[]))
  exact Sels.tw (by (repeat' constructor)) (hL' v')
 ·simp only [A5n, A5b]
  (have zz:=trivial;repeat((first|clear zz|with_reducible first|refine A3 ?_|refine A5 fun _=>?_|refine A4 fun _=>?_|refine B8 fun _=>?_|refine B9 (hK:=fun _=>?_)|refine B4 (hK:=fun _=>?_)|refine C0 (hK:=fun _=>?_)|refine C3 (hK:=fun _=>?_)|refine C4 (hK:=fun _=>?_));try simp(disch:=first|omega|assumption|((repeat(first|exact A1|exact uH|apply A2|apply uT));first|done|fail)|(simp;first|done|omega|fail))[]))
  have hz : (A33 src dst rest proto).size = 40 + rest.size := by simp [A33, c1, c2]
  refine F5 s6 (fun w' _ hs => B0N w' bw _ _ v (40 + rest.size) (D2 (A33 src dst rest proto)) (A33 src dst rest proto) hz.symm rfl (by omega) (by omega) hs) (by (repeat' constructor)) ?_
  rintro _ _ rfl
  (have zz:=trivial;repeat((first|clear zz|with_reducible first|refine A3 ?_|refine A5 fun _=>?_|refine A4 fun _=>?_|refine B8 fun _=>?_|refine B9 (hK:=fun _=>?_)|refine B4 (hK:=fun _=>?_)|refine C0 (hK:=fun _=>?_)|refine C3 (hK:=fun _=>?_)|refine C4 (hK:=fun _=>?_));try simp(disch:=first|omega|assumption|((repeat(first|exact A1|exact uH|apply A2|apply uT));first|done|fail)|(simp;first|done|omega|fail))[]))
  exact A8 (by simp [A17, c1, c2, c3, c4, c5])
end Go.Proofs.Ytlplkjgcfjdinaa
namespace Go.Proofs.Ytlplkjgcfjdinaa
open Go
theorem A6j {κ : Bool} {X : Nat → Prop} {S : List Nat} {w0 : World} {H : List Res} {K : Value → WP} {g u : Value} {name : String} {args : List Value} {f : FuncId} {args' : Array Value} (hr : ∀ w, (callMethod g name args.toArray).run PR w = .ok (.enter f args') w)
  (hf : ∀ w, LW κ S w0 H w → Fn PR C5 f args' w (fun v w' => v = u ∧ B6 [] w w')) (hK : TW κ S w0 H (K u)) : TW κ S w0 H (inv PR X g name args K) := fun w hw =>
 ⟨f, args', hr w, (hf w hw).use fun v w' ⟨h1, h2⟩ hsk => by subst h1; exact hK w' (hw.ext (h2.ks fun _ => hsk))⟩
theorem A9D {P : Program} {t : TypeId} {n m : Nat} {z : Value} {ms : Array (String × TypeId)} {e : Nat} (h : TI P t (.interface ms) n m z) : EqV P (e + 1) t .nilIface .nilIface true := by
 intro w
 simp only [Op.equalIn, Sem.run_bind, h.run_und, Result.andThen_ok]; rfl
theorem A9G {P : Program} {t : TypeId} {n m : Nat} {z : Value} {ms : Array (String × TypeId)} {e : Nat} (h : TI P t (.interface ms) n m z) (u : TypeId) (v : Value) : EqV P (e + 1) t (.iface u v) .nilIface false := by
 intro w
 simp only [Op.equalIn, Sem.run_bind, h.run_und, Result.andThen_ok]; rfl
theorem A8q {t : TypeId} {op : BinOp} {x y : Operand} {g : Value} {r : Bool} {K : Value → WP} (hg : (eqGuard .eql t x y g .nilIface) = pure ()) (he : EqV PR 10000 t g .nilIface r) : A6 PR (Z4 .eql t x y g .nilIface) K = K (.bool r) := by
 funext w
 refine P5 ?_ K
 have := he w
 simp [Z4, hg, binOp, Op.equal, Op.maxDepth, this]
theorem p3 {x : Operand} {c : Value} {K : Value → WP} : A6 PR (Z4 .eql 93 x (.const c) .nilIface .nilIface) K = K (.bool true) := A8q (op := .eql) (by cases x <;> rfl) (A9D (e := 9999) A9e)
theorem n8 {x y : Operand} {K : Value → WP} {u : TypeId} {v : Value} : A6 PR (Z4 .eql 93 x y (.iface u v) .nilIface) K = K (.bool false) := A8q (op := .eql) (by rfl) (A9G (e := 9999) A9e u v)
abbrev A6w : Value := .iface 130 (.agg #[])
abbrev A7k : Value := .iface 131 (.agg #[])
def V2 : List (Int × Value) := [(6, A6w), (17, A7k)]
theorem A6F (w : World) : Fn PR C5 41 #[] w (Rn [] w (fun r v => v = .map (some r)) fun r => [.pt r (U2 (Value.int .i64) V2)]) := by
 refine A5a (TW.go (κ := false) (S := []) ?_)
 unfold A1c
 refine A8n (Value.int .i64) fun r => ?_
 (have zz:=trivial;repeat((first|clear zz|with_reducible first|refine A3 ?_|refine A5 fun _=>?_|refine A4 fun _=>?_);try simp(disch:=first|omega|assumption|((repeat(first|exact A1|exact uH|apply A2|apply uT));first|done|fail)|(simp;first|done|omega|fail))[]))
 refine A4H A9s (KeyT.int H6) (k := 6) (by (repeat constructor)) ?_
 (have zz:=trivial;repeat((first|clear zz|with_reducible first|refine A3 ?_|refine A5 fun _=>?_|refine A4 fun _=>?_);try simp(disch:=first|omega|assumption|((repeat(first|exact A1|exact uH|apply A2|apply uT));first|done|fail)|(simp;first|done|omega|fail))[]))
 refine A4H A9s (KeyT.int H6) (k := 17) (by (repeat constructor)) ?_
 exact A0E r rfl (by simp [S8, V2])
def A2Y (s : ByteArray) : Nat × Nat := if s.size < 20 then (0, 2) else if D4 s 12 / 16 * 4 < 20 ∨ s.size < D4 s 12 / 16 * 4 then (0, 8) else (D4 s 13, 0)
def A2c (s : ByteArray) : Nat × Nat := if s.size < 8 then (0, 2) else if gv s 4 2 < 8 ∨ s.size < gv s 4 2 then (0, 4) else (0, 0)
theorem A8W (w : World) (s : ByteArray) (hs : s.size < 2 ^ 40) : Fn PR C5 101 #[.agg #[], .string s] w (fun v w' => v = .tuple #[.int .i64 (A2Y s).1, .int .i64 (A2Y s).2] ∧ B6 [] w w') := by
 refine Fn.pure (A3V (TW.go (κ := false) (S := []) ?_))
 unfold u7
 by_cases c1 : s.size < 20
 ·have c1' : (s.size : Int) < 20 := by omega
  (have zz:=trivial;repeat((first|clear zz|with_reducible first|refine A3 ?_|refine A5 fun _=>?_|refine A4 fun _=>?_);try simp(disch:=first|omega|assumption|((repeat(first|exact A1|exact uH|apply A2|apply uT));first|done|fail)|(simp;first|done|omega|fail))[c1'])); exact A8 (by simp [A2Y, c1])
 have c1' : ¬ (s.size : Int) < 20 := by omega
 obtain ⟨by0, hb0, hb1⟩ := n7 (s := s) (i := 12) (by omega)
 obtain ⟨by1, hb2, hb3⟩ := n7 (s := s) (i := 13) (by omega)
 have hb0' : s[(12 : Int).toNat]? = some by0 := hb0
 have hb2' : s[(13 : Int).toNat]? = some by1 := hb2
 have hl0 := q6 s 12
 have hl1 := q6 s 13
 have e1 : ((by0.toNat : Nat) : Int).fdiv (2 ^ min 4 IntKind.u8.bits) = (D4 s 12 / 16 : Nat) := by rw [show (2 : Int) ^ min 4 IntKind.u8.bits = 16 from rfl, Int.fdiv_eq_ediv_of_nonneg _ (by omega), hb1]; omega
 have e2 : IntKind.i64.wrap (by1.toNat : Nat) = (D4 s 13 : Nat) := by rw [V1 (by omega) (by omega), hb3]
 have l1 : ∀ n : Nat, ((n * 4 : Nat) : Int) = (n : Int) * 4 := by omega
 by_cases c2 : D4 s 12 / 16 * 4 < 20
 ·have c2' : ((D4 s 12 : Nat) : Int) / 16 * 4 < 20 := by omega
  (have zz:=trivial;repeat((first|clear zz|with_reducible first|refine A3 ?_|refine A5 fun _=>?_|refine A4 fun _=>?_);try simp(disch:=first|omega|assumption|((repeat(first|exact A1|exact uH|apply A2|apply uT));first|done|fail)|(simp;first|done|omega|fail))[c1', T4]))
  rw [e1]
  (have zz:=trivial;repeat((first|clear zz|with_reducible first|refine A3 ?_|refine A5 fun _=>?_|refine A4 fun _=>?_);try simp(disch:=first|omega|assumption|((repeat(first|exact A1|exact uH|apply A2|apply uT));first|done|fail)|(simp;first|done|omega|fail))[c2']))
  exact A8 (by simp [A2Y, c1, c2])
 have c2' : ¬ ((D4 s 12 : Nat) : Int) / 16 * 4 < 20 := by omega
 by_cases c3 : s.size < D4 s 12 / 16 * 4
 ·have c3' : (s.size : Int) < ((D4 s 12 : Nat) : Int) / 16 * 4 := by omega
  (have zz:=trivial;repeat((first|clear zz|with_reducible first|refine A3 ?_|refine A5 fun _=>?_|refine A4 fun _=>?_);try simp(disch:=first|omega|assumption|((repeat(first|exact A1|exact uH|apply A2|apply uT));first|done|fail)|(simp;first|done|omega|fail))[c1', T4]))
  rw [e1]
  (have zz:=trivial;repeat((first|clear zz|with_reducible first|refine A3 ?_|refine A5 fun _=>?_|refine A4 fun _=>?_);try simp(disch:=first|omega|assumption|((repeat(first|exact A1|exact uH|apply A2|apply uT));first|done|fail)|(simp;first|done|omega|fail))[c2', c3']))
  exact A8 (by simp [A2Y, c1, c2, c3])
 have c3' : ¬ (s.size : Int) < ((D4 s 12 : Nat) : Int) / 16 * 4 := by omega
 (have zz:=trivial;repeat((first|clear zz|with_reducible first|refine A3 ?_|refine A5 fun _=>?_|refine A4 fun _=>?_);try simp(disch:=first|omega|assumption|((repeat(first|exact A1|exact uH|apply A2|apply uT));first|done|fail)|(simp;first|done|omega|fail))[c1', T4]))
 rw [e1]
 (have zz:=trivial;repeat((first|clear zz|with_reducible first|refine A3 ?_|refine A5 fun _=>?_|refine A4 fun _=>?_);try simp(disch:=first|omega|assumption|((repeat(first|exact A1|exact uH|apply A2|apply uT));first|done|fail)|(simp;first|done|omega|fail))[c2', c3', T4, e2]))
 exact A8 (by simp [A2Y, c1, c2, c3, hb3])
def z1 : ByteArray := ByteArray.mk #[0]
def A0C (f : Int) : ByteArray × Nat := if f < 0 ∨ 255 < f then (G4, 1) else (A4B z1 8 ++ ByteArray.mk #[80] ++ D8 f 1 ++ A4B z1 6, 0)
def A1F (f : Int) : ByteArray × Nat := if f ≠ 0 then (G4, 1) else (ByteArray.mk #[0, 8, 0, 0], 0)
theorem B5Y (w : World) : Fn PR C5 103 #[.string (ByteArray.mk #[0]), .int .i64 8] w (fun v w' => v = .string (A4B z1 8) ∧ B6 [] w w') := A53 w z1 8 (by omega) (by decide)
theorem B45 (w : World) : Fn PR C5 103 #[.string (ByteArray.mk #[0]), .int .i64 6] w (fun v w' => v = .string (A4B z1 6) ∧ B6 [] w w') := A53 w z1 6 (by omega) (by decide)
theorem W5 (c : Nat) : (A4B z1 c).size = c := by
 have : ∀ (l : List UInt8) (n : Nat), (Lib.repeatL l n).length = n * l.length := by
  intro l n
  induction n with
  | zero => simp [Lib.repeatL]
  | succ n ih => simp [Lib.repeatL, ih, Nat.add_mul, Nat.add_comm]
 show (Lib.repeatL z1.data.toList c).toArray.size = c
 rw [List.size_toArray, this]; simp [z1]
theorem B0D (w : World) (f : Int) : Fn PR C5 102 #[.agg #[], .int .i64 f] w (fun v w' => v = .tuple #[.string (A0C f).1, .int .i64 (A0C f).2] ∧ B6 [] w w') := by
 refine Fn.pure (A5A (TW.go (κ := false) (S := []) ?_))
 unfold A0j
 by_cases c1 : f < 0
 ·(have zz:=trivial;repeat((first|clear zz|with_reducible first|refine A3 ?_|refine A5 fun _=>?_|refine A4 fun _=>?_);try simp(disch:=first|omega|assumption|((repeat(first|exact A1|exact uH|apply A2|apply uT));first|done|fail)|(simp;first|done|omega|fail))[c1])); exact A8 (by simp [A0C, c1])
 by_cases c2 : 255 < f
 ·(have zz:=trivial;repeat((first|clear zz|with_reducible first|refine A3 ?_|refine A5 fun _=>?_|refine A4 fun _=>?_);try simp(disch:=first|omega|assumption|((repeat(first|exact A1|exact uH|apply A2|apply uT));first|done|fail)|(simp;first|done|omega|fail))[c1, c2])); exact A8 (by simp [A0C, c2])
 (have zz:=trivial;repeat((first|clear zz|with_reducible first|refine A3 ?_|refine A5 fun _=>?_|refine A4 fun _=>?_);try simp(disch:=first|omega|assumption|((repeat(first|exact A1|exact uH|apply A2|apply uT));first|done|fail)|(simp;first|done|omega|fail))[c1, c2]))
 have h8 := W5 8
 have h6 := W5 6
 refine C8 q9 (fun w' hw' => B5Y w') ?_
 (have zz:=trivial;repeat((first|clear zz|with_reducible first|refine A3 ?_|refine A5 fun _=>?_|refine A4 fun _=>?_);try simp(disch:=first|omega|assumption|((repeat(first|exact A1|exact uH|apply A2|apply uT));first|done|fail)|(simp;first|done|omega|fail))[c1, c2, N8]))
 refine C8 E3 (fun w' hw' => U9 w' _ _) ?_
 (have zz:=trivial;repeat((first|clear zz|with_reducible first|refine A3 ?_|refine A5 fun _=>?_|refine A4 fun _=>?_);try simp(disch:=first|omega|assumption|((repeat(first|exact A1|exact uH|apply A2|apply uT));first|done|fail)|(simp;first|done|omega|fail))[c1, c2, N8]))
 refine C8 q9 (fun w' hw' => B45 w') ?_
 (have zz:=trivial;repeat((first|clear zz|with_reducible first|refine A3 ?_|refine A5 fun _=>?_|refine A4 fun _=>?_);try simp(disch:=first|omega|assumption|((repeat(first|exact A1|exact uH|apply A2|apply uT));first|done|fail)|(simp;first|done|omega|fail))[c1, c2, N8]))
 exact A8 (by simp [A0C, c1, c2])
theorem A8U (w : World) (s : ByteArray) (hs : s.size < 2 ^ 40) : Fn PR C5 113 #[.agg #[], .string s] w (fun v w' => v = .tuple #[.int .i64 (A2c s).1, .int .i64 (A2c s).2] ∧ B6 [] w w') := by
 refine Fn.pure (A3S (TW.go (κ := false) (S := []) ?_))
 unfold v6
 by_cases c1 : s.size < 8
 ·have c1' : (s.size : Int) < 8 := by omega
  (have zz:=trivial;repeat((first|clear zz|with_reducible first|refine A3 ?_|refine A5 fun _=>?_|refine A4 fun _=>?_);try simp(disch:=first|omega|assumption|((repeat(first|exact A1|exact uH|apply A2|apply uT));first|done|fail)|(simp;first|done|omega|fail))[c1'])); exact A8 (by simp [A2c, c1])
 have c1' : ¬ (s.size : Int) < 8 := by omega
 (have zz:=trivial;repeat((first|clear zz|with_reducible first|refine A3 ?_|refine A5 fun _=>?_|refine A4 fun _=>?_);try simp(disch:=first|omega|assumption|((repeat(first|exact A1|exact uH|apply A2|apply uT));first|done|fail)|(simp;first|done|omega|fail))[c1']))
 refine C8 K1 (fun w' _ => s5 w' s (by omega) _ _) ?_
 have e1 := A1J s 4 2 (by omega) (by omega)
 have e1' : A00 s 4 2 = gv s 4 2 := e1
 have hg := A1Z s 4
 by_cases c2 : gv s 4 2 < 8
 ·have c2' : ((gv s 4 2 : Nat) : Int) < 8 := by omega
  (have zz:=trivial;repeat((first|clear zz|with_reducible first|refine A3 ?_|refine A5 fun _=>?_|refine A4 fun _=>?_);try simp(disch:=first|omega|assumption|((repeat(first|exact A1|exact uH|apply A2|apply uT));first|done|fail)|(simp;first|done|omega|fail))[e1', c2, c2']))
  exact A8 (by simp [A2c, c1, c2])
 have c2' : ¬ ((gv s 4 2 : Nat) : Int) < 8 := by omega
 by_cases c3 : s.size < gv s 4 2
 ·have c3' : ((s.size : Nat) : Int) < gv s 4 2 := by omega
  (have zz:=trivial;repeat((first|clear zz|with_reducible first|refine A3 ?_|refine A5 fun _=>?_|refine A4 fun _=>?_);try simp(disch:=first|omega|assumption|((repeat(first|exact A1|exact uH|apply A2|apply uT));first|done|fail)|(simp;first|done|omega|fail))[e1', c2, c2', c3, c3']))
  exact A8 (by simp [A2c, c1, c2, c3])
 have c3' : ¬ ((s.size : Nat) : Int) < gv s 4 2 := by omega
 (have zz:=trivial;repeat((first|clear zz|with_reducible first|refine A3 ?_|refine A5 fun _=>?_|refine A4 fun _=>?_);try simp(disch:=first|omega|assumption|((repeat(first|exact A1|exact uH|apply A2|apply uT));first|done|fail)|(simp;first|done|omega|fail))[e1', c2, c2', c3, c3']))
 exact A8 (by simp [A2c, c1, c2, c3])
theorem B0T (w : World) (f : Int) : Fn PR C5 114 #[.agg #[], .int .i64 f] w (fun v w' => v = .tuple #[.string (A1F f).1, .int .i64 (A1F f).2] ∧ B6 [] w w') := by
 refine Fn.pure (A4l (TW.go (κ := false) (S := []) ?_))
 unfold A0p
 by_cases c1 : f = 0
 ·(have zz:=trivial;repeat((first|clear zz|with_reducible first|refine A3 ?_|refine A5 fun _=>?_|refine A4 fun _=>?_);try simp(disch:=first|omega|assumption|((repeat(first|exact A1|exact uH|apply A2|apply uT));first|done|fail)|(simp;first|done|omega|fail))[c1])); exact A8 (by simp [A1F, c1])
 ·(have zz:=trivial;repeat((first|clear zz|with_reducible first|refine A3 ?_|refine A5 fun _=>?_|refine A4 fun _=>?_);try simp(disch:=first|omega|assumption|((repeat(first|exact A1|exact uH|apply A2|apply uT));first|done|fail)|(simp;first|done|omega|fail))[c1])); exact A8 (by simp [A1F, c1])
def r9 (number : Int) (s : ByteArray) : Nat × Nat := if number = 6 then A2Y s else if number = 17 then A2c s else (0, 7)
def Q5 (number : Int) (s : ByteArray) : Nat × Nat × Nat × Nat := if (r9 number s).2 ≠ 0 then (0, 0, 0, (r9 number s).2) else (gv s 0 2, gv s 2 2, (r9 number s).1, 0)
def Q5.val (x : Nat × Nat × Nat × Nat) : Value := .tuple #[.agg #[.int .i64 x.1, .int .i64 x.2.1, .int .i64 x.2.2.1], .int .i64 x.2.2.2]
theorem A4U (w : World) (s : ByteArray) : (callMethod A6w "gangplank/port.parse" [Value.string s].toArray).run PR w = .ok (.enter 101 #[.agg #[], .string s]) w := by kernel_rfl
theorem A5B (w : World) (s : ByteArray) : (callMethod A7k "gangplank/port.parse" [Value.string s].toArray).run PR w = .ok (.enter 113 #[.agg #[], .string s]) w := by kernel_rfl
theorem A6a (w : World) (f : Int) : (callMethod A6w "gangplank/port.put" [Value.int .i64 f].toArray).run PR w = .ok (.enter 102 #[.agg #[], .int .i64 f]) w := by kernel_rfl
theorem A6c (w : World) (f : Int) : (callMethod A7k "gangplank/port.put" [Value.int .i64 f].toArray).run PR w = .ok (.enter 114 #[.agg #[], .int .i64 f]) w := by kernel_rfl
theorem A7A (w : World) (s : ByteArray) (hs : s.size < 2 ^ 40) (number : Int) : Fn PR C5 60 #[.int .i64 number, .string s] w (fun v w' => v = Q5.val (Q5 number s) ∧ B6 [] w w') := by
 refine Fn.pure (A6U (TW.go (κ := false) (S := []) ?_))
 unfold A2E
 (have zz:=trivial;repeat((first|clear zz|with_reducible first|refine A3 ?_|refine A5 fun _=>?_|refine A4 fun _=>?_);try simp(disch:=first|omega|assumption|((repeat(first|exact A1|exact uH|apply A2|apply uT));first|done|fail)|(simp;first|done|omega|fail))[]))
 refine K7 A0V (fun w' _ => A6F w') ?_
 rintro r v rfl
 (have zz:=trivial;repeat((first|clear zz|with_reducible first|refine A3 ?_|refine A5 fun _=>?_|refine A4 fun _=>?_);try simp(disch:=first|omega|assumption|((repeat(first|exact A1|exact uH|apply A2|apply uT));first|done|fail)|(simp;first|done|omega|fail))[]))
 rw [A4G A9s A9e (KeyT.int H6) (l := V2) (by (repeat constructor))]
 have Z8 : ∀ {f1 : Nat} {b : Nat}, True := fun {_ _} => trivial
 have hg0 := A1Z s 0
 have hg2 := A1Z s 2
 have e1 : A00 s 0 2 = gv s 0 2 := A1J s 0 2 (by omega) (by omega)
 have e2 : A00 s 2 2 = gv s 2 2 := A1J s 2 2 (by omega) (by omega)
 by_cases c1 : number = 6
 ·rw [show (V4 number V2).getD .nilIface = A6w by subst c1; rfl]
  (have zz:=trivial;repeat((first|clear zz|with_reducible first|refine A3 ?_|refine A5 fun _=>?_|refine A4 fun _=>?_);try simp(disch:=first|omega|assumption|((repeat(first|exact A1|exact uH|apply A2|apply uT));first|done|fail)|(simp;first|done|omega|fail))[p3, n8]))
  refine A6j (fun w => A4U w s) (fun w' hw' => A8W w' s hs) ?_
  by_cases c2 : (A2Y s).2 = 0
  ·(have zz:=trivial;repeat((first|clear zz|with_reducible first|refine A3 ?_|refine A5 fun _=>?_|refine A4 fun _=>?_);try simp(disch:=first|omega|assumption|((repeat(first|exact A1|exact uH|apply A2|apply uT));first|done|fail)|(simp;first|done|omega|fail))[c2]))
   refine C8 K1 (fun w' _ => s5 w' s (by omega) _ _) ?_
   (have zz:=trivial;repeat((first|clear zz|with_reducible first|refine A3 ?_|refine A5 fun _=>?_|refine A4 fun _=>?_);try simp(disch:=first|omega|assumption|((repeat(first|exact A1|exact uH|apply A2|apply uT));first|done|fail)|(simp;first|done|omega|fail))[e1]))
   refine C8 K1 (fun w' _ => s5 w' s (by omega) _ _) ?_
   (have zz:=trivial;repeat((first|clear zz|with_reducible first|refine A3 ?_|refine A5 fun _=>?_|refine A4 fun _=>?_);try simp(disch:=first|omega|assumption|((repeat(first|exact A1|exact uH|apply A2|apply uT));first|done|fail)|(simp;first|done|omega|fail))[e1, e2]))
   exact A8 (by simp [Q5, r9, Q5.val, c1, c2])
  ·(have zz:=trivial;repeat((first|clear zz|with_reducible first|refine A3 ?_|refine A5 fun _=>?_|refine A4 fun _=>?_);try simp(disch:=first|omega|assumption|((repeat(first|exact A1|exact uH|apply A2|apply uT));first|done|fail)|(simp;first|done|omega|fail))[c2]))
   exact A8 (by simp [Q5, r9, Q5.val, c1, c2])
 by_cases c1' : number = 17
 ·rw [show (V4 number V2).getD .nilIface = A7k by subst c1'; rfl]
  (have zz:=trivial;repeat((first|clear zz|with_reducible first|refine A3 ?_|refine A5 fun _=>?_|refine A4 fun _=>?_);try simp(disch:=first|omega|assumption|((repeat(first|exact A1|exact uH|apply A2|apply uT));first|done|fail)|(simp;first|done|omega|fail))[p3, n8]))
  refine A6j (fun w => A5B w s) (fun w' hw' => A8U w' s hs) ?_
  by_cases c2 : (A2c s).2 = 0
  ·(have zz:=trivial;repeat((first|clear zz|with_reducible first|refine A3 ?_|refine A5 fun _=>?_|refine A4 fun _=>?_);try simp(disch:=first|omega|assumption|((repeat(first|exact A1|exact uH|apply A2|apply uT));first|done|fail)|(simp;first|done|omega|fail))[c2]))
   refine C8 K1 (fun w' _ => s5 w' s (by omega) _ _) ?_
   (have zz:=trivial;repeat((first|clear zz|with_reducible first|refine A3 ?_|refine A5 fun _=>?_|refine A4 fun _=>?_);try simp(disch:=first|omega|assumption|((repeat(first|exact A1|exact uH|apply A2|apply uT));first|done|fail)|(simp;first|done|omega|fail))[e1]))
   refine C8 K1 (fun w' _ => s5 w' s (by omega) _ _) ?_
   (have zz:=trivial;repeat((first|clear zz|with_reducible first|refine A3 ?_|refine A5 fun _=>?_|refine A4 fun _=>?_);try simp(disch:=first|omega|assumption|((repeat(first|exact A1|exact uH|apply A2|apply uT));first|done|fail)|(simp;first|done|omega|fail))[e1, e2]))
   exact A8 (by simp [Q5, r9, Q5.val, c1', c2])
  ·(have zz:=trivial;repeat((first|clear zz|with_reducible first|refine A3 ?_|refine A5 fun _=>?_|refine A4 fun _=>?_);try simp(disch:=first|omega|assumption|((repeat(first|exact A1|exact uH|apply A2|apply uT));first|done|fail)|(simp;first|done|omega|fail))[c2]))
   exact A8 (by simp [Q5, r9, Q5.val, c1', c2])
 ·rw [show (V4 number V2).getD .nilIface = .nilIface by simp [V4, V2, c1, c1']]
  (have zz:=trivial;repeat((first|clear zz|with_reducible first|refine A3 ?_|refine A5 fun _=>?_|refine A4 fun _=>?_);try simp(disch:=first|omega|assumption|((repeat(first|exact A1|exact uH|apply A2|apply uT));first|done|fail)|(simp;first|done|omega|fail))[p3, n8]))
  exact A8 (by simp [Q5, r9, Q5.val, c1, c1'])
theorem W8 (s : ByteArray) : s ++ G4 = s := by apply ByteArray.ext; rw [ByteArray.data_append]; simp
theorem Y0 (s : ByteArray) : G4 ++ s = s := by apply ByteArray.ext; rw [ByteArray.data_append]; simp
def M4 (x : Int) : ByteArray := if 0 ≤ x ∧ x ≤ 65535 then D8 x 2 else G4
def M1 (x y : Int) : Bool := decide (0 ≤ x ∧ x ≤ 65535 ∧ 0 ≤ y ∧ y ≤ 65535)
theorem A67 (w : World) (x y z : Int) : Fn PR C5 42 #[.agg #[.int .i64 x, .int .i64 y, .int .i64 z]] w (fun v w' => v = .tuple #[.string (M4 x ++ M4 y), .bool (M1 x y)] ∧ B6 [] w w') := by
 refine Fn.pure (A6P (TW.go (κ := false) (S := []) ?_))
 unfold A2K
 by_cases c1 : 0 ≤ x ∧ x ≤ 65535
 ·have c1' := c1.1; have c1'' := c1.2
  (have zz:=trivial;repeat((first|clear zz|with_reducible first|refine A3 ?_|refine A5 fun _=>?_|refine A4 fun _=>?_);try simp(disch:=first|omega|assumption|((repeat(first|exact A1|exact uH|apply A2|apply uT));first|done|fail)|(simp;first|done|omega|fail))[c1', c1'']))
  refine C8 E3 (fun w' hw' => U9 w' _ _) ?_
  by_cases c2 : 0 ≤ y ∧ y ≤ 65535
  ·have c2' := c2.1; have c2'' := c2.2
   (have zz:=trivial;repeat((first|clear zz|with_reducible first|refine A3 ?_|refine A5 fun _=>?_|refine A4 fun _=>?_);try simp(disch:=first|omega|assumption|((repeat(first|exact A1|exact uH|apply A2|apply uT));first|done|fail)|(simp;first|done|omega|fail))[c1', c1'', c2', c2'']))
   refine C8 E3 (fun w' hw' => U9 w' _ _) ?_
   (have zz:=trivial;repeat((first|clear zz|with_reducible first|refine A3 ?_|refine A5 fun _=>?_|refine A4 fun _=>?_);try simp(disch:=first|omega|assumption|((repeat(first|exact A1|exact uH|apply A2|apply uT));first|done|fail)|(simp;first|done|omega|fail))[c1', c1'', c2', c2'', N8]))
   exact A8 (by simp [W8, Y0, M4, M1, c1, c2])
  ·by_cases c3 : 0 ≤ y
   ·have c4 : ¬ y ≤ 65535 := fun h => c2 ⟨c3, h⟩
    (have zz:=trivial;repeat((first|clear zz|with_reducible first|refine A3 ?_|refine A5 fun _=>?_|refine A4 fun _=>?_);try simp(disch:=first|omega|assumption|((repeat(first|exact A1|exact uH|apply A2|apply uT));first|done|fail)|(simp;first|done|omega|fail))[c1', c1'', c3, c4]))
    exact A8 (by simp [W8, Y0, M4, M1, c1, c3, c4])
   ·(have zz:=trivial;repeat((first|clear zz|with_reducible first|refine A3 ?_|refine A5 fun _=>?_|refine A4 fun _=>?_);try simp(disch:=first|omega|assumption|((repeat(first|exact A1|exact uH|apply A2|apply uT));first|done|fail)|(simp;first|done|omega|fail))[c1', c1'', c3]))
    exact A8 (by simp [W8, Y0, M4, M1, c1, c3])
 ·have hn : M4 x = G4 := by simp [M4, c1]
  have ho : M1 x y = false := by simp only [M1, decide_eq_false_iff_not]; exact fun h => c1 ⟨h.1, h.2.1⟩
  rw [hn, ho]
  have key : ∀ bx, TW false [] w [.pt bx (.cells #[.int .i64 x, .int .i64 y, .int .i64 z] 76)] = TW false [] w [.pt bx (.cells #[.int .i64 x, .int .i64 y, .int .i64 z] 76)] := fun _ => rfl
  by_cases c0 : 0 ≤ x
  ·have c0' : ¬ x ≤ 65535 := fun h => c1 ⟨c0, h⟩
   by_cases c2 : 0 ≤ y ∧ y ≤ 65535
   ·have c2' := c2.1; have c2'' := c2.2
    (have zz:=trivial;repeat((first|clear zz|with_reducible first|refine A3 ?_|refine A5 fun _=>?_|refine A4 fun _=>?_);try simp(disch:=first|omega|assumption|((repeat(first|exact A1|exact uH|apply A2|apply uT));first|done|fail)|(simp;first|done|omega|fail))[c0, c0', c2', c2'']))
    refine C8 E3 (fun w' hw' => U9 w' _ _) ?_
    (have zz:=trivial;repeat((first|clear zz|with_reducible first|refine A3 ?_|refine A5 fun _=>?_|refine A4 fun _=>?_);try simp(disch:=first|omega|assumption|((repeat(first|exact A1|exact uH|apply A2|apply uT));first|done|fail)|(simp;first|done|omega|fail))[c0, c0', c2', c2'', N8]))
    exact A8 (by simp [W8, Y0, M4, c2])
   ·by_cases c3 : 0 ≤ y
    ·have c4 : ¬ y ≤ 65535 := fun h => c2 ⟨c3, h⟩
     (have zz:=trivial;repeat((first|clear zz|with_reducible first|refine A3 ?_|refine A5 fun _=>?_|refine A4 fun _=>?_);try simp(disch:=first|omega|assumption|((repeat(first|exact A1|exact uH|apply A2|apply uT));first|done|fail)|(simp;first|done|omega|fail))[c0, c0', c3, c4]))
     exact A8 (by simp [W8, Y0, M4, c3, c4])
    ·(have zz:=trivial;repeat((first|clear zz|with_reducible first|refine A3 ?_|refine A5 fun _=>?_|refine A4 fun _=>?_);try simp(disch:=first|omega|assumption|((repeat(first|exact A1|exact uH|apply A2|apply uT));first|done|fail)|(simp;first|done|omega|fail))[c0, c0', c3]))
     exact A8 (by simp [W8, Y0, M4, c3])
  ·by_cases c2 : 0 ≤ y ∧ y ≤ 65535
   ·have c2' := c2.1; have c2'' := c2.2
    (have zz:=trivial;repeat((first|clear zz|with_reducible first|refine A3 ?_|refine A5 fun _=>?_|refine A4 fun _=>?_);try simp(disch:=first|omega|assumption|((repeat(first|exact A1|exact uH|apply A2|apply uT));first|done|fail)|(simp;first|done|omega|fail))[c0, c2', c2'']))
    refine C8 E3 (fun w' hw' => U9 w' _ _) ?_
    (have zz:=trivial;repeat((first|clear zz|with_reducible first|refine A3 ?_|refine A5 fun _=>?_|refine A4 fun _=>?_);try simp(disch:=first|omega|assumption|((repeat(first|exact A1|exact uH|apply A2|apply uT));first|done|fail)|(simp;first|done|omega|fail))[c0, c2', c2'', N8]))
    exact A8 (by simp [W8, Y0, M4, c2])
   ·by_cases c3 : 0 ≤ y
    ·have c4 : ¬ y ≤ 65535 := fun h => c2 ⟨c3, h⟩
     (have zz:=trivial;repeat((first|clear zz|with_reducible first|refine A3 ?_|refine A5 fun _=>?_|refine A4 fun _=>?_);try simp(disch:=first|omega|assumption|((repeat(first|exact A1|exact uH|apply A2|apply uT));first|done|fail)|(simp;first|done|omega|fail))[c0, c3, c4]))
     exact A8 (by simp [W8, Y0, M4, c3, c4])
    ·(have zz:=trivial;repeat((first|clear zz|with_reducible first|refine A3 ?_|refine A5 fun _=>?_|refine A4 fun _=>?_);try simp(disch:=first|omega|assumption|((repeat(first|exact A1|exact uH|apply A2|apply uT));first|done|fail)|(simp;first|done|omega|fail))[c0, c3]))
     exact A8 (by simp [W8, Y0, M4, c3])
def A0N (number f : Int) : ByteArray × Nat := if number = 6 then A0C f else if number = 17 then A1F f else (G4, 7)
def P1 (number x y f : Int) : ByteArray × Nat := if number ≠ 6 ∧ number ≠ 17 then (G4, 7) else if M1 x y = false ∨ (A0N number f).2 ≠ 0 then (G4, 1) else (D8 x 2 ++ D8 y 2 ++ (A0N number f).1, 0)
theorem A7u {x y : Int} (h : M1 x y = true) : M4 x ++ M4 y = D8 x 2 ++ D8 y 2 := by
 simp only [M1, decide_eq_true_eq] at h
 unfold M4; rw [if_pos (by omega), if_pos (by omega)]
theorem A1v (w : World) (number x y f : Int) : Fn PR C5 24 #[.int .i64 number, .agg #[.int .i64 x, .int .i64 y, .int .i64 f]] w (fun v w' => v = .tuple #[.string (P1 number x y f).1, .int .i64 (P1 number x y f).2] ∧ B6 [] w w') := by
 refine Fn.pure (A8F (TW.go (κ := false) (S := []) ?_))
 unfold A3k
 (have zz:=trivial;repeat((first|clear zz|with_reducible first|refine A3 ?_|refine A5 fun _=>?_|refine A4 fun _=>?_);try simp(disch:=first|omega|assumption|((repeat(first|exact A1|exact uH|apply A2|apply uT));first|done|fail)|(simp;first|done|omega|fail))[]))
 refine K7 A0V (fun w' _ => A6F w') ?_
 rintro r v rfl
 (have zz:=trivial;repeat((first|clear zz|with_reducible first|refine A3 ?_|refine A5 fun _=>?_|refine A4 fun _=>?_);try simp(disch:=first|omega|assumption|((repeat(first|exact A1|exact uH|apply A2|apply uT));first|done|fail)|(simp;first|done|omega|fail))[]))
 rw [A4G A9s A9e (KeyT.int H6) (l := V2) (by (repeat constructor))]
 by_cases c1 : number = 6
 ·rw [show (V4 number V2).getD .nilIface = A6w by subst c1; rfl]
  (have zz:=trivial;repeat((first|clear zz|with_reducible first|refine A3 ?_|refine A5 fun _=>?_|refine A4 fun _=>?_);try simp(disch:=first|omega|assumption|((repeat(first|exact A1|exact uH|apply A2|apply uT));first|done|fail)|(simp;first|done|omega|fail))[p3, n8]))
  refine C8 A1U (fun w' hw' => A67 w' _ _ _) ?_
  (have zz:=trivial;repeat((first|clear zz|with_reducible first|refine A3 ?_|refine A5 fun _=>?_|refine A4 fun _=>?_);try simp(disch:=first|omega|assumption|((repeat(first|exact A1|exact uH|apply A2|apply uT));first|done|fail)|(simp;first|done|omega|fail))[]))
  refine A6j (fun w => A6a w f) (fun w' hw' => B0D w' f) ?_
  cases c3 : M1 x y with
  | false => (have zz:=trivial;repeat((first|clear zz|with_reducible first|refine A3 ?_|refine A5 fun _=>?_|refine A4 fun _=>?_);try simp(disch:=first|omega|assumption|((repeat(first|exact A1|exact uH|apply A2|apply uT));first|done|fail)|(simp;first|done|omega|fail))[c3])); exact A8 (by simp [P1, c1, c3])
  | true =>
   have hp := A7u c3
   by_cases c2 : (A0C f).2 = 0
   ·have hz : (M4 x).size + (M4 y).size + (A0C f).1.size < 2 ^ 30 := by
     have := congrArg ByteArray.size hp
     simp at this
     have h6 := W5 6
     have h8 := W5 8
     have : (A0C f).1.size ≤ 100 := by unfold A0C; split <;> simp [h6, h8]
     omega
    (have zz:=trivial;repeat((first|clear zz|with_reducible first|refine A3 ?_|refine A5 fun _=>?_|refine A4 fun _=>?_);try simp(disch:=first|omega|assumption|((repeat(first|exact A1|exact uH|apply A2|apply uT));first|done|fail)|(simp;first|done|omega|fail))[c2, c3, N8]))
    exact A8 (by simp [P1, A0N, c1, c2, c3, hp])
   ·(have zz:=trivial;repeat((first|clear zz|with_reducible first|refine A3 ?_|refine A5 fun _=>?_|refine A4 fun _=>?_);try simp(disch:=first|omega|assumption|((repeat(first|exact A1|exact uH|apply A2|apply uT));first|done|fail)|(simp;first|done|omega|fail))[c2, c3]))
    exact A8 (by simp [P1, A0N, c1, c2, c3])
 by_cases c1' : number = 17
 ·rw [show (V4 number V2).getD .nilIface = A7k by subst c1'; rfl]
  (have zz:=trivial;repeat((first|clear zz|with_reducible first|refine A3 ?_|refine A5 fun _=>?_|refine A4 fun _=>?_);try simp(disch:=first|omega|assumption|((repeat(first|exact A1|exact uH|apply A2|apply uT));first|done|fail)|(simp;first|done|omega|fail))[p3, n8]))
  refine C8 A1U (fun w' hw' => A67 w' _ _ _) ?_
  (have zz:=trivial;repeat((first|clear zz|with_reducible first|refine A3 ?_|refine A5 fun _=>?_|refine A4 fun _=>?_);try simp(disch:=first|omega|assumption|((repeat(first|exact A1|exact uH|apply A2|apply uT));first|done|fail)|(simp;first|done|omega|fail))[]))
  refine A6j (fun w => A6c w f) (fun w' hw' => B0T w' f) ?_
  cases c3 : M1 x y with
  | false => (have zz:=trivial;repeat((first|clear zz|with_reducible first|refine A3 ?_|refine A5 fun _=>?_|refine A4 fun _=>?_);try simp(disch:=first|omega|assumption|((repeat(first|exact A1|exact uH|apply A2|apply uT));first|done|fail)|(simp;first|done|omega|fail))[c3])); exact A8 (by simp [P1, c1', c3])
  | true =>
   have hp := A7u c3
   by_cases c2 : (A1F f).2 = 0
   ·have hz : (M4 x).size + (M4 y).size + (A1F f).1.size < 2 ^ 30 := by
     have := congrArg ByteArray.size hp
     simp at this
     have : (A1F f).1.size ≤ 100 := by unfold A1F; split <;> simp
     omega
    (have zz:=trivial;repeat((first|clear zz|with_reducible first|refine A3 ?_|refine A5 fun _=>?_|refine A4 fun _=>?_);try simp(disch:=first|omega|assumption|((repeat(first|exact A1|exact uH|apply A2|apply uT));first|done|fail)|(simp;first|done|omega|fail))[c2, c3, N8]))
    exact A8 (by simp [P1, A0N, c1', c2, c3, hp])
   ·(have zz:=trivial;repeat((first|clear zz|with_reducible first|refine A3 ?_|refine A5 fun _=>?_|refine A4 fun _=>?_);try simp(disch:=first|omega|assumption|((repeat(first|exact A1|exact uH|apply A2|apply uT));first|done|fail)|(simp;first|done|omega|fail))[c2, c3]))
    exact A8 (by simp [P1, A0N, c1', c2, c3])
 ·rw [show (V4 number V2).getD .nilIface = .nilIface by simp [V4, V2, c1, c1']]
  (have zz:=trivial;repeat((first|clear zz|with_reducible first|refine A3 ?_|refine A5 fun _=>?_|refine A4 fun _=>?_);try simp(disch:=first|omega|assumption|((repeat(first|exact A1|exact uH|apply A2|apply uT));first|done|fail)|(simp;first|done|omega|fail))[p3, n8]))
  exact A8 (by simp [P1, c1, c1'])
end Go.Proofs.Ytlplkjgcfjdinaa
