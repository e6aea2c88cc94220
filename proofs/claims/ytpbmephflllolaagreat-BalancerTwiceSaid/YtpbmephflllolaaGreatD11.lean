/- The proof of a given statement, a part of it (Map ShIp6 ShIp4 ShSum Sum Ip4 Ip6 Port). No condition but what each lemma says. -/
import Derived.MapKept
import Derived.Test.YtpbmephflllolaaGreatD10
set_option linter.unusedVariables false
set_option linter.unusedSimpArgs false
namespace Go.Proofs.YtpbmephflllolaaGreat
open Go
section
variable {κ : Type} [DecidableEq κ]
def S9 (enc : κ → Value) : List (κ × Value) → Nat → List MapEntry
 | [], _ => []
 | p :: l, i => ⟨enc p.1, p.2, i⟩ :: S9 enc l (i + 1)
def l5 (enc : κ → Value) (l : List (κ × Value)) : Obj := .map (S9 enc l 0).toArray l.length
def A1s (k : κ) : List (κ × Value) → Nat → Option (Nat × Value)
 | [], _ => none
 | p :: l, i => if k = p.1 then some (i, p.2) else A1s k l (i + 1)
def j6 (k : κ) : List (κ × Value) → Option Value
 | [] => none
 | p :: l => if k = p.1 then some p.2 else j6 k l
def j8 (k : κ) (v : Value) : List (κ × Value) → List (κ × Value)
 | [] => [(k, v)]
 | p :: l => if k = p.1 then (k, v) :: l else p :: j8 k v l
theorem B7V (k k' : κ) (v : Value) (l : List (κ × Value)) : j6 k' (j8 k v l) = if k' = k then some v else j6 k' l := by
 induction l with
 | nil => simp [j8, j6]
 | cons p l ih =>
  simp only [j8]
  by_cases h : k = p.1
  ·rw [if_pos h]; simp only [j6]
   by_cases h' : k' = k
   ·rw [if_pos h', if_pos h']
   ·rw [if_neg h', if_neg h', if_neg (by rw [← h]; exact h')]
  ·rw [if_neg h]; simp only [j6, ih]
   by_cases h' : k' = p.1
   ·rw [if_pos h', if_pos h', if_neg (by rw [h']; exact fun e => h e.symm)]
   ·rw [if_neg h', if_neg h']
theorem B7K (k : κ) (l : List (κ × Value)) (i : Nat) : (A1s k l i).map (·.2) = j6 k l := by
 induction l generalizing i with
 | nil => rfl
 | cons p l ih => simp only [A1s, j6]; split <;> simp [ih]
@[simp] theorem C6z {α : Type} (enc : α → Value) (l : List (α × Value)) (i : Nat) : (S9 enc l i).length = l.length := by
 induction l generalizing i with
 | nil => rfl
 | cons p l ih => simp [S9, ih]
theorem B33 {α : Type} (enc : α → Value) (l m : List (α × Value)) (i : Nat) : S9 enc (l ++ m) i = S9 enc l i ++ S9 enc m (i + l.length) := by
 induction l generalizing i with
 | nil => simp [S9]
 | cons p l ih => simp only [List.cons_append, S9, ih, List.length_cons]; congr 3; omega
theorem B7Z (k : κ) (v : Value) (l : List (κ × Value)) (j : Nat) (h : A1s k l j = none) : j8 k v l = l ++ [(k, v)] := by
 induction l generalizing j with
 | nil => rfl
 | cons p l ih =>
  simp only [A1s] at h
  split at h
  ·cases h
  ·rename_i hn; simp only [j8, if_neg hn, List.cons_append, ih _ h]
theorem B8w (enc : κ → Value) (k : κ) (v : Value) (l : List (κ × Value)) : ∀ (j n : Nat) (u : Value), A1s k l j = some (n, u) → j ≤ n ∧ n < j + l.length ∧ ((S9 enc l j)[n - j]?).map (·.key) = some (enc k) ∧
  S9 enc (j8 k v l) j = (S9 enc l j).modify (n - j) (fun e => { e with key := enc k, val := v }) := by
 induction l with
 | nil => intro j n u h; cases h
 | cons p l ih =>
  intro j n u h
  simp only [A1s] at h
  split at h
  ·rename_i hk; cases h
   refine ⟨Nat.le_refl _, by simp, by simp [S9, hk], ?_⟩
   simp only [j8, if_pos hk, S9, Nat.sub_self, List.modify_zero_cons]
  ·rename_i hn
   obtain ⟨h1, h2, h3, h4⟩ := ih _ _ _ h
   have e : n - j = n - (j + 1) + 1 := by omega
   refine ⟨by omega, by simp only [List.length_cons]; omega, by rw [e]; simpa [S9] using h3, ?_⟩
   simp only [j8, if_neg hn, S9, e, List.modify_succ_cons, h4]
structure KeyT (P : Program) (kt : TypeId) (enc : κ → Value) : Prop where
 find : ∀ k l j w, (Instr.findKey kt (enc k) (S9 enc l j)).run P w = .ok (A1s k l 0) w
 check : ∀ k e w, (Instr.checkKey e 10000 kt (enc k)).run P w = .ok () w
 stays : ∀ k, Instr.sameBits 10000 (enc k) (enc k) = true
theorem A6V {d : TypeDesc} {enc : κ → Value} (hs : ∀ a b, Instr.sameNow d (enc a) (enc b) = some (decide (a = b))) (k : κ) (l : List (κ × Value)) : ∀ j i, Instr.findNow d (enc k) (S9 enc l j) i = some (A1s k l i) := by
 induction l with
 | nil => intro j i; rfl
 | cons p l ih =>
  intro j i
  simp only [S9, Instr.findNow, hs, A1s]
  by_cases h : k = p.1
  ·simp [h]
  ·simp [h, ih]
end
theorem KeyT.int {P : Program} {kt : TypeId} {n m : Nat} {z : Value} (h : TI P kt (.int .i64) n m z) : KeyT P kt (fun a : Int => Value.int .i64 a) := by
 refine ⟨fun k l j w => ?_, fun k e w => ?_, fun k => ?_⟩
 ·exact MapKept.run_findKey h.und (A6V (fun a b => by simp [Instr.sameNow]; exact B0H a b) k l j 0)
 ·exact MapKept.run_checkKey h.und (by trivial) e 9999
 ·simp [Instr.sameBits]
theorem KeyT.string {P : Program} {kt : TypeId} {n m : Nat} {z : Value} (h : TI P kt .string n m z) : KeyT P kt Value.string := by
 refine ⟨fun k l j w => ?_, fun k e w => ?_, fun k => ?_⟩
 ·exact MapKept.run_findKey h.und (A6V (fun a b => by simp only [Instr.sameNow, B66]) k l j 0)
 ·exact MapKept.run_checkKey h.und (by trivial) e 9999
 ·simp only [Instr.sameBits, B66, decide_true]
section
variable {κ : Type} [DecidableEq κ] {enc : κ → Value} {σ : Bool} {P : Program} {X : Nat → Prop} {S : List Nat} {w0 : World} {H H' : List Res} {K : Value → WP} {K0 : WP} {t kt et : TypeId} {n m n2 m2 : Nat} {z z2 : Value} {d : TypeDesc}
theorem B48 {α : Type} (enc : α → Value) (hK : ∀ r, TW σ S w0 (.pt r (l5 enc []) :: H) (K (.map (some r)))) : TW σ S w0 H (B1 P X (Instr.makeMap t none) K) := fun w hw => by
 have : (Instr.makeMap t none).run P w = .ok (.map (some (sz w))) (w.alloc (l5 enc [])) := by simp [Instr.makeMap, run_newObj, l5, S9, sz]
 rw [T3 this (Sk.alloc X w _ (Or.inl rfl))]
 exact hK _ _ (hw.new rfl (Or.inl rfl))
theorem A8Y (hm : TI P t (.map kt et) n m z) (he : TI P et d n2 m2 z2) (hk : KeyT P kt enc) {r : Nat} {l : List (κ × Value)} {k : κ} (hr : Res.pt r (l5 enc l) ∈ H) :
  TW σ S w0 H (A6 P (Instr.lookup t (.map (some r)) (enc k) false) K) = TW σ S w0 H (K ((j6 k l).getD z2)) := TW.congr fun w hw => by
 have hb : w.heap[r]? = some (.map (S9 enc l 0).toArray l.length) := hw.pt hr
 refine Q3 ?_ K
 have h1 : (getObj r).run P w = .ok (.map (S9 enc l 0).toArray l.length) w := MapKept.run_getObj_map hb
 simp only [Instr.lookup, Sem.run_bind, hm.run_und, Result.andThen_ok, h1, Sem.run_pure, hk.check, hk.find]
 rw [← B7K k l 0]
 cases A1s k l 0 with
 | none => simp [he.run_zero]
 | some p => simp
theorem A76 (hm : TI P t (.map kt et) n m z) (hk : KeyT P kt enc) {r : Nat} {l : List (κ × Value)} {k : κ} {v : Value} (hu : Up (.pt r (l5 enc l)) (.pt r (l5 enc (j8 k v l))) H H') (hK : TW σ S w0 H' K0) :
  TW σ S w0 H (B9 P X (Instr.mapUpdate t (.map (some r)) (enc k) v) K0) := fun w hw => by
 have hmem : Res.pt r (l5 enc l) ∈ H := by obtain ⟨A, B, rfl, _⟩ := hu.parts; simp
 have hb0 := hw.pt hmem
 have hb : w.heap[r]? = some (.map (S9 enc l 0).toArray l.length) := hb0
 have h1 : (getObj r).run P w = .ok (.map (S9 enc l 0).toArray l.length) w := MapKept.run_getObj_map hb
 have hrun : (Instr.mapUpdate t (.map (some r)) (enc k) v).run P w = .ok () (World.putb w r (l5 enc (j8 k v l))) := by
  simp only [Instr.mapUpdate, Sem.run_bind, hm.run_und, Result.andThen_ok, h1, hk.check, hk.find]
  cases hf : A1s k l 0 with
  | none =>
   have e := B7Z k v l 0 hf
   simp [l5, e, B33, S9, World.putb, MapKept.run_setObj_map _ hb]
  | some p =>
   obtain ⟨i, u⟩ := p
   obtain ⟨_, h2, h3, h4⟩ := B8w enc k v l 0 i u hf
   have hl : (j8 k v l).length = l.length := by
    have := congrArg List.length h4; simpa using this
   simp only [Nat.sub_zero] at h3 h4
   simp [l5, h4, hl, World.putb, MapKept.run_setObj_map _ hb, Instr.keyThatStays, h3, hk.stays]
 have hks : KS σ [r] w (World.putb w r (l5 enc (j8 k v l))) := by
  refine ((C3.refl [r] w).putb _ (Or.inl (by simp))).ks fun _ => ?_
  have h2 : ∀ (q : Nat) x, (∀ c T, x ≠ Obj.map c T) → w.heap[q]? = some x → (World.putb w r (l5 enc (j8 k v l))).heap[q]? = some x := fun q x hx e => by
   have : r ≠ q := by rintro rfl; rw [hb] at e; cases e; exact hx _ _ rfl
   exact (l2 (w := w) (o := l5 enc (j8 k v l)) this).trans e
  exact ⟨by simp [World.putb], fun q d => h2 q _ (by simp), fun q lo _ => h2 q _ (by simp), rfl, rfl⟩
 have hsk : Sk X w (World.putb w r (l5 enc (j8 k v l))) := by
  have h2 : ∀ (q : Nat) x, (∀ c T, x ≠ Obj.map c T) → w.heap[q]? = some x → (World.putb w r (l5 enc (j8 k v l))).heap[q]? = some x := fun q x hx e => by
   have : r ≠ q := by rintro rfl; rw [hb] at e; cases e; exact hx _ _ rfl
   exact (l2 (w := w) (o := l5 enc (j8 k v l)) this).trans e
  exact ⟨by simp [World.putb], fun q d => h2 q _ (by simp), fun q lo _ => h2 q _ (by simp), rfl, rfl⟩
 rw [B61 hrun hsk]
 refine hK _ (hw.up hu ⟨hks, ?_, ?_, by simp⟩)
 ·simp only [List.mem_singleton, forall_eq, Res.holds]; exact ⟨P1 (G3 hb0), rfl⟩
 ·simp only [List.mem_singleton, forall_eq, Res.foot]; exact ⟨Or.inl (by simp), by have := G3 hb0; simpa using this⟩
end
end Go.Proofs.YtpbmephflllolaaGreat
namespace Go.Proofs.YtpbmephflllolaaGreat
open Go
def A8q (X : Nat → Prop) (t0 t1 : Value) (R : Value → WP) : WP :=
 B1 PR X (Instr.box 122 t0) fun t2 =>
 jn (n := 2) (fun t4 t5 =>
 B1 PR X (Instr.alloc 189 true (.tuple #[])) fun t6 =>
 B2 PR X 94 [t6, (.int .i64 1610612736), (.int .i64 4)] fun t34 =>
 A0 PR (A8 .len #[9] 0 [t1]) fun t36 =>
 B2 PR X 94 [t6, t36, (.int .i64 2)] fun t37 =>
 A0 PR (Instr.fieldAt 122 t2 2) fun t38 =>
 A6 PR (Instr.loadAt 3 t38) fun t39 =>
 B2 PR X 94 [t6, t39, (.int .i64 1)] fun t40 =>
 B2 PR X 94 [t6, (.int .i64 64), (.int .i64 1)] fun t41 =>
 jn (n := 1) (fun t49 =>
 A0 PR (Instr.fieldAt 189 t6 0) fun t57 =>
 B2 PR X 96 [t57] fun t58 =>
 R (.tuple #[t58, (.int .i64 0)])) fun J1 =>
 A0 PR (Instr.fieldAt 122 t2 0) fun t42 =>
 A6 PR (Instr.loadAt 9 t42) fun t43 =>
 A0 PR (Instr.fieldAt 122 t2 1) fun t44 =>
 A6 PR (Instr.loadAt 9 t44) fun t45 =>
 B1 PR X (Instr.buildSlice 48 3 #[(0, t43), (1, t45), (2, t1)]) fun t47 =>
 A0 PR (A8 .len #[48] 0 [t47]) fun t48 =>
 lp (n := 1) (fun L2 t49_1 =>
 A0 PR (binOp .lss 3 t49_1 t48) fun t50 =>
 jn (n := 0) (
 jn (n := 0) (
 A0 PR (binOp .add 3 t49_1 (.int .i64 1)) fun t56 =>
 L2 t56) fun J3 =>
 A0 PR (Instr.indexAt 48 t47 t49_1) fun t51 =>
 A6 PR (Instr.loadAt 9 t51) fun t52 =>
 A0 PR (Instr.fieldAt 189 t6 0) fun t53 =>
 B2 PR X 95 [t53, t52] fun t55 =>
 J3) fun J4 =>
 B8 t50 (
 J4) (
 J1 t49_1)) (.int .i64 0)) fun J5 =>
 A0 PR (Instr.fieldAt 122 t2 0) fun t10 =>
 A6 PR (Instr.loadAt 9 t10) fun t11 =>
 A0 PR (A8 .len #[9] 0 [t11]) fun t12 =>
 A0 PR (binOp .neq 3 t12 (.int .i64 16)) fun t13 =>
 gj t13 false (fun J => A0 PR (Instr.fieldAt 122 t2 1) J) fun t15 =>
 gj t13 false (fun J => A6 PR (Instr.loadAt 9 t15) J) fun t16 =>
 gj t13 false (fun J => A0 PR (A8 .len #[9] 0 [t16]) J) fun t17 =>
 gj t13 false (fun J => A0 PR (binOp .neq 3 t17 (.int .i64 16)) J) fun t18 =>
 A0 PR (do pure (if ← asBool t13 then (.bool true) else t18)) fun t19 =>
 gj t19 false (fun J => A0 PR (Instr.fieldAt 122 t2 2) J) fun t21 =>
 gj t19 false (fun J => A6 PR (Instr.loadAt 3 t21) J) fun t22 =>
 gj t19 false (fun J => A0 PR (binOp .lss 3 t22 (.int .i64 0)) J) fun t23 =>
 A0 PR (do pure (if ← asBool t19 then (.bool true) else t23)) fun t24 =>
 gj t24 false (fun J => A0 PR (Instr.fieldAt 122 t2 2) J) fun t26 =>
 gj t24 false (fun J => A6 PR (Instr.loadAt 3 t26) J) fun t27 =>
 gj t24 false (fun J => A0 PR (binOp .gtr 3 t27 (.int .i64 255)) J) fun t28 =>
 A0 PR (do pure (if ← asBool t24 then (.bool true) else t28)) fun t29 =>
 B8 t29 (
 R (.tuple #[(.string (ByteArray.mk #[])), (.int .i64 1)])) (
 A0 PR (A8 .len #[9] 0 [t1]) fun t32 =>
 A0 PR (binOp .gtr 3 t32 (.int .i64 65535)) fun t33 =>
 B8 t33 (
 R (.tuple #[(.string (ByteArray.mk #[])), (.int .i64 4)])) (
 J5 (.string (ByteArray.mk #[])) (.int .i64 0)))
theorem B32 : A9 PR 52 := A7 Tryz.func52 (by kernel_rfl) rfl
theorem B5r {X : Nat → Prop} {t0 t1 : Value} {R : Value → WP} {w : World} (h : A8q X t0 t1 R w) : Fn PR X 52 #[t0, t1] w R := C5 (args := [t0, t1]) mixed Tryz.func52 (by kernel_rfl) h
def A0P (X : Nat → Prop) (t0 t1 t2 : Value) (R : Value → WP) : WP :=
 drw <|
 A0 PR (F4 t0) fun t7 =>
 A0 PR (Instr.fieldAt 189 t7 0) fun t8 =>
 A0 PR (convert 3 129 t1) fun t10 =>
 B2 PR X 55 [t10, t2] fun t12 =>
 B2 PR X 95 [t8, t12] fun t13 =>
 R (.tuple #[])
theorem S3 : A9 PR 94 := A7 Tryz.func94 (by kernel_rfl) rfl
theorem A46 {X : Nat → Prop} {t0 t1 t2 : Value} {R : Value → WP} {w : World} (h : A0P X t0 t1 t2 R w) : Fn PR X 94 #[t0, t1, t2] w R := C5 (args := [t0, t1, t2]) mixed Tryz.func94 (by kernel_rfl) h
def A53 (X : Nat → Prop) (t0 : Value) (R : Value → WP) : WP :=
 B1 PR X (Instr.alloc 122 true (.tuple #[])) fun t2 =>
 jn (n := 2) (fun t3 t4 =>
 jn (n := 2) (fun t3_1 t4_1 =>
 B1 PR X (Instr.buildSlice 34 6 #[(0, (.int .i64 4)), (1, (.int .i64 2)), (2, (.int .i64 1)), (3, (.int .i64 1)), (4, (.int .i64 16)), (5, (.int .i64 16))]) fun t19 =>
 B2 PR X 195 [t0, t19] fun t20 =>
 A0 PR (Instr.indexAt 48 t20 (.int .i64 1)) fun t23 =>
 A6 PR (Instr.loadAt 9 t23) fun t24 =>
 B2 PR X 148 [t24, (.int .i64 0), (.int .i64 2)] fun t25 =>
 A0 PR (Instr.extract t25 0) fun t26 =>
 A0 PR (Instr.extract t25 1) fun t27 =>
 A0 PR (Instr.indexAt 48 t20 (.int .i64 6)) fun t29 =>
 A6 PR (Instr.loadAt 9 t29) fun t30 =>
 jn (n := 2) (fun t3_2 t4_2 =>
 drw <|
 A0 PR (Instr.indexAt 48 t20 (.int .i64 4)) fun t38 =>
 A6 PR (Instr.loadAt 9 t38) fun t39 =>
 A0 PR (Instr.indexAt 48 t20 (.int .i64 5)) fun t41 =>
 A6 PR (Instr.loadAt 9 t41) fun t42 =>
 A0 PR (Instr.indexAt 48 t20 (.int .i64 2)) fun t44 =>
 A6 PR (Instr.loadAt 9 t44) fun t45 =>
 A0 PR (Instr.index 9 t45 (.int .i64 0)) fun t46 =>
 A0 PR (convert 5 3 t46) fun t47 =>
 A0 PR (Instr.build 122 #[(0, t39), (1, t42), (2, t47)]) fun t48 =>
 A0 PR (Instr.sliceAt 9 t30 none (some t26) none) fun t51 =>
 B9 PR X (Instr.storeAt 122 t2 t48) <|
 A6 PR (E5 [.c 122 t2, .v t51, .v (.int .i64 0)]) R) fun J1 =>
 A0 PR (A8 .len #[9] 0 [t30]) fun t33 =>
 A0 PR (convert 3 129 t33) fun t34 =>
 A0 PR (binOp .gtr 129 t26 t34) fun t35 =>
 B8 t35 (
 A0 PR (Instr.build 122 #[]) fun t36 =>
 B9 PR X (Instr.storeAt 122 t2 t36) <|
 A6 PR (E5 [.c 122 t2, .v (.string (ByteArray.mk #[])), .v (.int .i64 4)]) R) (
 J1 t3_1 t4_1)) fun J2 =>
 A0 PR (Instr.index 9 t0 (.int .i64 0)) fun t14 =>
 A0 PR (binOp .shr 5 t14 (.int .u64 4)) fun t15 =>
 A0 PR (binOp .neq 5 t15 (.int .u8 6)) fun t16 =>
 B8 t16 (
 A0 PR (Instr.build 122 #[]) fun t17 =>
 B9 PR X (Instr.storeAt 122 t2 t17) <|
 A6 PR (E5 [.c 122 t2, .v (.string (ByteArray.mk #[])), .v (.int .i64 3)]) R) (
 J2 t3 t4)) fun J3 =>
 A0 PR (A8 .len #[9] 0 [t0]) fun t10 =>
 A0 PR (binOp .lss 3 t10 (.int .i64 40)) fun t11 =>
 B8 t11 (
 A0 PR (Instr.build 122 #[]) fun t12 =>
 B9 PR X (Instr.storeAt 122 t2 t12) <|
 A6 PR (E5 [.c 122 t2, .v (.string (ByteArray.mk #[])), .v (.int .i64 2)]) R) (
 J3 (.string (ByteArray.mk #[])) (.int .i64 0))
theorem B1U : A9 PR 146 := A7 Tryz.func146 (by kernel_rfl) rfl
theorem B3K {X : Nat → Prop} {t0 : Value} {R : Value → WP} {w : World} (h : A53 X t0 R w) : Fn PR X 146 #[t0] w R := C5 (args := [t0]) mixed Tryz.func146 (by kernel_rfl) h
def A88 (X : Nat → Prop) (t0 t1 : Value) (R : Value → WP) : WP :=
 jn (n := 3) (fun t5 t0_1 t10 =>
 B1 PR X (Instr.buildSlice 48 1 #[(0, t0_1)]) fun t26 =>
 B1 PR X (A8 .append #[48, 48] 48 [t5, t26]) fun t27 =>
 R t27) fun J1 =>
 A0 PR (A8 .len #[34] 0 [t1]) fun t9 =>
 lp (n := 3) (fun L2 t5_1 t0_2 t10_1 =>
 A0 PR (binOp .lss 3 t10_1 t9) fun t11 =>
 jn (n := 0) (
 jn (n := 2) (fun t5_2 t0_3 =>
 A0 PR (binOp .add 3 t10_1 (.int .i64 1)) fun t23 =>
 L2 t5_2 t0_3 t23) fun J3 =>
 A0 PR (Instr.indexAt 34 t1 t10_1) fun t12 =>
 A6 PR (Instr.loadAt 3 t12) fun t13 =>
 A0 PR (Instr.sliceAt 9 t0_2 none (some t13) none) fun t17 =>
 B1 PR X (Instr.buildSlice 48 1 #[(0, t17)]) fun t18 =>
 B1 PR X (A8 .append #[48, 48] 48 [t5_1, t18]) fun t19 =>
 A0 PR (Instr.sliceAt 9 t0_2 (some t13) none none) fun t22 =>
 J3 t19 t22) fun J4 =>
 B8 t11 (
 J4) (
 J1 t5_1 t0_2 t10_1)) (.slice none 0 0) t0 (.int .i64 0)
theorem B38 : A9 PR 195 := A7 Tryz.func195 (by kernel_rfl) rfl
theorem B5y {X : Nat → Prop} {t0 t1 : Value} {R : Value → WP} {w : World} (h : A88 X t0 t1 R w) : Fn PR X 195 #[t0, t1] w R := C5 (args := [t0, t1]) mixed Tryz.func195 (by kernel_rfl) h
end Go.Proofs.YtpbmephflllolaaGreat
namespace Go.Proofs.YtpbmephflllolaaGreat
open Go
def A9V (X : Nat → Prop) (t0 t1 : Value) (R : Value → WP) : WP :=
 B1 PR X (Instr.box 124 t0) fun t2 =>
 B1 PR X (Instr.box 9 t1) fun t3 =>
 jn (n := 2) (fun t4 t5 =>
 A0 PR (Instr.makeFunc (.func 97) #[] #[t3, t2]) fun t32 =>
 drw <|
 A6 PR (Instr.loadAt 9 t3) fun t38 =>
 G9 PR X t32 [(.int .i64 0)] fun t35 =>
 watch PR [(none, (Instr.loadAt 9 t3), t38)] <|
 B2 PR X 98 [t35] fun t36 =>
 watch PR [(none, (Instr.loadAt 9 t3), t38)] <|
 G9 PR X t32 [t36] fun t37 =>
 watch PR [(none, (Instr.loadAt 9 t3), t38)] <|
 A0 PR (binOp .add 9 t37 t38) fun t39 =>
 R (.tuple #[t39, (.int .i64 0)])) fun J1 =>
 A0 PR (Instr.fieldAt 124 t2 0) fun t8 =>
 A6 PR (Instr.loadAt 9 t8) fun t9 =>
 A0 PR (A8 .len #[9] 0 [t9]) fun t10 =>
 A0 PR (binOp .neq 3 t10 (.int .i64 4)) fun t11 =>
 gj t11 false (fun J => A0 PR (Instr.fieldAt 124 t2 1) J) fun t13 =>
 gj t11 false (fun J => A6 PR (Instr.loadAt 9 t13) J) fun t14 =>
 gj t11 false (fun J => A0 PR (A8 .len #[9] 0 [t14]) J) fun t15 =>
 gj t11 false (fun J => A0 PR (binOp .neq 3 t15 (.int .i64 4)) J) fun t16 =>
 A0 PR (do pure (if ← asBool t11 then (.bool true) else t16)) fun t17 =>
 gj t17 false (fun J => A0 PR (Instr.fieldAt 124 t2 2) J) fun t19 =>
 gj t17 false (fun J => A6 PR (Instr.loadAt 3 t19) J) fun t20 =>
 gj t17 false (fun J => A0 PR (binOp .lss 3 t20 (.int .i64 0)) J) fun t21 =>
 A0 PR (do pure (if ← asBool t17 then (.bool true) else t21)) fun t22 =>
 gj t22 false (fun J => A0 PR (Instr.fieldAt 124 t2 2) J) fun t24 =>
 gj t22 false (fun J => A6 PR (Instr.loadAt 3 t24) J) fun t25 =>
 gj t22 false (fun J => A0 PR (binOp .gtr 3 t25 (.int .i64 255)) J) fun t26 =>
 A0 PR (do pure (if ← asBool t22 then (.bool true) else t26)) fun t27 =>
 B8 t27 (
 R (.tuple #[(.string (ByteArray.mk #[])), (.int .i64 1)])) (
 A6 PR (Instr.loadAt 9 t3) fun t29 =>
 A0 PR (A8 .len #[9] 0 [t29]) fun t30 =>
 A0 PR (binOp .gtr 3 t30 (.int .i64 65515)) fun t31 =>
 B8 t31 (
 R (.tuple #[(.string (ByteArray.mk #[])), (.int .i64 4)])) (
 J1 (.string (ByteArray.mk #[])) (.int .i64 0)))
theorem B3y : A9 PR 53 := A7 Tryz.func53 (by kernel_rfl) rfl
theorem B6D {X : Nat → Prop} {t0 t1 : Value} {R : Value → WP} {w : World} (h : A9V X t0 t1 R w) : Fn PR X 53 #[t0, t1] w R := C5 (args := [t0, t1]) mixed Tryz.func53 (by kernel_rfl) h
def A5W (X : Nat → Prop) (t0 t1 t2 : Value) (R : Value → WP) : WP :=
 drw <|
 A6 PR (Instr.loadAt 9 t1) fun t5 =>
 A0 PR (A8 .len #[9] 0 [t5]) fun t6 =>
 A0 PR (binOp .add 3 (.int .i64 20) t6) fun t7 =>
 A0 PR (convert 3 129 t7) fun t8 =>
 A0 PR (Instr.fieldAt 124 t2 2) fun t12 =>
 A6 PR (Instr.loadAt 3 t12) fun t13 =>
 A0 PR (convert 3 129 t13) fun t14 =>
 A0 PR (convert 3 129 t0) fun t18 =>
 A0 PR (Instr.fieldAt 124 t2 0) fun t21 =>
 A6 PR (Instr.loadAt 9 t21) fun t22 =>
 A0 PR (Instr.fieldAt 124 t2 1) fun t24 =>
 A6 PR (Instr.loadAt 9 t24) fun t25 =>
 B2 PR X 55 [t8, (.int .i64 2)] fun t9 =>
 watch PR [(none, (Instr.loadAt 9 t24), t25), (none, (Instr.loadAt 9 t21), t22), (none, (Instr.loadAt 3 t12), t13)] <|
 A0 PR (binOp .add 9 (.string (ByteArray.mk #[69, 0])) t9) fun t10 =>
 A0 PR (binOp .add 9 t10 (.string (ByteArray.mk #[0, 0, 64, 0, 64]))) fun t11 =>
 B2 PR X 55 [t14, (.int .i64 1)] fun t15 =>
 watch PR [(none, (Instr.loadAt 9 t24), t25), (none, (Instr.loadAt 9 t21), t22)] <|
 A0 PR (binOp .add 9 t11 t15) fun t16 =>
 B2 PR X 55 [t18, (.int .i64 2)] fun t19 =>
 watch PR [(none, (Instr.loadAt 9 t24), t25), (none, (Instr.loadAt 9 t21), t22)] <|
 A0 PR (binOp .add 9 t16 t19) fun t20 =>
 A0 PR (binOp .add 9 t20 t22) fun t23 =>
 A0 PR (binOp .add 9 t23 t25) fun t26 =>
 R t26
theorem A4Z : A9 PR 97 := A7 Tryz.func97 (by kernel_rfl) rfl
theorem B1m {X : Nat → Prop} {t0 t1 t2 : Value} {R : Value → WP} {w : World} (h : A5W X t0 t1 t2 R w) : Fn PR X 97 #[t0, t1, t2] w R := C5 (args := [t0, t1, t2]) mixed Tryz.func97 (by kernel_rfl) h
def A54 (X : Nat → Prop) (t0 : Value) (R : Value → WP) : WP :=
 B1 PR X (Instr.box 9 t0) fun t1 =>
 B1 PR X (Instr.alloc 124 true (.tuple #[])) fun t2 =>
 A0 PR (Instr.makeFunc (.func 187) #[] #[t1]) fun t9 =>
 B1 PR X (Instr.alloc 149 true (.tuple #[])) fun t5 =>
 B9 PR X (Instr.storeAt 149 t5 t9) <|
 drw <|
 kt (n := 2) (fun t6 t7 =>
 A0 PR (Instr.makeFunc (.func 189) #[] #[t1]) fun t16 =>
 A0 PR (Instr.build 296 #[(0, t16), (1, (.int .i64 2))]) fun t17 =>
 A0 PR (Instr.makeFunc (.func 190) #[] #[t5]) fun t18 =>
 A0 PR (Instr.build 296 #[(0, t18), (1, (.int .i64 3))]) fun t19 =>
 A0 PR (Instr.makeFunc (.func 191) #[] #[t6, t1, t7]) fun t20 =>
 A0 PR (Instr.build 296 #[(0, t20), (1, (.int .i64 4))]) fun t21 =>
 A0 PR (Instr.makeFunc (.func 192) #[] #[t1, t6]) fun t22 =>
 A0 PR (Instr.build 296 #[(0, t22), (1, (.int .i64 5))]) fun t23 =>
 A0 PR (Instr.makeFunc (.func 194) #[] #[t5]) fun t24 =>
 A0 PR (Instr.build 296 #[(0, t24), (1, (.int .i64 6))]) fun t25 =>
 B1 PR X (Instr.buildSlice 320 5 #[(0, t17), (1, t19), (2, t21), (3, t23), (4, t25)]) fun t26 =>
 B2 PR X 188 [t26] fun t27 =>
 jn (n := 2) (fun t3 t4 =>
 drw <|
 A6 PR (Instr.loadAt 9 t1) fun t32 =>
 A0 PR (Instr.sliceAt 9 t32 (some (.int .i64 12)) (some (.int .i64 16)) none) fun t33 =>
 A6 PR (Instr.loadAt 9 t1) fun t34 =>
 A0 PR (Instr.sliceAt 9 t34 (some (.int .i64 16)) (some (.int .i64 20)) none) fun t35 =>
 A6 PR (Instr.loadAt 149 t5) fun t36 =>
 A6 PR (Instr.loadAt 9 t1) fun t39 =>
 A6 PR (Instr.loadAt 3 t6) fun t40 =>
 A6 PR (Instr.loadAt 3 t7) fun t41 =>
 A0 PR (Instr.sliceAt 9 t39 (some t40) (some t41) none) fun t42 =>
 G9 PR X t36 [(.int .i64 9), (.int .i64 1)] fun t37 =>
 watch PR [(none, (Instr.loadAt 3 t7), t41), (none, (Instr.loadAt 3 t6), t40), (none, (Instr.loadAt 9 t1), t39), (none, (Instr.loadAt 9 t1), t34), (none, (Instr.loadAt 9 t1), t32)] <|
 A0 PR (Instr.build 124 #[(0, t33), (1, t35), (2, t37)]) fun t38 =>
 B9 PR X (Instr.storeAt 124 t2 t38) <|
 watch PR [(none, (Instr.loadAt 3 t7), t41), (none, (Instr.loadAt 3 t6), t40), (none, (Instr.loadAt 9 t1), t39)] <|
 A6 PR (E5 [.c 124 t2, .v t42, .v (.int .i64 0)]) R) fun J1 =>
 A0 PR (binOp .neq 28 t27 (.int .i64 0)) fun t29 =>
 B8 t29 (
 A0 PR (Instr.build 124 #[]) fun t30 =>
 B9 PR X (Instr.storeAt 124 t2 t30) <|
 A6 PR (E5 [.c 124 t2, .v (.string (ByteArray.mk #[])), .v t27]) R) (
 J1 (.string (ByteArray.mk #[])) (.int .i64 0))) fun C2 =>
 A6 PR (Instr.loadAt 149 t5) fun t10_1 =>
 A6 PR (Instr.loadAt 149 t5) fun t14_1 =>
 both (G9 PR X t10_1 [(.int .i64 0), (.int .i64 1)] fun t11_5 =>
 watch PR [(none, (Instr.loadAt 149 t5), t14_1)] <|
 A0 PR (binOp .and 3 t11_5 (.int .i64 15)) fun t12_5 =>
 A0 PR (binOp .mul 3 t12_5 (.int .i64 4)) fun t13_5 =>
 both (G9 PR X t14_1 [(.int .i64 2), (.int .i64 2)] fun t15_11 =>
 both (B1 PR X (Instr.alloc 3 true (.tuple #[])) fun t6_9 =>
 B1 PR X (Instr.alloc 3 true (.tuple #[])) fun t7_9 =>
 B9 PR X (Instr.storeAt 3 t6_9 t13_5) <|
 B9 PR X (Instr.storeAt 3 t7_9 t15_11) <|
 C2 t6_9 t7_9) (both (B1 PR X (Instr.alloc 3 true (.tuple #[])) fun t7_8 =>
 B1 PR X (Instr.alloc 3 true (.tuple #[])) fun t6_8 =>
 B9 PR X (Instr.storeAt 3 t6_8 t13_5) <|
 B9 PR X (Instr.storeAt 3 t7_8 t15_11) <|
 C2 t6_8 t7_8) ((fun _ => True)))) (both (B1 PR X (Instr.alloc 3 true (.tuple #[])) fun t6_7 =>
 watch PR [(none, (Instr.loadAt 149 t5), t14_1)] <|
 both (G9 PR X t14_1 [(.int .i64 2), (.int .i64 2)] fun t15_10 =>
 B1 PR X (Instr.alloc 3 true (.tuple #[])) fun t7_7 =>
 B9 PR X (Instr.storeAt 3 t6_7 t13_5) <|
 B9 PR X (Instr.storeAt 3 t7_7 t15_10) <|
 C2 t6_7 t7_7) (both (B1 PR X (Instr.alloc 3 true (.tuple #[])) fun t7_6 =>
 watch PR [(none, (Instr.loadAt 149 t5), t14_1)] <|
 G9 PR X t14_1 [(.int .i64 2), (.int .i64 2)] fun t15_9 =>
 B9 PR X (Instr.storeAt 3 t6_7 t13_5) <|
 B9 PR X (Instr.storeAt 3 t7_6 t15_9) <|
 C2 t6_7 t7_6) ((fun _ => True)))) (both (B1 PR X (Instr.alloc 3 true (.tuple #[])) fun t7_5 =>
 watch PR [(none, (Instr.loadAt 149 t5), t14_1)] <|
 both (G9 PR X t14_1 [(.int .i64 2), (.int .i64 2)] fun t15_8 =>
 B1 PR X (Instr.alloc 3 true (.tuple #[])) fun t6_6 =>
 B9 PR X (Instr.storeAt 3 t6_6 t13_5) <|
 B9 PR X (Instr.storeAt 3 t7_5 t15_8) <|
 C2 t6_6 t7_5) (both (B1 PR X (Instr.alloc 3 true (.tuple #[])) fun t6_5 =>
 watch PR [(none, (Instr.loadAt 149 t5), t14_1)] <|
 G9 PR X t14_1 [(.int .i64 2), (.int .i64 2)] fun t15_7 =>
 B9 PR X (Instr.storeAt 3 t6_5 t13_5) <|
 B9 PR X (Instr.storeAt 3 t7_5 t15_7) <|
 C2 t6_5 t7_5) ((fun _ => True)))) ((fun _ => True))))) (both (B1 PR X (Instr.alloc 3 true (.tuple #[])) fun t6_4 =>
 watch PR [(none, (Instr.loadAt 149 t5), t14_1), (none, (Instr.loadAt 149 t5), t10_1)] <|
 both (G9 PR X t10_1 [(.int .i64 0), (.int .i64 1)] fun t11_4 =>
 watch PR [(none, (Instr.loadAt 149 t5), t14_1)] <|
 A0 PR (binOp .and 3 t11_4 (.int .i64 15)) fun t12_4 =>
 A0 PR (binOp .mul 3 t12_4 (.int .i64 4)) fun t13_4 =>
 both (G9 PR X t14_1 [(.int .i64 2), (.int .i64 2)] fun t15_6 =>
 B1 PR X (Instr.alloc 3 true (.tuple #[])) fun t7_4 =>
 B9 PR X (Instr.storeAt 3 t6_4 t13_4) <|
 B9 PR X (Instr.storeAt 3 t7_4 t15_6) <|
 C2 t6_4 t7_4) (both (B1 PR X (Instr.alloc 3 true (.tuple #[])) fun t7_3 =>
 watch PR [(none, (Instr.loadAt 149 t5), t14_1)] <|
 G9 PR X t14_1 [(.int .i64 2), (.int .i64 2)] fun t15_5 =>
 B9 PR X (Instr.storeAt 3 t6_4 t13_4) <|
 B9 PR X (Instr.storeAt 3 t7_3 t15_5) <|
 C2 t6_4 t7_3) ((fun _ => True)))) (both (B1 PR X (Instr.alloc 3 true (.tuple #[])) fun t7_2 =>
 watch PR [(none, (Instr.loadAt 149 t5), t14_1), (none, (Instr.loadAt 149 t5), t10_1)] <|
 G9 PR X t10_1 [(.int .i64 0), (.int .i64 1)] fun t11_3 =>
 watch PR [(none, (Instr.loadAt 149 t5), t14_1)] <|
 A0 PR (binOp .and 3 t11_3 (.int .i64 15)) fun t12_3 =>
 A0 PR (binOp .mul 3 t12_3 (.int .i64 4)) fun t13_3 =>
 G9 PR X t14_1 [(.int .i64 2), (.int .i64 2)] fun t15_4 =>
 B9 PR X (Instr.storeAt 3 t6_4 t13_3) <|
 B9 PR X (Instr.storeAt 3 t7_2 t15_4) <|
 C2 t6_4 t7_2) ((fun _ => True)))) (both (B1 PR X (Instr.alloc 3 true (.tuple #[])) fun t7_1 =>
 watch PR [(none, (Instr.loadAt 149 t5), t14_1), (none, (Instr.loadAt 149 t5), t10_1)] <|
 both (G9 PR X t10_1 [(.int .i64 0), (.int .i64 1)] fun t11_2 =>
 watch PR [(none, (Instr.loadAt 149 t5), t14_1)] <|
 A0 PR (binOp .and 3 t11_2 (.int .i64 15)) fun t12_2 =>
 A0 PR (binOp .mul 3 t12_2 (.int .i64 4)) fun t13_2 =>
 both (G9 PR X t14_1 [(.int .i64 2), (.int .i64 2)] fun t15_3 =>
 B1 PR X (Instr.alloc 3 true (.tuple #[])) fun t6_3 =>
 B9 PR X (Instr.storeAt 3 t6_3 t13_2) <|
 B9 PR X (Instr.storeAt 3 t7_1 t15_3) <|
 C2 t6_3 t7_1) (both (B1 PR X (Instr.alloc 3 true (.tuple #[])) fun t6_2 =>
 watch PR [(none, (Instr.loadAt 149 t5), t14_1)] <|
 G9 PR X t14_1 [(.int .i64 2), (.int .i64 2)] fun t15_2 =>
 B9 PR X (Instr.storeAt 3 t6_2 t13_2) <|
 B9 PR X (Instr.storeAt 3 t7_1 t15_2) <|
 C2 t6_2 t7_1) ((fun _ => True)))) (both (B1 PR X (Instr.alloc 3 true (.tuple #[])) fun t6_1 =>
 watch PR [(none, (Instr.loadAt 149 t5), t14_1), (none, (Instr.loadAt 149 t5), t10_1)] <|
 G9 PR X t10_1 [(.int .i64 0), (.int .i64 1)] fun t11_1 =>
 watch PR [(none, (Instr.loadAt 149 t5), t14_1)] <|
 A0 PR (binOp .and 3 t11_1 (.int .i64 15)) fun t12_1 =>
 A0 PR (binOp .mul 3 t12_1 (.int .i64 4)) fun t13_1 =>
 G9 PR X t14_1 [(.int .i64 2), (.int .i64 2)] fun t15_1 =>
 B9 PR X (Instr.storeAt 3 t6_1 t13_1) <|
 B9 PR X (Instr.storeAt 3 t7_1 t15_1) <|
 C2 t6_1 t7_1) ((fun _ => True)))) ((fun _ => True))))
theorem B1n : A9 PR 143 := A7 Tryz.func143 (by kernel_rfl) rfl
theorem B2W {X : Nat → Prop} {t0 : Value} {R : Value → WP} {w : World} (h : A54 X t0 R w) : Fn PR X 143 #[t0] w R := C5 (args := [t0]) mixed Tryz.func143 (by kernel_rfl) h
def A3P (X : Nat → Prop) (t0 t1 t2 : Value) (R : Value → WP) : WP :=
 A6 PR (Instr.loadAt 9 t2) fun t9 =>
 B2 PR X 148 [t9, t0, t1] fun t12 =>
 A0 PR (Instr.extract t12 0) fun t13 =>
 A0 PR (Instr.extract t12 1) fun t14 =>
 A0 PR (convert 129 3 t13) fun t16 =>
 R t16
theorem j4 : A9 PR 187 := A7 Tryz.func187 (by kernel_rfl) rfl
theorem A89 {X : Nat → Prop} {t0 t1 t2 : Value} {R : Value → WP} {w : World} (h : A3P X t0 t1 t2 R w) : Fn PR X 187 #[t0, t1, t2] w R := C5 (args := [t0, t1, t2]) mixed Tryz.func187 (by kernel_rfl) h
def A6D (X : Nat → Prop) (t0 : Value) (R : Value → WP) : WP :=
 jn (n := 2) (fun t3 t8 =>
 R t3) fun J1 =>
 A0 PR (A8 .len #[320] 0 [t0]) fun t7 =>
 lp (n := 2) (fun L2 t3_1 t8_1 =>
 A0 PR (binOp .lss 3 t8_1 t7) fun t9 =>
 jn (n := 0) (
 jn (n := 1) (fun t3_2 =>
 A0 PR (binOp .add 3 t8_1 (.int .i64 1)) fun t17 =>
 L2 t3_2 t17) fun J3 =>
 A0 PR (Instr.indexAt 320 t0 t8_1) fun t10 =>
 A6 PR (Instr.loadAt 296 t10) fun t11 =>
 B1 PR X (Instr.alloc 296 true (.tuple #[])) fun t5 =>
 B9 PR X (Instr.storeAt 296 t5 t11) <|
 A0 PR (Instr.fieldAt 296 t5 0) fun t12 =>
 A6 PR (Instr.loadAt 25 t12) fun t13 =>
 G9 PR X t13 [] fun t14 =>
 B8 t14 (
 A0 PR (Instr.fieldAt 296 t5 1) fun t15 =>
 A6 PR (Instr.loadAt 28 t15) fun t16 =>
 J1 t16 t8_1) (
 J3 t3_1)) fun J4 =>
 B8 t9 (
 J4) (
 J1 t3_1 t8_1)) (.int .i64 0) (.int .i64 0)
theorem B1b : A9 PR 188 := A7 Tryz.func188 (by kernel_rfl) rfl
theorem B2c {X : Nat → Prop} {t0 : Value} {R : Value → WP} {w : World} (h : A6D X t0 R w) : Fn PR X 188 #[t0] w R := C5 (args := [t0]) mixed Tryz.func188 (by kernel_rfl) h
def A3V (X : Nat → Prop) (t0 : Value) (R : Value → WP) : WP :=
 A6 PR (Instr.loadAt 9 t0) fun t2 =>
 A0 PR (A8 .len #[9] 0 [t2]) fun t3 =>
 A0 PR (binOp .lss 3 t3 (.int .i64 20)) fun t4 =>
 R t4
theorem A8T : A9 PR 189 := A7 Tryz.func189 (by kernel_rfl) rfl
theorem A82 {X : Nat → Prop} {t0 : Value} {R : Value → WP} {w : World} (h : A3V X t0 R w) : Fn PR X 189 #[t0] w R := C5 (args := [t0]) mixed Tryz.func189 (by kernel_rfl) h
def A3M (X : Nat → Prop) (t0 : Value) (R : Value → WP) : WP :=
 A6 PR (Instr.loadAt 149 t0) fun t2 =>
 G9 PR X t2 [(.int .i64 0), (.int .i64 1)] fun t3 =>
 A0 PR (binOp .shr 3 t3 (.int .u64 4)) fun t4 =>
 A0 PR (binOp .neq 3 t4 (.int .i64 4)) fun t5 =>
 R t5
theorem A8U : A9 PR 190 := A7 Tryz.func190 (by kernel_rfl) rfl
theorem A9d {X : Nat → Prop} {t0 : Value} {R : Value → WP} {w : World} (h : A3M X t0 R w) : Fn PR X 190 #[t0] w R := C5 (args := [t0]) mixed Tryz.func190 (by kernel_rfl) h
def A3F (X : Nat → Prop) (t0 t1 t2 : Value) (R : Value → WP) : WP :=
 A6 PR (Instr.loadAt 3 t0) fun t4 =>
 A0 PR (binOp .lss 3 t4 (.int .i64 20)) fun t5 =>
 gj t5 false (fun J => A6 PR (Instr.loadAt 3 t0) J) fun t7 =>
 gj t5 false (fun J => A6 PR (Instr.loadAt 9 t1) J) fun t8 =>
 gj t5 false (fun J => A0 PR (A8 .len #[9] 0 [t8]) J) fun t9 =>
 gj t5 false (fun J => A0 PR (binOp .gtr 3 t7 t9) J) fun t10 =>
 A0 PR (do pure (if ← asBool t5 then (.bool true) else t10)) fun t11 =>
 gj t11 false (fun J => A6 PR (Instr.loadAt 3 t2) J) fun t13 =>
 gj t11 false (fun J => A6 PR (Instr.loadAt 3 t0) J) fun t14 =>
 gj t11 false (fun J => A0 PR (binOp .lss 3 t13 t14) J) fun t15 =>
 A0 PR (do pure (if ← asBool t11 then (.bool true) else t15)) fun t16 =>
 gj t16 false (fun J => A6 PR (Instr.loadAt 3 t2) J) fun t18 =>
 gj t16 false (fun J => A6 PR (Instr.loadAt 9 t1) J) fun t19 =>
 gj t16 false (fun J => A0 PR (A8 .len #[9] 0 [t19]) J) fun t20 =>
 gj t16 false (fun J => A0 PR (binOp .gtr 3 t18 t20) J) fun t21 =>
 A0 PR (do pure (if ← asBool t16 then (.bool true) else t21)) fun t22 =>
 R t22
theorem A8H : A9 PR 191 := A7 Tryz.func191 (by kernel_rfl) rfl
theorem A9Y {X : Nat → Prop} {t0 t1 t2 : Value} {R : Value → WP} {w : World} (h : A3F X t0 t1 t2 R w) : Fn PR X 191 #[t0, t1, t2] w R := C5 (args := [t0, t1, t2]) mixed Tryz.func191 (by kernel_rfl) h
def A3e (X : Nat → Prop) (t0 t1 : Value) (R : Value → WP) : WP :=
 A6 PR (Instr.loadAt 9 t0) fun t3 =>
 A6 PR (Instr.loadAt 3 t1) fun t4 =>
 A0 PR (Instr.sliceAt 9 t3 none (some t4) none) fun t5 =>
 B2 PR X 193 [t5] fun t6 =>
 A0 PR (Op.unary .not t6) fun t7 =>
 R t7
theorem A71 : A9 PR 192 := A7 Tryz.func192 (by kernel_rfl) rfl
theorem A9a {X : Nat → Prop} {t0 t1 : Value} {R : Value → WP} {w : World} (h : A3e X t0 t1 R w) : Fn PR X 192 #[t0, t1] w R := C5 (args := [t0, t1]) mixed Tryz.func192 (by kernel_rfl) h
def A3n (X : Nat → Prop) (t0 : Value) (R : Value → WP) : WP :=
 A6 PR (Instr.loadAt 149 t0) fun t2 =>
 G9 PR X t2 [(.int .i64 6), (.int .i64 2)] fun t3 =>
 A0 PR (binOp .and 3 t3 (.int .i64 16383)) fun t4 =>
 A0 PR (binOp .neq 3 t4 (.int .i64 0)) fun t5 =>
 R t5
theorem A8C : A9 PR 194 := A7 Tryz.func194 (by kernel_rfl) rfl
theorem A9Z {X : Nat → Prop} {t0 : Value} {R : Value → WP} {w : World} (h : A3n X t0 R w) : Fn PR X 194 #[t0] w R := C5 (args := [t0]) mixed Tryz.func194 (by kernel_rfl) h
end Go.Proofs.YtpbmephflllolaaGreat
namespace Go.Proofs.YtpbmephflllolaaGreat
open Go
def A8r (X : Nat → Prop) (t0 : Value) (R : Value → WP) : WP :=
 B2 PR X 140 [t0] fun t4 =>
 A0 PR (binOp .sub 3 (.int .i64 65535) t4) fun t5 =>
 R t5
theorem B4S : A9 PR 98 := A7 Tryz.func98 (by kernel_rfl) rfl
theorem B5m {X : Nat → Prop} {t0 : Value} {R : Value → WP} {w : World} (h : A8r X t0 R w) : Fn PR X 98 #[t0] w R := C5 (args := [t0]) mixed Tryz.func98 (by kernel_rfl) h
def A7g (X : Nat → Prop) (t0 : Value) (R : Value → WP) : WP :=
 B1 PR X (Instr.alloc 129 true (.tuple #[])) fun t3 =>
 jn (n := 0) (
 jn (n := 0) (
 A6 PR (Instr.loadAt 129 t3) fun t18 =>
 A0 PR (convert 129 3 t18) fun t19 =>
 T6 (R t19)) fun J1 =>
 lp (n := 0) (fun L2 =>
 jn (n := 0) (
 A6 PR (Instr.loadAt 129 t3) fun t13 =>
 A0 PR (binOp .shr 129 t13 (.int .u64 16)) fun t14 =>
 A6 PR (Instr.loadAt 129 t3) fun t15 =>
 A0 PR (binOp .and 129 t15 (.int .u64 65535)) fun t16 =>
 A0 PR (binOp .add 129 t14 t16) fun t17 =>
 B9 PR X (Instr.storeAt 129 t3 t17) <|
 L2) fun J3 =>
 A6 PR (Instr.loadAt 129 t3) fun t11 =>
 A0 PR (binOp .leq 129 t11 (.int .u64 65535)) fun t12 =>
 B8 t12 (
 J1) (
 J3)) ) fun J4 =>
 B2 PR X 186 [t0] fun t6 =>
 rng (N := 1) PR X (fun t7 K5 =>
 bgn <|
 A6 PR (Instr.loadAt 129 t3) fun t8 =>
 A0 PR (binOp .add 129 t8 t7) fun t10 =>
 B9 PR (fun _ => False) (Instr.storeAt 129 t3 t10) <|
 K5 none) t6 (fun j => match j with | none => (J4) | some (.exit i) => (match Nat.beq i 0 with | true => (J4) | false => (D8)) | some .ret => (T6 (R (.int .i64 0))) | some _ => D8)
theorem A6W : A9 PR 140 := A7 Tryz.func140 (by kernel_rfl) rfl
theorem B4H {X : Nat → Prop} {t0 : Value} {R : Value → WP} {w : World} (h : A7g X t0 R w) : Fn PR X 140 #[t0] w R := C5 (args := [t0]) mixed Tryz.func140 (by kernel_rfl) h
def A6f (X : Nat → Prop) (t0 : Value) (R : Value → WP) : WP :=
 B1 PR X (Instr.box 9 t0) fun t1 =>
 A0 PR (Instr.makeFunc (.func 218) #[] #[t1]) fun t3 =>
 R t3
theorem B1r : A9 PR 186 := A7 Tryz.func186 (by kernel_rfl) rfl
theorem B3c {X : Nat → Prop} {t0 : Value} {R : Value → WP} {w : World} (h : A6f X t0 R w) : Fn PR X 186 #[t0] w R := C5 (args := [t0]) mixed Tryz.func186 (by kernel_rfl) h
def A7m (X : Nat → Prop) (t0 : Value) (R : Value → WP) : WP :=
 B2 PR X 140 [t0] fun t4 =>
 A0 PR (binOp .eql 3 t4 (.int .i64 65535)) fun t5 =>
 R t5
theorem B2b : A9 PR 193 := A7 Tryz.func193 (by kernel_rfl) rfl
theorem B4V {X : Nat → Prop} {t0 : Value} {R : Value → WP} {w : World} (h : A7m X t0 R w) : Fn PR X 193 #[t0] w R := C5 (args := [t0]) mixed Tryz.func193 (by kernel_rfl) h
def A3b (X : Nat → Prop) (t0 t1 : Value) (R : Value → WP) : WP :=
 jn (n := 0) (
 lp (n := 1) (fun L1 t3 =>
 jn (n := 0) (
 jn (n := 0) (
 A0 PR (binOp .add 3 t3 (.int .i64 2)) fun t17 =>
 L1 t17) fun J2 =>
 A6 PR (Instr.loadAt 9 t1) fun t19 =>
 B2 PR X 148 [t19, t3, (.int .i64 2)] fun t21 =>
 A0 PR (Instr.extract t21 0) fun t22 =>
 A0 PR (Instr.extract t21 1) fun t23 =>
 G9 PR X t0 [t22] fun t26 =>
 A0 PR (Op.unary .not t26) fun t27 =>
 B8 t27 (
 R (.tuple #[])) (
 J2)) fun J3 =>
 A6 PR (Instr.loadAt 9 t1) fun t13 =>
 A0 PR (A8 .len #[9] 0 [t13]) fun t14 =>
 A0 PR (binOp .lss 3 t3 t14) fun t15 =>
 B8 t15 (
 J3) (
 R (.tuple #[]))) (.int .i64 0)) fun J4 =>
 A6 PR (Instr.loadAt 9 t1) fun t6 =>
 A0 PR (A8 .len #[9] 0 [t6]) fun t7 =>
 A0 PR (binOp .rem 3 t7 (.int .i64 2)) fun t8 =>
 A0 PR (binOp .eql 3 t8 (.int .i64 1)) fun t9 =>
 B8 t9 (
 A6 PR (Instr.loadAt 9 t1) fun t10 =>
 A0 PR (binOp .add 9 t10 (.string (ByteArray.mk #[0]))) fun t11 =>
 B9 PR X (Instr.storeAt 9 t1 t11) <|
 J4) (
 J4)
theorem A7q : A9 PR 218 := A7 Tryz.func218 (by kernel_rfl) rfl
theorem A9N {X : Nat → Prop} {t0 t1 : Value} {R : Value → WP} {w : World} (h : A3b X t0 t1 R w) : Fn PR X 218 #[t0, t1] w R := C5 (args := [t0, t1]) mixed Tryz.func218 (by kernel_rfl) h
theorem A9f {X : Nat → Prop} {t0 t1 : Value} {K : Value → WP} {w : World} (h : Fn PR X 218 #[t0, t1] w K) : s8 PR X 218 [t0, t1] K w := ⟨A7q, h⟩
end Go.Proofs.YtpbmephflllolaaGreat
namespace Go.Proofs.YtpbmephflllolaaGreat
open Go
abbrev B7d (b : Nat) : Value := .func (.func 218) #[] #[.pointer (some ⟨b, 0, none⟩)]
theorem B9l (w : World) (s : ByteArray) : Fn PR B4 186 #[.string s] w (Rn [] w (fun b v => v = B7d b) fun b => [.pt b (.cells #[.string s] 9)]) := by
 refine B3c (TW.go (κ := false) (S := []) ?_)
 unfold A6f
 (have zz:=trivial;repeat((first|clear zz|with_reducible first|refine A3 ?_|refine A5 fun _=>?_|refine A4 fun _=>?_);try simp(disch:=first|omega|assumption|((repeat(first|exact A1|exact uH|apply A2|apply uT));first|done|fail)|(simp;first|done|omega|fail))[]))
 rename_i b
 exact V7 b rfl (by simp)
def B16 (s : ByteArray) (i : Nat) : List Value := [.int .u64 (p6 s (2 * i) 2 : Nat)]
def T1 (s : ByteArray) : Nat := (s.size + 1) / 2
def pad (s : ByteArray) : ByteArray := if s.size % 2 = 1 then s ++ ByteArray.mk #[0] else s
theorem B8Y (s : ByteArray) : (pad s).size = 2 * T1 s := by
 unfold pad T1; split
 ·rw [ByteArray.size_append, show (ByteArray.mk #[0]).size = 1 from rfl]; omega
 ·omega
theorem B1p (s t : ByteArray) (i : Nat) : E2 (s ++ t) i = if i < s.size then E2 s i else E2 t (i - s.size) := by
 unfold E2
 rw [ByteArray.data_append, Array.getD_eq_getD_getElem?, Array.getElem?_append, Array.getD_eq_getD_getElem?, Array.getD_eq_getD_getElem?]
 simp only [ByteArray.size]
 split <;> rfl
theorem B52 (s : ByteArray) (i : Nat) : E2 (pad s) i = E2 s i := by
 unfold pad; split
 ·rw [B1p]; split
  ·rfl
  ·rename_i h
   have h1 : E2 s i = 0 := by unfold E2; rw [Array.getD_eq_getD_getElem?, Array.getElem?_eq_none (by simp only [ByteArray.size] at h; omega)]; rfl
   rw [h1]; unfold E2
   by_cases h2 : i - s.size = 0
   ·rw [h2]; rfl
   ·rw [Array.getD_eq_getD_getElem?, Array.getElem?_eq_none (by simp; omega)]; rfl
 ·rfl
theorem C0T (s : ByteArray) (a n : Nat) : p6 (pad s) a n = p6 s a n := by
 induction n with
 | zero => rfl
 | succ n ih => simp only [p6, ih, B52]
theorem B9q (b : Nat) (s : ByteArray) (hs : s.size < 2 ^ 60) : A1F (B7d b) [.pt b (.cells #[.string s] 9)] (fun _ _ => True) ((List.range (T1 s)).map (B16 s)) := by
 refine ⟨_, _, _, rfl, fun l J E hJ hE stJ stE hy w0 h0 => ?_⟩
 refine A9f (A9N (TW.at (κ := true) ?_ (hJ _ _ _ h0).1))
 unfold A3b
 have hp := B8Y s
 have hnw : T1 s ≤ s.size := by unfold T1; omega
 have key : ∀ Lp : WP, TW true (B3 [Res.pt b (.cells #[.string s] 9)]) w0 [.pt b (.cells #[.string (pad s)] 9)] Lp → (if s.size % 2 = 1 then TW true (B3 [Res.pt b (.cells #[.string s] 9)]) w0 [.pt b (.cells #[.string (s ++ ByteArray.mk #[0])] 9)] Lp else TW true (B3 [Res.pt b (.cells #[.string s] 9)]) w0 [.pt b (.cells #[.string s] 9)] Lp) := by
  intro Lp h; unfold pad at h; split <;> simp_all
 have hrem : ((s.size : Int).tmod 2 = 1) = (s.size % 2 = 1) := by
  rw [Int.tmod_eq_emod_of_nonneg (by omega)]; exact propext (by omega)
 have hadd : s.size + (ByteArray.mk #[0]).size ≤ 9223372036854775807 := by rw [show (ByteArray.mk #[0]).size = 1 from rfl]; omega
 (have zz:=trivial;repeat((first|clear zz|with_reducible first|refine A3 ?_|refine A5 fun _=>?_|refine A4 fun _=>?_);try simp(disch:=first|omega|assumption|((repeat(first|exact A1|exact uH|apply A2|apply uT));first|done|fail)|(simp;first|done|omega|fail))[A2F, T5, hrem]))
 refine key _ ?_
 clear key
 refine B6B (fun i => i) (fun _ => [.pt b (.cells #[.string (pad s)] 9)]) (fun i => i ≤ T1 s) (fun i => T1 s - i) (fun i : Nat => .int .i64 (2 * (i : Int))) 0 hJ stJ h0 (Nat.zero_le _) fun i a hi hJi _ L hL => ?_
 by_cases hlt : i < T1 s
 ·have h2 : 2 * (i : Int) < (pad s).size := by omega
  (have zz:=trivial;repeat((first|clear zz|with_reducible first|refine A3 ?_|refine A5 fun _=>?_|refine A4 fun _=>?_);try simp(disch:=first|omega|assumption|((repeat(first|exact A1|exact uH|apply A2|apply uT));first|done|fail)|(simp;first|done|omega|fail))[h2]))
  refine D2 P6 (fun w' _ => A1M w' (pad s) (by omega) _ _) ?_
  have hg : A1G (pad s) (2 * (i : Int)) 2 = true := by simp only [A1G, decide_eq_true_eq]; omega
  have hv : A3v (pad s) (2 * (i : Int)) 2 = (p6 s (2 * i) 2 : Nat) := by
   unfold A3v; rw [if_pos hg, C0T]; congr 2
  rw [hv, hg]
  (have zz:=trivial;repeat((first|clear zz|with_reducible first|refine A3 ?_|refine A5 fun _=>?_|refine A4 fun _=>?_);try simp(disch:=first|omega|assumption|((repeat(first|exact A1|exact uH|apply A2|apply uT));first|done|fail)|(simp;first|done|omega|fail))[]))
  refine A2J hJ hE stJ hy hJi (by simpa using hlt) (by simp [B16]) (fun w3 h => ?_) (fun w3 h => ?_)
  ·(have zz:=trivial;repeat((first|clear zz|with_reducible first|refine A3 ?_|refine A5 fun _=>?_|refine A4 fun _=>?_);try simp(disch:=first|omega|assumption|((repeat(first|exact A1|exact uH|apply A2|apply uT));first|done|fail)|(simp;first|done|omega|fail))[]))
   intro w' hw'
   have := hL (i + 1) w' hlt (by omega) (stJ _ _ _ _ _ h hw')
   simpa [Int.mul_add] using this
  ·(have zz:=trivial;repeat((first|clear zz|with_reducible first|refine A3 ?_|refine A5 fun _=>?_|refine A4 fun _=>?_);try simp(disch:=first|omega|assumption|((repeat(first|exact A1|exact uH|apply A2|apply uT));first|done|fail)|(simp;first|done|omega|fail))[]))
   exact A0H stE h
 ·have h2 : ¬ 2 * (i : Int) < (pad s).size := by omega
  obtain rfl : i = T1 s := by omega
  (have zz:=trivial;repeat((first|clear zz|with_reducible first|refine A3 ?_|refine A5 fun _=>?_|refine A4 fun _=>?_);try simp(disch:=first|omega|assumption|((repeat(first|exact A1|exact uH|apply A2|apply uT));first|done|fail)|(simp;first|done|omega|fail))[h2]))
  exact A0L stJ (by simpa using hJi)
def A48 (s : ByteArray) : Nat → Nat
 | 0 => 0
 | i + 1 => A48 s i + p6 s (2 * i) 2
def fld (n : Nat) : Nat := if n = 0 then 0 else (n - 1) % 65535 + 1
def v7 (s : ByteArray) : Nat := fld (A48 s (T1 s))
theorem B8l (n : Nat) : fld (n / 65536 + n % 65536) = fld n := by
 unfold fld
 have h := Nat.div_add_mod n 65536
 by_cases h0 : n = 0
 ·subst h0; rfl
 ·rw [if_neg (by omega), if_neg h0]; omega
theorem B8F {n : Nat} (h : n ≤ 65535) : fld n = n := by unfold fld; split <;> omega
theorem B7S (n : Nat) : fld n ≤ 65535 := by unfold fld; split <;> omega
theorem B4r (s : ByteArray) (i : Nat) : A48 s i ≤ i * 65535 := by
 induction i with
 | zero => simp [A48]
 | succ i ih => have := A6H s (2 * i) 2; simp only [A48]; omega
theorem B8b (n : Nat) (h : n < 2 ^ 64) : IntKind.u64.wrap ((n % 2 ^ IntKind.u64.bits &&& 65535 % 2 ^ IntKind.u64.bits : Nat) : Int) = ((n % 65536 : Nat) : Int) := by
 rw [show (2 : Nat) ^ IntKind.u64.bits = 2 ^ 64 from rfl, Nat.mod_eq_of_lt h, show 65535 % 2 ^ 64 = 2 ^ 16 - 1 from rfl, Nat.and_two_pow_sub_one_eq_mod]
 exact A00 (by omega) (by omega)
theorem B4d (w : World) (s : ByteArray) (hs : s.size < 2 ^ 40) : Fn PR B4 140 #[.string s] w (fun v w' => v = .int .i64 (v7 s : Nat) ∧ C3 [] w w') := by
 refine Fn.pure (B4H (TW.go (κ := false) (S := []) ?_))
 unfold A7g
 (have zz:=trivial;repeat((first|clear zz|with_reducible first|refine A3 ?_|refine A5 fun _=>?_|refine A4 fun _=>?_);try simp(disch:=first|omega|assumption|((repeat(first|exact A1|exact uH|apply A2|apply uT));first|done|fail)|(simp;first|done|omega|fail))[]))
 rename_i bn
 refine M3 B1r (fun w' _ => B9l w' s) ?_
 rintro b v rfl
 have hnw : T1 s ≤ 2 ^ 39 := by unfold T1; omega
 refine v6 (B9q b s (by omega)) (by simp [B16]) (fun _ (_ : Unit) => True) (fun i _ => [.pt bn (.cells #[.int .u64 ((A48 s i : Nat) : Int)] 129)]) (fun _ (_ : Unit) => False) (fun _ => []) () trivial ?_ ?_ ?_ ?_
 ·intros; trivial
 ·rintro i hi _ F _ K' hK _
  have hi' : i < T1 s := by simpa using hi
  have h1 := B4r s i
  have h2 := A6H s (2 * i) 2
  simp only [List.getElem_map, List.getElem_range, B16, VF.app]
  (have zz:=trivial;repeat((first|clear zz|with_reducible first|refine A3 ?_|refine A5 fun _=>?_|refine A4 fun _=>?_);try simp(disch:=first|omega|assumption|((repeat(first|exact A1|exact uH|apply A2|apply uT));first|done|fail)|(simp;first|done|omega|fail))[]))
  refine TW.eqH ?_ (hK () trivial)
  simp [A48]
 ·rintro _ _
  (have zz:=trivial;repeat((first|clear zz|with_reducible first|refine A3 ?_|refine A5 fun _=>?_|refine A4 fun _=>?_);try simp(disch:=first|omega|assumption|((repeat(first|exact A1|exact uH|apply A2|apply uT));first|done|fail)|(simp;first|done|omega|fail))[]))
  refine C3A (fun n : Nat => [.pt bn (.cells #[.int .u64 (n : Int)] 129)]) (fun n => fld n = v7 s ∧ n < 2 ^ 63) (fun n => n) _ ⟨by simp [v7], by have := B4r s (T1 s); simp; omega⟩ ?_
  rintro n ⟨h1, h2⟩ L hL
  by_cases h3 : n ≤ 65535
  ·have h4 : (n : Int) ≤ 65535 := by omega
   (have zz:=trivial;repeat((first|clear zz|with_reducible first|refine A3 ?_|refine A5 fun _=>?_|refine A4 fun _=>?_);try simp(disch:=first|omega|assumption|((repeat(first|exact A1|exact uH|apply A2|apply uT));first|done|fail)|(simp;first|done|omega|fail))[h4]))
   rw [B8F h3] at h1
   exact B0 (by rw [h1])
  ·have h4 : ¬ (n : Int) ≤ 65535 := by omega
   have e1 : (n : Int).fdiv (2 ^ min 16 IntKind.u64.bits) = (n / 65536 : Nat) := by rw [show (2 : Int) ^ min 16 IntKind.u64.bits = 65536 from rfl, Int.fdiv_eq_ediv_of_nonneg _ (by omega)]; omega
   (have zz:=trivial;repeat((first|clear zz|with_reducible first|refine A3 ?_|refine A5 fun _=>?_|refine A4 fun _=>?_);try simp(disch:=first|omega|assumption|((repeat(first|exact A1|exact uH|apply A2|apply uT));first|done|fail)|(simp;first|done|omega|fail))[h4]))
   refine TW.eqH ?_ (hL (n / 65536 + n % 65536) ⟨by rw [B8l]; exact h1, by omega⟩ (by omega))
   rw [e1, B8b n (by omega), A00 (by omega) (by omega)]; simp
 ·rintro _ _ h; exact h.elim
def A9r (s : ByteArray) : Int := 65535 - v7 s
theorem C1r (w : World) (s : ByteArray) (hs : s.size < 2 ^ 40) : Fn PR B4 98 #[.string s] w (fun v w' => v = .int .i64 (A9r s) ∧ C3 [] w w') := by
 refine Fn.pure (B5m (TW.go (κ := false) (S := []) ?_))
 unfold A8r
 refine D2 A6W (fun w' _ => B4d w' s hs) ?_
 have := B7S (A48 s (T1 s))
 have h2 : ((v7 s : Nat) : Int) ≤ 65535 := by unfold v7; omega
 (have zz:=trivial;repeat((first|clear zz|with_reducible first|refine A3 ?_|refine A5 fun _=>?_|refine A4 fun _=>?_);try simp(disch:=first|omega|assumption|((repeat(first|exact A1|exact uH|apply A2|apply uT));first|done|fail)|(simp;first|done|omega|fail))[]))
 exact B0 rfl
theorem C02 (w : World) (s : ByteArray) (hs : s.size < 2 ^ 40) : Fn PR B4 193 #[.string s] w (fun v w' => v = .bool (decide (v7 s = 65535)) ∧ C3 [] w w') := by
 refine Fn.pure (B4V (TW.go (κ := false) (S := []) ?_))
 unfold A7m
 refine D2 A6W (fun w' _ => B4d w' s hs) ?_
 (have zz:=trivial;repeat((first|clear zz|with_reducible first|refine A3 ?_|refine A5 fun _=>?_|refine A4 fun _=>?_);try simp(disch:=first|omega|assumption|((repeat(first|exact A1|exact uH|apply A2|apply uT));first|done|fail)|(simp;first|done|omega|fail))[]))
 exact B0 (by simp; omega)
end Go.Proofs.YtpbmephflllolaaGreat
namespace Go.Proofs.YtpbmephflllolaaGreat
open Go
def gv (s : ByteArray) (a n : Nat) : Nat := if a + n ≤ s.size then p6 s a n else 0
theorem A4g (s : ByteArray) (a n : Nat) (h1 : 1 ≤ n) (h8 : n ≤ 8) : A3v s a n = gv s a n := by
 unfold A3v gv
 by_cases h : a + n ≤ s.size
 ·rw [if_pos (by simp only [A1G, decide_eq_true_eq]; omega), if_pos h]; simp
 ·rw [if_neg (by simp only [A1G, decide_eq_true_eq]; omega), if_neg h]; rfl
theorem A8w (s : ByteArray) (a : Nat) : gv s a 1 < 256 := by
 unfold gv; split
 ·exact A6H s a 1
 ·omega
theorem A1c (s : ByteArray) (a : Nat) : gv s a 2 < 65536 := by
 unfold gv; split
 ·exact A6H s a 2
 ·omega
theorem A2x (w : World) (s : ByteArray) (hs : s.size < 2 ^ 63) (b a n : Nat) (h1 : 1 ≤ n) (h2 : n ≤ 2) (hc : w.cell? ⟨b, 0, none⟩ = some (.string s)) :
  Fn PR B4 187 #[.int .i64 (a : Int), .int .i64 (n : Int), .pointer (some ⟨b, 0, none⟩)] w (fun v w' => v = .int .i64 (gv s a n : Nat) ∧ C3 [] w w') := by
 refine Fn.pure (A89 (TW.go (κ := false) (S := []) ?_))
 unfold A3P
 (have zz:=trivial;repeat((first|clear zz|with_reducible first|refine A3 ?_|refine A5 fun _=>?_|refine A4 fun _=>?_|refine D0 fun _=>?_|refine C9 (hK:=fun _=>?_)|refine C6 (hK:=fun _=>?_)|refine C8 (hK:=fun _=>?_)|refine C7 (hK:=fun _=>?_)|refine D1 (hK:=fun _=>?_));try simp(disch:=first|omega|assumption|((repeat(first|exact A1|exact uH|apply A2|apply uT));first|done|fail)|(simp;first|done|omega|fail))[hc]))
 refine D2 P6 (fun w' _ => A1M w' s (by omega) _ _) ?_
 rw [A4g s a n h1 (by omega)]
 have hlt : gv s a n < 65536 := by
  obtain rfl | rfl : n = 1 ∨ n = 2 := by omega
  ·have := A8w s a; omega
  ·exact A1c s a
 (have zz:=trivial;repeat((first|clear zz|with_reducible first|refine A3 ?_|refine A5 fun _=>?_|refine A4 fun _=>?_|refine D0 fun _=>?_|refine C9 (hK:=fun _=>?_)|refine C6 (hK:=fun _=>?_)|refine C8 (hK:=fun _=>?_)|refine C7 (hK:=fun _=>?_)|refine D1 (hK:=fun _=>?_));try simp(disch:=first|omega|assumption|((repeat(first|exact A1|exact uH|apply A2|apply uT));first|done|fail)|(simp;first|done|omega|fail))[]))
 exact B0 rfl
theorem C05 (w : World) (s : ByteArray) (hs : s.size < 2 ^ 63) (b : Nat) (hc : w.cell? ⟨b, 0, none⟩ = some (.string s)) :
  Fn PR B4 187 #[.int .i64 0, .int .i64 1, .pointer (some ⟨b, 0, none⟩)] w (fun v w' => v = .int .i64 (gv s 0 1 : Nat) ∧ C3 [] w w') := A2x w s hs b 0 1 (by omega) (by omega) hc
theorem C1P (w : World) (s : ByteArray) (hs : s.size < 2 ^ 63) (b : Nat) (hc : w.cell? ⟨b, 0, none⟩ = some (.string s)) :
  Fn PR B4 187 #[.int .i64 2, .int .i64 2, .pointer (some ⟨b, 0, none⟩)] w (fun v w' => v = .int .i64 (gv s 2 2 : Nat) ∧ C3 [] w w') := A2x w s hs b 2 2 (by omega) (by omega) hc
theorem C00 (w : World) (s : ByteArray) (hs : s.size < 2 ^ 63) (b : Nat) (hc : w.cell? ⟨b, 0, none⟩ = some (.string s)) :
  Fn PR B4 187 #[.int .i64 9, .int .i64 1, .pointer (some ⟨b, 0, none⟩)] w (fun v w' => v = .int .i64 (gv s 9 1 : Nat) ∧ C3 [] w w') := A2x w s hs b 9 1 (by omega) (by omega) hc
def B17 (x : Value × Int × Bool) : List Value := [x.1, .int .i64 x.2.1]
def A2y (l : List (Value × Int × Bool)) : Int := match l.find? (·.2.2) with | some x => x.2.1 | none => 0
theorem B3w {l : List (Value × Int × Bool)} (h : ∀ i (hi : i < l.length), l[i].2.2 = false) : A2y l = 0 := by
 have : l.find? (·.2.2) = none := by
  rw [List.find?_eq_none]; intro x hx; obtain ⟨i, hi, rfl⟩ := List.getElem_of_mem hx; simp [h i hi]
 simp [A2y, this]
theorem B4Q {l : List (Value × Int × Bool)} {i : Nat} (hi : i < l.length) (hp : l[i].2.2 = true) (h : ∀ j (hj : j < i), (l[j]'(by omega)).2.2 = false) : A2y l = l[i].2.1 := by
 have : l.find? (·.2.2) = some l[i] := by
  rw [List.find?_eq_some_iff_getElem]
  exact ⟨hp, i, hi, rfl, fun j hj => by simp [h j hj]⟩
 simp [A2y, this]
theorem B9C (w : World) (v : Value) (l : List (Value × Int × Bool)) (hl : l.length < 1000) (hv : F3 w v l.length (l.flatMap B17))
  (hg : ∀ i (hi : i < l.length), (∀ j (hj : j < i), (l[j]'(by omega)).2.2 = false) → ∃ f cap, l[i].1 = .func (.func f) #[] cap ∧ A9 PR f ∧ ∀ w', KS false [] w w' → Fn PR B4 f cap w' (fun v w'' => v = .bool l[i].2.2 ∧ C3 [] w' w'')) :
  Fn PR B4 188 #[v] w (fun u w' => u = .int .i64 (A2y l) ∧ C3 [] w w') := by
 refine Fn.pure (B2c (TW.go (κ := false) (S := []) ?_))
 unfold A6D
 obtain ⟨a, c, rfl, hrow⟩ := hv.form
 (have zz:=trivial;repeat((first|clear zz|with_reducible first|refine A3 ?_|refine A5 fun _=>?_|refine A4 fun _=>?_|refine D0 fun _=>?_|refine C9 (hK:=fun _=>?_)|refine C6 (hK:=fun _=>?_)|refine C8 (hK:=fun _=>?_)|refine C7 (hK:=fun _=>?_)|refine D1 (hK:=fun _=>?_));try simp(disch:=first|omega|assumption|((repeat(first|exact A1|exact uH|apply A2|apply uT));first|done|fail)|(simp;first|done|omega|fail))[]))
 refine n7 (α := Unit) l.length (fun _ _ => .int .i64 0) (fun _ _ => []) (fun i _ => ∀ j (hj : j < i), ∀ (h : j < l.length), l[j].2.2 = false) () (by intro j hj; omega) ?_
 rintro i _ hi hpre L hL
 by_cases hlt : i < l.length
 ·obtain ⟨b, o, rfl, hr⟩ := hrow (by omega)
  have hx : l[i]? = some l[i] := List.getElem?_eq_getElem hlt
  have hrn := hr.at (f := B17) (k := 2) (fun _ => rfl) hx
  have hpre' : ∀ j (hj : j < i), (l[j]'(by omega)).2.2 = false := fun j hj => hpre j hj (by omega)
  obtain ⟨f, cap, he, hent, hcall⟩ := hg i hlt hpre'
  rw [B17, he] at hrn
  (have zz:=trivial;repeat((first|clear zz|with_reducible first|refine A3 ?_|refine A5 fun _=>?_|refine A4 fun _=>?_|refine D0 fun _=>?_|refine C9 (hK:=fun _=>?_)|refine C6 (hK:=fun _=>?_)|refine C8 (hK:=fun _=>?_)|refine C7 (hK:=fun _=>?_)|refine D1 (hK:=fun _=>?_));try simp(disch:=first|omega|assumption|((repeat(first|exact A1|exact uH|apply A2|apply uT));first|done|fail)|(simp;first|done|omega|fail))[hlt, hrn]))
  refine B0K hent (φ := fun v => v = .bool l[i].2.2) (fun w' hw' => by simpa using hcall w' hw'.ks) ?_
  rintro _ rfl
  cases hb : l[i].2.2 with
  | true =>
   (have zz:=trivial;repeat((first|clear zz|with_reducible first|refine A3 ?_|refine A5 fun _=>?_|refine A4 fun _=>?_|refine D0 fun _=>?_|refine C9 (hK:=fun _=>?_)|refine C6 (hK:=fun _=>?_)|refine C8 (hK:=fun _=>?_)|refine C7 (hK:=fun _=>?_)|refine D1 (hK:=fun _=>?_));try simp(disch:=first|omega|assumption|((repeat(first|exact A1|exact uH|apply A2|apply uT));first|done|fail)|(simp;first|done|omega|fail))[]))
   exact B0 (by rw [B4Q hlt hb hpre'])
  | false =>
   (have zz:=trivial;repeat((first|clear zz|with_reducible first|refine A3 ?_|refine A5 fun _=>?_|refine A4 fun _=>?_|refine D0 fun _=>?_|refine C9 (hK:=fun _=>?_)|refine C6 (hK:=fun _=>?_)|refine C8 (hK:=fun _=>?_)|refine C7 (hK:=fun _=>?_)|refine D1 (hK:=fun _=>?_));try simp(disch:=first|omega|assumption|((repeat(first|exact A1|exact uH|apply A2|apply uT));first|done|fail)|(simp;first|done|omega|fail))[]))
   refine Sels.tw .nil (hL hlt () ?_)
   intro j hj h
   by_cases hji : j = i
   ·subst hji; exact hb
   ·exact hpre j (by omega) h
 ·obtain rfl : i = l.length := by omega
  (have zz:=trivial;repeat((first|clear zz|with_reducible first|refine A3 ?_|refine A5 fun _=>?_|refine A4 fun _=>?_|refine D0 fun _=>?_|refine C9 (hK:=fun _=>?_)|refine C6 (hK:=fun _=>?_)|refine C8 (hK:=fun _=>?_)|refine C7 (hK:=fun _=>?_)|refine D1 (hK:=fun _=>?_));try simp(disch:=first|omega|assumption|((repeat(first|exact A1|exact uH|apply A2|apply uT));first|done|fail)|(simp;first|done|omega|fail))[]))
  exact B0 (by rw [B3w fun j hj => hpre j hj hj])
structure HeadV where
 src : ByteArray
 dst : ByteArray
 proto : Nat
 rest : ByteArray
 e : Nat
abbrev P5 : ByteArray := ByteArray.mk #[]
def HeadV.err (e : Nat) : HeadV := ⟨P5, P5, 0, P5, e⟩
def HeadV.val (h : HeadV) : Value := .tuple #[.agg #[.string h.src, .string h.dst, .int .i64 h.proto], .string h.rest, .int .i64 h.e]
def J0 (s : ByteArray) : Nat := gv s 0 1 % 16 * 4
def A7r (s : ByteArray) : Nat := if s.size < 20 then 2 else if gv s 0 1 / 16 ≠ 4 then 3 else if J0 s < 20 ∨ s.size < J0 s ∨ gv s 2 2 < J0 s ∨ s.size < gv s 2 2 then 4
 else if v7 (s.extract 0 (J0 s)) ≠ 65535 then 5 else if gv s 6 2 % 16384 ≠ 0 then 6 else 0
def x7 (s : ByteArray) : HeadV := if A7r s = 0 then ⟨s.extract 12 16, s.extract 16 20, gv s 9 1, s.extract (J0 s) (gv s 2 2), 0⟩ else .err (A7r s)
theorem C3g (n : Nat) (h : n < 256) : IntKind.i64.wrap ((n % 2 ^ IntKind.i64.bits &&& 15 % 2 ^ IntKind.i64.bits : Nat) : Int) = ((n % 16 : Nat) : Int) := by
 rw [show (2 : Nat) ^ IntKind.i64.bits = 2 ^ 64 from rfl, Nat.mod_eq_of_lt (by omega), show 15 % 2 ^ 64 = 2 ^ 4 - 1 from rfl, Nat.and_two_pow_sub_one_eq_mod]
 exact A1N (by omega) (by omega)
theorem C3u (n : Nat) (h : n < 65536) : IntKind.i64.wrap ((n % 2 ^ IntKind.i64.bits &&& 16383 % 2 ^ IntKind.i64.bits : Nat) : Int) = ((n % 16384 : Nat) : Int) := by
 rw [show (2 : Nat) ^ IntKind.i64.bits = 2 ^ 64 from rfl, Nat.mod_eq_of_lt (by omega), show 16383 % 2 ^ 64 = 2 ^ 14 - 1 from rfl, Nat.and_two_pow_sub_one_eq_mod]
 exact A1N (by omega) (by omega)
section
variable (w : World) (s : ByteArray) (hs : s.size < 2 ^ 63) (b1 b5 b6 b7 : Nat) (h1 : w.cell? ⟨b1, 0, none⟩ = some (.string s)) (h5 : w.cell? ⟨b5, 0, none⟩ = some (.func (.func 187) #[] #[.pointer (some ⟨b1, 0, none⟩)]))
 (h6 : w.cell? ⟨b6, 0, none⟩ = some (.int .i64 (J0 s : Nat))) (h7 : w.cell? ⟨b7, 0, none⟩ = some (.int .i64 (gv s 2 2 : Nat)))
include h1
theorem C4A : Fn PR B4 189 #[.pointer (some ⟨b1, 0, none⟩)] w (fun v w' => v = .bool (decide (s.size < 20)) ∧ C3 [] w w') := by
 refine Fn.pure (A82 (TW.go (κ := false) (S := []) ?_))
 unfold A3V
 (have zz:=trivial;repeat((first|clear zz|with_reducible first|refine A3 ?_|refine A5 fun _=>?_|refine A4 fun _=>?_|refine D0 fun _=>?_|refine C9 (hK:=fun _=>?_)|refine C6 (hK:=fun _=>?_)|refine C8 (hK:=fun _=>?_)|refine C7 (hK:=fun _=>?_)|refine D1 (hK:=fun _=>?_));try simp(disch:=first|omega|assumption|((repeat(first|exact A1|exact uH|apply A2|apply uT));first|done|fail)|(simp;first|done|omega|fail))[h1]))
 exact B0 (by simp; omega)
include hs h5
theorem C3l : Fn PR B4 190 #[.pointer (some ⟨b5, 0, none⟩)] w (fun v w' => v = .bool (decide (gv s 0 1 / 16 ≠ 4)) ∧ C3 [] w w') := by
 refine Fn.pure (A9d (TW.go (κ := false) (S := []) ?_))
 unfold A3M
 (have zz:=trivial;repeat((first|clear zz|with_reducible first|refine A3 ?_|refine A5 fun _=>?_|refine A4 fun _=>?_|refine D0 fun _=>?_|refine C9 (hK:=fun _=>?_)|refine C6 (hK:=fun _=>?_)|refine C8 (hK:=fun _=>?_)|refine C7 (hK:=fun _=>?_)|refine D1 (hK:=fun _=>?_));try simp(disch:=first|omega|assumption|((repeat(first|exact A1|exact uH|apply A2|apply uT));first|done|fail)|(simp;first|done|omega|fail))[h1, h5]))
 refine D2 j4 (fun w' hw' => A2x w' s hs b1 0 1 (by omega) (by omega) (hw'.ks.cell (by simp) h1)) ?_
 have e1 : ((gv s 0 1 : Nat) : Int).fdiv (2 ^ min 4 IntKind.i64.bits) = (gv s 0 1 / 16 : Nat) := by rw [show (2 : Int) ^ min 4 IntKind.i64.bits = 16 from rfl, Int.fdiv_eq_ediv_of_nonneg _ (by omega)]; omega
 (have zz:=trivial;repeat((first|clear zz|with_reducible first|refine A3 ?_|refine A5 fun _=>?_|refine A4 fun _=>?_|refine D0 fun _=>?_|refine C9 (hK:=fun _=>?_)|refine C6 (hK:=fun _=>?_)|refine C8 (hK:=fun _=>?_)|refine C7 (hK:=fun _=>?_)|refine D1 (hK:=fun _=>?_));try simp(disch:=first|omega|assumption|((repeat(first|exact A1|exact uH|apply A2|apply uT));first|done|fail)|(simp;first|done|omega|fail))[]))
 rw [e1]
 exact B0 (by simp; omega)
theorem C3U : Fn PR B4 194 #[.pointer (some ⟨b5, 0, none⟩)] w (fun v w' => v = .bool (decide (gv s 6 2 % 16384 ≠ 0)) ∧ C3 [] w w') := by
 refine Fn.pure (A9Z (TW.go (κ := false) (S := []) ?_))
 unfold A3n
 (have zz:=trivial;repeat((first|clear zz|with_reducible first|refine A3 ?_|refine A5 fun _=>?_|refine A4 fun _=>?_|refine D0 fun _=>?_|refine C9 (hK:=fun _=>?_)|refine C6 (hK:=fun _=>?_)|refine C8 (hK:=fun _=>?_)|refine C7 (hK:=fun _=>?_)|refine D1 (hK:=fun _=>?_));try simp(disch:=first|omega|assumption|((repeat(first|exact A1|exact uH|apply A2|apply uT));first|done|fail)|(simp;first|done|omega|fail))[h1, h5]))
 refine D2 j4 (fun w' hw' => A2x w' s hs b1 6 2 (by omega) (by omega) (hw'.ks.cell (by simp) h1)) ?_
 have := A1c s 6
 (have zz:=trivial;repeat((first|clear zz|with_reducible first|refine A3 ?_|refine A5 fun _=>?_|refine A4 fun _=>?_|refine D0 fun _=>?_|refine C9 (hK:=fun _=>?_)|refine C6 (hK:=fun _=>?_)|refine C8 (hK:=fun _=>?_)|refine C7 (hK:=fun _=>?_)|refine D1 (hK:=fun _=>?_));try simp(disch:=first|omega|assumption|((repeat(first|exact A1|exact uH|apply A2|apply uT));first|done|fail)|(simp;first|done|omega|fail))[]))
 rw [C3u _ this]
 exact B0 (by simp; omega)
omit h5
include h6
omit hs in
theorem C3e (hl : J0 s ≤ s.size) : Fn PR B4 192 #[.pointer (some ⟨b1, 0, none⟩), .pointer (some ⟨b6, 0, none⟩)] w (fun v w' => v = .bool (decide (v7 (s.extract 0 (J0 s)) ≠ 65535)) ∧ C3 [] w w') := by
 refine Fn.pure (A9a (TW.go (κ := false) (S := []) ?_))
 unfold A3e
 have hl' : ((J0 s : Nat) : Int) ≤ s.size := by omega
 have hl60 : J0 s ≤ 60 := by unfold J0; omega
 (have zz:=trivial;repeat((first|clear zz|with_reducible first|refine A3 ?_|refine A5 fun _=>?_|refine A4 fun _=>?_|refine D0 fun _=>?_|refine C9 (hK:=fun _=>?_)|refine C6 (hK:=fun _=>?_)|refine C8 (hK:=fun _=>?_)|refine C7 (hK:=fun _=>?_)|refine D1 (hK:=fun _=>?_));try simp(disch:=first|omega|assumption|((repeat(first|exact A1|exact uH|apply A2|apply uT));first|done|fail)|(simp;first|done|omega|fail))[h1, h6]))
 refine D2 B2b (fun w' hw' => C02 w' _ (by simp [ByteArray.size_extract]; omega)) ?_
 (have zz:=trivial;repeat((first|clear zz|with_reducible first|refine A3 ?_|refine A5 fun _=>?_|refine A4 fun _=>?_|refine D0 fun _=>?_|refine C9 (hK:=fun _=>?_)|refine C6 (hK:=fun _=>?_)|refine C8 (hK:=fun _=>?_)|refine C7 (hK:=fun _=>?_)|refine D1 (hK:=fun _=>?_));try simp(disch:=first|omega|assumption|((repeat(first|exact A1|exact uH|apply A2|apply uT));first|done|fail)|(simp;first|done|omega|fail))[]))
 exact B0 (by simp)
include h7
theorem C3w : Fn PR B4 191 #[.pointer (some ⟨b6, 0, none⟩), .pointer (some ⟨b1, 0, none⟩), .pointer (some ⟨b7, 0, none⟩)] w
  (fun v w' => v = .bool (decide (J0 s < 20 ∨ s.size < J0 s ∨ gv s 2 2 < J0 s ∨ s.size < gv s 2 2)) ∧ C3 [] w w') := by
 have hs_ := hs
 refine Fn.pure (A9Y (TW.go (κ := false) (S := []) ?_))
 unfold A3F
 by_cases g1 : J0 s < 20
 ·have g1' : ((J0 s : Nat) : Int) < 20 := by omega
  (have zz:=trivial;repeat((first|clear zz|with_reducible first|refine A3 ?_|refine A5 fun _=>?_|refine A4 fun _=>?_|refine D0 fun _=>?_|refine C9 (hK:=fun _=>?_)|refine C6 (hK:=fun _=>?_)|refine C8 (hK:=fun _=>?_)|refine C7 (hK:=fun _=>?_)|refine D1 (hK:=fun _=>?_));try simp(disch:=first|omega|assumption|((repeat(first|exact A1|exact uH|apply A2|apply uT));first|done|fail)|(simp;first|done|omega|fail))[h1, h6, h7, g1, g1']))
  exact B0 (by simp [g1])
 have g1' : ¬ ((J0 s : Nat) : Int) < 20 := by omega
 by_cases g2 : s.size < J0 s
 ·have g2' : ((s.size : Nat) : Int) < J0 s := by omega
  (have zz:=trivial;repeat((first|clear zz|with_reducible first|refine A3 ?_|refine A5 fun _=>?_|refine A4 fun _=>?_|refine D0 fun _=>?_|refine C9 (hK:=fun _=>?_)|refine C6 (hK:=fun _=>?_)|refine C8 (hK:=fun _=>?_)|refine C7 (hK:=fun _=>?_)|refine D1 (hK:=fun _=>?_));try simp(disch:=first|omega|assumption|((repeat(first|exact A1|exact uH|apply A2|apply uT));first|done|fail)|(simp;first|done|omega|fail))[h1, h6, h7, g1, g1', g2, g2']))
  exact B0 (by simp [g2])
 have g2' : ¬ ((s.size : Nat) : Int) < J0 s := by omega
 by_cases g3 : gv s 2 2 < J0 s
 ·have g3' : ((gv s 2 2 : Nat) : Int) < J0 s := by omega
  (have zz:=trivial;repeat((first|clear zz|with_reducible first|refine A3 ?_|refine A5 fun _=>?_|refine A4 fun _=>?_|refine D0 fun _=>?_|refine C9 (hK:=fun _=>?_)|refine C6 (hK:=fun _=>?_)|refine C8 (hK:=fun _=>?_)|refine C7 (hK:=fun _=>?_)|refine D1 (hK:=fun _=>?_));try simp(disch:=first|omega|assumption|((repeat(first|exact A1|exact uH|apply A2|apply uT));first|done|fail)|(simp;first|done|omega|fail))[h1, h6, h7, g1, g1', g2, g2', g3, g3']))
  exact B0 (by simp [g3])
 have g3' : ¬ ((gv s 2 2 : Nat) : Int) < J0 s := by omega
 (have zz:=trivial;repeat((first|clear zz|with_reducible first|refine A3 ?_|refine A5 fun _=>?_|refine A4 fun _=>?_|refine D0 fun _=>?_|refine C9 (hK:=fun _=>?_)|refine C6 (hK:=fun _=>?_)|refine C8 (hK:=fun _=>?_)|refine C7 (hK:=fun _=>?_)|refine D1 (hK:=fun _=>?_));try simp(disch:=first|omega|assumption|((repeat(first|exact A1|exact uH|apply A2|apply uT));first|done|fail)|(simp;first|done|omega|fail))[h1, h6, h7, g1, g1', g2, g2', g3, g3']))
 exact B0 (by simp [g1, g2, g3])
end
theorem B4F (w : World) (s : ByteArray) (hs : s.size < 2 ^ 63) : Fn PR B4 143 #[.string s] w (fun v w' => v = (x7 s).val ∧ C3 [] w w') := by
 refine Fn.pure (B2W (TW.go (κ := false) (S := []) ?_))
 unfold A54
 (have zz:=trivial;repeat((first|clear zz|with_reducible first|refine A3 ?_|refine A5 fun _=>?_|refine A4 fun _=>?_|refine D0 fun _=>?_|refine C9 (hK:=fun _=>?_)|refine C6 (hK:=fun _=>?_)|refine C8 (hK:=fun _=>?_)|refine C7 (hK:=fun _=>?_)|refine D1 (hK:=fun _=>?_));try simp(disch:=first|omega|assumption|((repeat(first|exact A1|exact uH|apply A2|apply uT));first|done|fail)|(simp;first|done|omega|fail))[]))
 rename_i b1 b2 b5
 refine C3L (α := Nat × Nat) (fun _ => True) (fun x => [.pt x.1 (.cells #[.int .i64 (J0 s : Nat)] 3), .pt x.2 (.cells #[.int .i64 (gv s 2 2 : Nat)] 3),
  .pt b5 (.cells #[.func (.func 187) #[] #[.pointer (some ⟨b1, 0, none⟩)]] 149), .pt b2 (.cells #[.string P5, .string P5, .int .i64 0] 124), .pt b1 (.cells #[.string s] 9)])
  (fun x => .pointer (some ⟨x.1, 0, none⟩)) (fun x => .pointer (some ⟨x.2, 0, none⟩)) ?_ ?_
 ·rintro ⟨b6, b7⟩ _
  simp only
  (have zz:=trivial;repeat((first|clear zz|with_reducible first|refine A3 ?_|refine A5 fun _=>?_|refine A4 fun _=>?_|refine D0 fun _=>?_|refine C9 (hK:=fun _=>?_)|refine C6 (hK:=fun _=>?_)|refine C8 (hK:=fun _=>?_)|refine C7 (hK:=fun _=>?_)|refine D1 (hK:=fun _=>?_));try simp(disch:=first|omega|assumption|((repeat(first|exact A1|exact uH|apply A2|apply uT));first|done|fail)|(simp;first|done|omega|fail))[]))
  rename_i bl
  refine D2 (u := .int .i64 (A7r s : Nat)) B1b (fun w' hw' => ?_) ?_
  ·have h1 := hw'.cell1 (b := b1) (by (repeat constructor))
   have h5 := hw'.cell1 (b := b5) (by (repeat constructor))
   have h6 := hw'.cell1 (b := b6) (by (repeat constructor))
   have h7 := hw'.cell1 (b := b7) (by (repeat constructor))
   have hk : ∀ {w2 : World} {b : Nat} {v : Value}, KS false [] w' w2 → w'.cell? ⟨b, 0, none⟩ = some v → w2.cell? ⟨b, 0, none⟩ = some v := fun h e => h.cell (by simp) e
   have hE : A2y [(.func (.func 189) #[] #[.pointer (some ⟨b1, 0, none⟩)], 2, decide (s.size < 20)), (.func (.func 190) #[] #[.pointer (some ⟨b5, 0, none⟩)], 3, decide (gv s 0 1 / 16 ≠ 4)),
    (.func (.func 191) #[] #[.pointer (some ⟨b6, 0, none⟩), .pointer (some ⟨b1, 0, none⟩), .pointer (some ⟨b7, 0, none⟩)], 4, decide (J0 s < 20 ∨ s.size < J0 s ∨ gv s 2 2 < J0 s ∨ s.size < gv s 2 2)),
    (.func (.func 192) #[] #[.pointer (some ⟨b1, 0, none⟩), .pointer (some ⟨b6, 0, none⟩)], 5, decide (v7 (s.extract 0 (J0 s)) ≠ 65535)), (.func (.func 194) #[] #[.pointer (some ⟨b5, 0, none⟩)], 6, decide (gv s 6 2 % 16384 ≠ 0))] = (A7r s : Nat) := by
    unfold A2y A7r
    by_cases c1 : s.size < 20
    ·simp [c1]
    by_cases c2 : gv s 0 1 / 16 ≠ 4
    ·simp [c1, c2]
    by_cases c3 : J0 s < 20 ∨ s.size < J0 s ∨ gv s 2 2 < J0 s ∨ s.size < gv s 2 2
    ·simp [c1, c2, c3]
    by_cases c4 : v7 (s.extract 0 (J0 s)) ≠ 65535
    ·simp [c1, c2, c3, c4]
    by_cases c5 : gv s 6 2 % 16384 ≠ 0
    ·simp [c1, c2, c3, c4, c5]
    ·simp [c1, c2, c3, c4, c5]
   rw [← hE]
   refine B9C w' _ _ (by simp) ?_ ?_
   ·have := N0.own (κ := false) (S := []) (w0 := w) (e := 296) (k := 2) (q := 5) (v := .slice (some ⟨bl, 0, none⟩) 5 5) (by (repeat constructor)) w' hw'
    simpa [B17] using this
   ·intro i hi hpre
    have hi' : i = 0 ∨ i = 1 ∨ i = 2 ∨ i = 3 ∨ i = 4 := by simp at hi; omega
    rcases hi' with rfl | rfl | rfl | rfl | rfl
    ·exact ⟨_, _, rfl, A8T, fun w2 h => C4A w2 s b1 (hk h h1)⟩
    ·exact ⟨_, _, rfl, A8U, fun w2 h => C3l w2 s hs b1 b5 (hk h h1) (hk h h5)⟩
    ·exact ⟨_, _, rfl, A8H, fun w2 h => C3w w2 s hs b1 b6 b7 (hk h h1) (hk h h6) (hk h h7)⟩
    ·have h2 := hpre 2 (by omega)
     simp only [List.getElem_cons_succ, List.getElem_cons_zero, decide_eq_false_iff_not] at h2
     exact ⟨_, _, rfl, A71, fun w2 h => C3e w2 s b1 b6 (hk h h1) (hk h h6) (by omega)⟩
    ·exact ⟨_, _, rfl, A8C, fun w2 h => C3U w2 s hs b1 b5 (hk h h1) (hk h h5)⟩
  ·by_cases he : A7r s = 0
   ·have hE := he
    unfold A7r at hE
    by_cases c1 : s.size < 20
    ·simp [c1] at hE
    by_cases c2 : gv s 0 1 / 16 ≠ 4
    ·simp [c1, c2] at hE
    by_cases c3 : J0 s < 20 ∨ s.size < J0 s ∨ gv s 2 2 < J0 s ∨ s.size < gv s 2 2
    ·simp [c1, c2, c3] at hE
    clear hE
    have hg91 := A8w s 9
    (have zz:=trivial;repeat((first|clear zz|with_reducible first|refine A3 ?_|refine A5 fun _=>?_|refine A4 fun _=>?_|refine D0 fun _=>?_|refine C9 (hK:=fun _=>?_)|refine C6 (hK:=fun _=>?_)|refine C8 (hK:=fun _=>?_)|refine C7 (hK:=fun _=>?_)|refine D1 (hK:=fun _=>?_));try simp(disch:=first|omega|assumption|((repeat(first|exact A1|exact uH|apply A2|apply uT));first|done|fail)|(simp;first|done|omega|fail))[he]))
    refine D2 j4 (fun w' hw' => C00 w' s hs b1 (hw'.cell1 (by (repeat constructor)))) ?_
    (have zz:=trivial;repeat((first|clear zz|with_reducible first|refine A3 ?_|refine A5 fun _=>?_|refine A4 fun _=>?_|refine D0 fun _=>?_|refine C9 (hK:=fun _=>?_)|refine C6 (hK:=fun _=>?_)|refine C8 (hK:=fun _=>?_)|refine C7 (hK:=fun _=>?_)|refine D1 (hK:=fun _=>?_));try simp(disch:=first|omega|assumption|((repeat(first|exact A1|exact uH|apply A2|apply uT));first|done|fail)|(simp;first|done|omega|fail))[]))
    exact B0 (by simp [x7, he, HeadV.val])
   ·(have zz:=trivial;repeat((first|clear zz|with_reducible first|refine A3 ?_|refine A5 fun _=>?_|refine A4 fun _=>?_|refine D0 fun _=>?_|refine C9 (hK:=fun _=>?_)|refine C6 (hK:=fun _=>?_)|refine C8 (hK:=fun _=>?_)|refine C7 (hK:=fun _=>?_)|refine D1 (hK:=fun _=>?_));try simp(disch:=first|omega|assumption|((repeat(first|exact A1|exact uH|apply A2|apply uT));first|done|fail)|(simp;first|done|omega|fail))[he]))
    exact B0 (by simp [x7, he, HeadV.val, HeadV.err])
 ·intro J hJ
  have hl := A8w s 0
  have e15 := C3g _ hl
  have em : ((gv s 0 1 : Nat) : Int) % 16 * 4 = (J0 s : Nat) := by simp [J0]
  have hJ' := fun b6 b7 => hJ (b6, b7) trivial
  simp only at hJ'
  clear hJ
  iterate 16 all_goals (try (first
   | exact fun _ _ => trivial
   | with_reducible refine And.intro ?_ ?_
   | (with_reducible apply D2 j4); (first | with_reducible exact fun w' hw' => C05 w' s hs b1 (hw'.cell1 (by ((repeat (first | exact A1 | exact Up.here | exact Sel.here | apply A2 | apply Up.there | apply Sel.there)); first | done | fail))) | with_reducible exact fun w' hw' => C1P w' s hs b1 (hw'.cell1 (by ((repeat (first | exact A1 | exact Up.here | exact Sel.here | apply A2 | apply Up.there | apply Sel.there)); first | done | fail))))
   | with_reducible refine A4 fun _ => ?_
   | simp(disch:=first|omega|assumption|((repeat(first|exact A1|exact uH|apply A2|apply uT));first|done|fail)|(simp;first|done|omega|fail))[e15, em]
   | with_reducible exact Sels.tw (by ((repeat (first | exact Sels.nil | (apply Sels.cons; · ((repeat (first | exact A1 | exact Up.here | exact Sel.here | apply A2 | apply Up.there | apply Sel.there)); first | done | fail)))); first | done | fail)) (hJ' _ _)))
  all_goals trace_state
def A5B (src dst : ByteArray) (proto : Int) (n : Nat) (own : Int) : ByteArray :=
 ByteArray.mk #[69, 0] ++ E0 (20 + n) 2 ++ ByteArray.mk #[0, 0, 64, 0, 64] ++ E0 proto 1 ++ E0 own 2 ++ src ++ dst
theorem B6C (w : World) (src dst rest : ByteArray) (proto own : Int) (b1 b2 : Nat) (h1 : w.cell? ⟨b1, 0, none⟩ = some (.string rest)) (h2 : w.cell? ⟨b2, 0, none⟩ = some (.string src)) (h3 : w.cell? ⟨b2, 1, none⟩ = some (.string dst))
  (h4 : w.cell? ⟨b2, 2, none⟩ = some (.int .i64 proto)) (hr : rest.size ≤ 65515) (hs : src.size = 4) (hd : dst.size = 4) (hp0 : 0 ≤ proto) (hp : proto ≤ 255) (ho0 : 0 ≤ own) (ho : own ≤ 65535) :
  Fn PR B4 97 #[.int .i64 own, .pointer (some ⟨b1, 0, none⟩), .pointer (some ⟨b2, 0, none⟩)] w (fun v w' => v = .string (A5B src dst proto rest.size own) ∧ C3 [] w w') := by
 refine Fn.pure (B1m (TW.go (κ := false) (S := []) ?_))
 unfold A5W
 (have zz:=trivial;repeat((first|clear zz|with_reducible first|refine A3 ?_|refine A5 fun _=>?_|refine A4 fun _=>?_|refine D0 fun _=>?_|refine C9 (hK:=fun _=>?_)|refine C6 (hK:=fun _=>?_)|refine C8 (hK:=fun _=>?_)|refine C7 (hK:=fun _=>?_)|refine D1 (hK:=fun _=>?_));try simp(disch:=first|omega|assumption|((repeat(first|exact A1|exact uH|apply A2|apply uT));first|done|fail)|(simp;first|done|omega|fail))[h1, h2, h3, h4]))
 refine D2 F6 (fun w' hw' => V2 w' _ _) ?_
 (have zz:=trivial;repeat((first|clear zz|with_reducible first|refine A3 ?_|refine A5 fun _=>?_|refine A4 fun _=>?_|refine D0 fun _=>?_|refine C9 (hK:=fun _=>?_)|refine C6 (hK:=fun _=>?_)|refine C8 (hK:=fun _=>?_)|refine C7 (hK:=fun _=>?_)|refine D1 (hK:=fun _=>?_));try simp(disch:=first|omega|assumption|((repeat(first|exact A1|exact uH|apply A2|apply uT));first|done|fail)|(simp;first|done|omega|fail))[h1, h2, h3, h4, T5]))
 refine D2 F6 (fun w' hw' => V2 w' _ _) ?_
 (have zz:=trivial;repeat((first|clear zz|with_reducible first|refine A3 ?_|refine A5 fun _=>?_|refine A4 fun _=>?_|refine D0 fun _=>?_|refine C9 (hK:=fun _=>?_)|refine C6 (hK:=fun _=>?_)|refine C8 (hK:=fun _=>?_)|refine C7 (hK:=fun _=>?_)|refine D1 (hK:=fun _=>?_));try simp(disch:=first|omega|assumption|((repeat(first|exact A1|exact uH|apply A2|apply uT));first|done|fail)|(simp;first|done|omega|fail))[h1, h2, h3, h4, T5]))
 refine D2 F6 (fun w' hw' => V2 w' _ _) ?_
 (have zz:=trivial;repeat((first|clear zz|with_reducible first|refine A3 ?_|refine A5 fun _=>?_|refine A4 fun _=>?_|refine D0 fun _=>?_|refine C9 (hK:=fun _=>?_)|refine C6 (hK:=fun _=>?_)|refine C8 (hK:=fun _=>?_)|refine C7 (hK:=fun _=>?_)|refine D1 (hK:=fun _=>?_));try simp(disch:=first|omega|assumption|((repeat(first|exact A1|exact uH|apply A2|apply uT));first|done|fail)|(simp;first|done|omega|fail))[h1, h2, h3, h4, T5, hs, hd]))
 exact B0 rfl
def A5H (src dst rest : ByteArray) (proto : Int) : ByteArray × Nat :=
 if src.size ≠ 4 ∨ dst.size ≠ 4 ∨ proto < 0 ∨ 255 < proto then (P5, 1) else if 65515 < rest.size then (P5, 4) else (A5B src dst proto rest.size (A9r (A5B src dst proto rest.size 0)) ++ rest, 0)
theorem B0n {src dst : ByteArray} {proto own : Int} {n : Nat} (hs : src.size = 4) (hd : dst.size = 4) : (A5B src dst proto n own).size = 20 := by simp [A5B, hs, hd]
theorem C07 (s : ByteArray) : 0 ≤ A9r s ∧ A9r s ≤ 65535 := by
 have := B7S (A48 s (T1 s)); unfold A9r v7; omega
theorem B6g (w : World) (src dst rest : ByteArray) (proto : Int) (hrs : rest.size < 2 ^ 40) :
  Fn PR B4 53 #[.agg #[.string src, .string dst, .int .i64 proto], .string rest] w (fun v w' => v = .tuple #[.string (A5H src dst rest proto).1, .int .i64 (A5H src dst rest proto).2] ∧ C3 [] w w') := by
 refine Fn.pure (B6D (TW.go (κ := false) (S := []) ?_))
 unfold A9V
 by_cases c1 : src.size = 4
 case neg =>
  have c1' : ¬ (src.size : Int) = 4 := by omega
  (have zz:=trivial;repeat((first|clear zz|with_reducible first|refine A3 ?_|refine A5 fun _=>?_|refine A4 fun _=>?_|refine D0 fun _=>?_|refine C9 (hK:=fun _=>?_)|refine C6 (hK:=fun _=>?_)|refine C8 (hK:=fun _=>?_)|refine C7 (hK:=fun _=>?_)|refine D1 (hK:=fun _=>?_));try simp(disch:=first|omega|assumption|((repeat(first|exact A1|exact uH|apply A2|apply uT));first|done|fail)|(simp;first|done|omega|fail))[c1'])); exact B0 (by simp [A5H, c1])
 by_cases c2 : dst.size = 4
 case neg =>
  have c2' : ¬ (dst.size : Int) = 4 := by omega
  (have zz:=trivial;repeat((first|clear zz|with_reducible first|refine A3 ?_|refine A5 fun _=>?_|refine A4 fun _=>?_|refine D0 fun _=>?_|refine C9 (hK:=fun _=>?_)|refine C6 (hK:=fun _=>?_)|refine C8 (hK:=fun _=>?_)|refine C7 (hK:=fun _=>?_)|refine D1 (hK:=fun _=>?_));try simp(disch:=first|omega|assumption|((repeat(first|exact A1|exact uH|apply A2|apply uT));first|done|fail)|(simp;first|done|omega|fail))[c1, c2'])); exact B0 (by simp [A5H, c2])
 by_cases c3 : proto < 0
 ·(have zz:=trivial;repeat((first|clear zz|with_reducible first|refine A3 ?_|refine A5 fun _=>?_|refine A4 fun _=>?_|refine D0 fun _=>?_|refine C9 (hK:=fun _=>?_)|refine C6 (hK:=fun _=>?_)|refine C8 (hK:=fun _=>?_)|refine C7 (hK:=fun _=>?_)|refine D1 (hK:=fun _=>?_));try simp(disch:=first|omega|assumption|((repeat(first|exact A1|exact uH|apply A2|apply uT));first|done|fail)|(simp;first|done|omega|fail))[c1, c2, c3])); exact B0 (by simp [A5H, c3])
 by_cases c4 : 255 < proto
 ·(have zz:=trivial;repeat((first|clear zz|with_reducible first|refine A3 ?_|refine A5 fun _=>?_|refine A4 fun _=>?_|refine D0 fun _=>?_|refine C9 (hK:=fun _=>?_)|refine C6 (hK:=fun _=>?_)|refine C8 (hK:=fun _=>?_)|refine C7 (hK:=fun _=>?_)|refine D1 (hK:=fun _=>?_));try simp(disch:=first|omega|assumption|((repeat(first|exact A1|exact uH|apply A2|apply uT));first|done|fail)|(simp;first|done|omega|fail))[c1, c2, c3, c4])); exact B0 (by simp [A5H, c4])
 by_cases c5 : 65515 < rest.size
 ·have c5' : 65515 < (rest.size : Int) := by omega
  (have zz:=trivial;repeat((first|clear zz|with_reducible first|refine A3 ?_|refine A5 fun _=>?_|refine A4 fun _=>?_|refine D0 fun _=>?_|refine C9 (hK:=fun _=>?_)|refine C6 (hK:=fun _=>?_)|refine C8 (hK:=fun _=>?_)|refine C7 (hK:=fun _=>?_)|refine D1 (hK:=fun _=>?_));try simp(disch:=first|omega|assumption|((repeat(first|exact A1|exact uH|apply A2|apply uT));first|done|fail)|(simp;first|done|omega|fail))[c1, c2, c3, c4, c5'])); exact B0 (by simp [A5H, c1, c2, c3, c4, c5])
 have c5' : ¬ 65515 < (rest.size : Int) := by omega
 (have zz:=trivial;repeat((first|clear zz|with_reducible first|refine A3 ?_|refine A5 fun _=>?_|refine A4 fun _=>?_|refine D0 fun _=>?_|refine C9 (hK:=fun _=>?_)|refine C6 (hK:=fun _=>?_)|refine C8 (hK:=fun _=>?_)|refine C7 (hK:=fun _=>?_)|refine D1 (hK:=fun _=>?_));try simp(disch:=first|omega|assumption|((repeat(first|exact A1|exact uH|apply A2|apply uT));first|done|fail)|(simp;first|done|omega|fail))[c1, c2, c3, c4, c5']))
 rename_i bh br
 have key : ∀ w', LW false [] w [.pt br (.cells #[.string rest] 9), .pt bh (.cells #[.string src, .string dst, .int .i64 proto] 124)] w' → ∀ own : Int, 0 ≤ own → own ≤ 65535 → _ :=
  fun w' hw' own h0 h1 => B6C w' src dst rest proto own br bh (hw'.cell1 (by (repeat constructor))) (hw'.cell (by (repeat constructor)) (by rfl)) (hw'.cell (by (repeat constructor)) (by rfl)) (hw'.cell (by (repeat constructor)) (by rfl)) (by omega) c1 c2 (by omega) (by omega) h0 h1
 refine D2 A4Z (fun w' hw' => key w' hw' 0 (by omega) (by omega)) ?_
 (have zz:=trivial;repeat((first|clear zz|with_reducible first|refine A3 ?_|refine A5 fun _=>?_|refine A4 fun _=>?_|refine D0 fun _=>?_|refine C9 (hK:=fun _=>?_)|refine C6 (hK:=fun _=>?_)|refine C8 (hK:=fun _=>?_)|refine C7 (hK:=fun _=>?_)|refine D1 (hK:=fun _=>?_));try simp(disch:=first|omega|assumption|((repeat(first|exact A1|exact uH|apply A2|apply uT));first|done|fail)|(simp;first|done|omega|fail))[]))
 have hz : (A5B src dst proto rest.size 0).size = 20 := B0n c1 c2
 have hv := C07 (A5B src dst proto rest.size 0)
 refine D2 B4S (fun w' hw' => C1r w' _ (by omega)) ?_
 (have zz:=trivial;repeat((first|clear zz|with_reducible first|refine A3 ?_|refine A5 fun _=>?_|refine A4 fun _=>?_|refine D0 fun _=>?_|refine C9 (hK:=fun _=>?_)|refine C6 (hK:=fun _=>?_)|refine C8 (hK:=fun _=>?_)|refine C7 (hK:=fun _=>?_)|refine D1 (hK:=fun _=>?_));try simp(disch:=first|omega|assumption|((repeat(first|exact A1|exact uH|apply A2|apply uT));first|done|fail)|(simp;first|done|omega|fail))[]))
 refine D2 A4Z (fun w' hw' => key w' hw' _ hv.1 hv.2) ?_
 have hz2 : (A5B src dst proto rest.size (A9r (A5B src dst proto rest.size 0))).size = 20 := B0n c1 c2
 (have zz:=trivial;repeat((first|clear zz|with_reducible first|refine A3 ?_|refine A5 fun _=>?_|refine A4 fun _=>?_|refine D0 fun _=>?_|refine C9 (hK:=fun _=>?_)|refine C6 (hK:=fun _=>?_)|refine C8 (hK:=fun _=>?_)|refine C7 (hK:=fun _=>?_)|refine D1 (hK:=fun _=>?_));try simp(disch:=first|omega|assumption|((repeat(first|exact A1|exact uH|apply A2|apply uT));first|done|fail)|(simp;first|done|omega|fail))[T5]))
 exact B0 (by simp [A5H, c1, c2, c3, c4, c5])
end Go.Proofs.YtpbmephflllolaaGreat
namespace Go.Proofs.YtpbmephflllolaaGreat
open Go
def A4v : List Nat → ByteArray → List ByteArray
 | [], s => [s]
 | n :: ns, s => s.extract 0 n :: A4v ns (s.extract n s.size)
theorem C2B (w : World) (v : Value) (ns : List Nat) (s : ByteArray) (hn : ns.length < 100) (hv : F3 w v ns.length (ns.map fun n : Nat => Value.int .i64 (n : Int))) (hs : ns.sum ≤ s.size) (hs2 : s.size < 2 ^ 63) :
  Fn PR B4 195 #[.string s, v] w (Rn [] w (fun v u => u = v) fun v => [.own 9 1 v (ns.length + 1) ((A4v ns s).map .string)]) := by
 refine B5y (TW.go (κ := false) (S := []) ?_)
 unfold A88
 obtain ⟨a, c, rfl, hrow⟩ := hv.form
 (have zz:=trivial;repeat((first|clear zz|with_reducible first|refine A3 ?_|refine A5 fun _=>?_|refine A4 fun _=>?_|refine D0 fun _=>?_|refine C9 (hK:=fun _=>?_)|refine C6 (hK:=fun _=>?_)|refine C8 (hK:=fun _=>?_)|refine C7 (hK:=fun _=>?_)|refine D1 (hK:=fun _=>?_));try simp(disch:=first|omega|assumption|((repeat(first|exact A1|exact uH|apply A2|apply uT));first|done|fail)|(simp;first|done|omega|fail))[]))
 refine p8 9 1 ?_
 refine C1f (α := Value × ByteArray × List ByteArray) ns.length (fun _ x => x.1) (fun _ x => .string x.2.1) (fun i x => [.own 9 1 x.1 i (x.2.2.map .string)])
  (fun i x => A4v ns s = x.2.2 ++ A4v (ns.drop i) x.2.1 ∧ (ns.drop i).sum ≤ x.2.1.size ∧ x.2.1.size ≤ s.size) (.slice none 0 0, s, []) ⟨by simp, by simpa using hs, Nat.le_refl _⟩ ?_
 rintro i ⟨v, r, d⟩ hi ⟨h1, h2, h3⟩ L hL
 simp only at h1 h2 h3 hL ⊢
 by_cases hlt : i < ns.length
 ·obtain ⟨b, o, rfl, hr⟩ := hrow (by omega)
  have hx : ns[i]? = some ns[i] := List.getElem?_eq_getElem hlt
  have hc := hr.one hx
  rw [List.drop_eq_getElem_cons hlt] at h1 h2
  simp only [List.sum_cons, A4v] at h1 h2
  have hle : ((ns[i] : Nat) : Int) ≤ r.size := by omega
  (have zz:=trivial;repeat((first|clear zz|with_reducible first|refine A3 ?_|refine A5 fun _=>?_|refine A4 fun _=>?_|refine D0 fun _=>?_|refine C9 (hK:=fun _=>?_)|refine C6 (hK:=fun _=>?_)|refine C8 (hK:=fun _=>?_)|refine C7 (hK:=fun _=>?_)|refine D1 (hK:=fun _=>?_));try simp(disch:=first|omega|assumption|((repeat(first|exact A1|exact uH|apply A2|apply uT));first|done|fail)|(simp;first|done|omega|fail))[hlt, hc]))
  refine A0J (by (repeat constructor)) (N0.own (by (repeat constructor))) (by decide) (by simp) (by simp) (by simp only [maxLen]; omega) (by omega) fun a' c' => ?_
  (have zz:=trivial;repeat((first|clear zz|with_reducible first|refine A3 ?_|refine A5 fun _=>?_|refine A4 fun _=>?_|refine D0 fun _=>?_|refine C9 (hK:=fun _=>?_)|refine C6 (hK:=fun _=>?_)|refine C8 (hK:=fun _=>?_)|refine C7 (hK:=fun _=>?_)|refine D1 (hK:=fun _=>?_));try simp(disch:=first|omega|assumption|((repeat(first|exact A1|exact uH|apply A2|apply uT));first|done|fail)|(simp;first|done|omega|fail))[hlt, hle]))
  have := hL hlt (.slice a' (i + 1) c', r.extract ns[i] r.size, d ++ [r.extract 0 ns[i]]) ⟨by rw [h1]; simp, by rw [ByteArray.size_extract]; omega, by rw [ByteArray.size_extract]; omega⟩
  simp only [List.map_append, List.map_cons, List.map_nil] at this
  exact Sels.tw (by (repeat' constructor)) this
 ·obtain rfl : i = ns.length := by omega
  (have zz:=trivial;repeat((first|clear zz|with_reducible first|refine A3 ?_|refine A5 fun _=>?_|refine A4 fun _=>?_|refine D0 fun _=>?_|refine C9 (hK:=fun _=>?_)|refine C6 (hK:=fun _=>?_)|refine C8 (hK:=fun _=>?_)|refine C7 (hK:=fun _=>?_)|refine D1 (hK:=fun _=>?_));try simp(disch:=first|omega|assumption|((repeat(first|exact A1|exact uH|apply A2|apply uT));first|done|fail)|(simp;first|done|omega|fail))[]))
  refine A0J (by (repeat constructor)) (N0.own (by (repeat constructor))) (by decide) (by simp) (by simp) (by simp only [maxLen]; omega) (by omega) fun a' c' => ?_
  simp only [List.drop_length, A4v] at h1
  rw [h1]
  exact V7 _ rfl (by simp)
def B0F (s : ByteArray) : Nat := if s.size < 40 then 2 else if gv s 0 1 / 16 ≠ 6 then 3 else if s.size - 40 < gv s 4 2 then 4 else 0
def n5 (s : ByteArray) : HeadV := if B0F s = 0 then ⟨s.extract 8 24, s.extract 24 40, gv s 6 1, s.extract 40 (40 + gv s 4 2), 0⟩ else .err (B0F s)
theorem A4s (s : ByteArray) (a b i : Nat) (hb : b ≤ s.size) (hi : i < b - a) : E2 (s.extract a b) i = E2 s (a + i) := by
 unfold E2
 rw [Array.getD_eq_getD_getElem?, Array.getD_eq_getD_getElem?, ByteArray.data_extract, Array.getElem?_extract]
 rw [if_pos (by simp only [ByteArray.size] at hb; omega)]
theorem B4G (s : ByteArray) (a b i n : Nat) (hb : b ≤ s.size) (hn : i + n ≤ b - a) : p6 (s.extract a b) i n = p6 s (a + i) n := by
 induction n with
 | zero => rfl
 | succ n ih => simp only [p6]; rw [ih (by omega), A4s s a b _ hb (by omega), Nat.add_assoc]
theorem B55 {s : ByteArray} {a n : Nat} (h : a + n ≤ s.size) : gv s a n = p6 s a n := if_pos h
theorem B6Z (s : ByteArray) (a b i n : Nat) (hb : b ≤ s.size) (hn : i + n ≤ b - a) (hab : a ≤ b) : gv (s.extract a b) i n = gv s (a + i) n := by
 rw [B55 (by rw [ByteArray.size_extract]; omega), B55 (by omega), B4G s a b i n hb hn]
theorem B7T {s : ByteArray} {a : Nat} (h : a < s.size) : gv s a 1 = E2 s a := by rw [B55 (by omega)]; simp [p6]
theorem A8W (s : ByteArray) (a b c d : Nat) (hb : b ≤ s.size) (hd : a + d ≤ b) : (s.extract a b).extract c d = s.extract (a + c) (a + d) := by
 apply ByteArray.ext
 rw [ByteArray.data_extract, ByteArray.data_extract, ByteArray.data_extract, Array.extract_extract]
 congr 1; omega
def B8M (s : ByteArray) : Nat → List Nat → List ByteArray
 | a, [] => [s.extract a s.size]
 | a, n :: ns => s.extract a (a + n) :: B8M s (a + n) ns
theorem C0Z (s : ByteArray) (ns : List Nat) : ∀ a, a + ns.sum ≤ s.size → A4v ns (s.extract a s.size) = B8M s a ns := by
 induction ns with
 | nil => intro a _; rfl
 | cons n ns ih =>
  intro a h
  simp only [List.sum_cons] at h
  simp only [A4v, B8M]
  rw [A8W _ _ _ _ _ (by omega) (by omega), A8W _ _ _ _ _ (by omega) (by rw [ByteArray.size_extract]; omega), ByteArray.size_extract, Nat.add_zero]
  rw [show a + (min s.size s.size - a) = s.size from by omega, ih _ (by omega)]
theorem B3m (s : ByteArray) : s.extract 0 s.size = s := by
 apply ByteArray.ext; rw [ByteArray.data_extract]; exact Array.extract_size ..
theorem B6V {s : ByteArray} (h : 40 ≤ s.size) : A4v [4, 2, 1, 1, 16, 16] s = [s.extract 0 4, s.extract 4 6, s.extract 6 7, s.extract 7 8, s.extract 8 24, s.extract 24 40, s.extract 40 s.size] := by
 have := C0Z s [4, 2, 1, 1, 16, 16] 0 (by simp; omega)
 rw [B3m] at this; rw [this]; rfl
theorem B4K (w : World) (s : ByteArray) (hs : s.size < 2 ^ 63) : Fn PR B4 146 #[.string s] w (fun v w' => v = (n5 s).val ∧ C3 [] w w') := by
 refine Fn.pure (B3K (TW.go (κ := false) (S := []) ?_))
 unfold A53
 by_cases c1 : s.size < 40
 ·have c1' : (s.size : Int) < 40 := by omega
  (have zz:=trivial;repeat((first|clear zz|with_reducible first|refine A3 ?_|refine A5 fun _=>?_|refine A4 fun _=>?_|refine D0 fun _=>?_|refine C9 (hK:=fun _=>?_)|refine C6 (hK:=fun _=>?_)|refine C8 (hK:=fun _=>?_)|refine C7 (hK:=fun _=>?_)|refine D1 (hK:=fun _=>?_));try simp(disch:=first|omega|assumption|((repeat(first|exact A1|exact uH|apply A2|apply uT));first|done|fail)|(simp;first|done|omega|fail))[c1'])); exact B0 (by simp [n5, B0F, c1, HeadV.val, HeadV.err])
 have c1' : ¬ (s.size : Int) < 40 := by omega
 obtain ⟨by0, hb0, hb1⟩ := y0 (s := s) (i := 0) (by omega)
 have hg0 : gv s 0 1 = E2 s 0 := B7T (by omega)
 have e1 : ((by0.toNat : Nat) : Int).fdiv (2 ^ min 4 IntKind.u8.bits) = (gv s 0 1 / 16 : Nat) := by rw [show (2 : Int) ^ min 4 IntKind.u8.bits = 16 from rfl, Int.fdiv_eq_ediv_of_nonneg _ (by omega), hb1, hg0]; omega
 have hb0' : s[(0 : Int).toNat]? = some by0 := hb0
 by_cases c2 : gv s 0 1 / 16 = 6
 case neg =>
  have c2' : ¬ ((gv s 0 1 / 16 : Nat) : Int) = 6 := by omega
  (have zz:=trivial;repeat((first|clear zz|with_reducible first|refine A3 ?_|refine A5 fun _=>?_|refine A4 fun _=>?_|refine D0 fun _=>?_|refine C9 (hK:=fun _=>?_)|refine C6 (hK:=fun _=>?_)|refine C8 (hK:=fun _=>?_)|refine C7 (hK:=fun _=>?_)|refine D1 (hK:=fun _=>?_));try simp(disch:=first|omega|assumption|((repeat(first|exact A1|exact uH|apply A2|apply uT));first|done|fail)|(simp;first|done|omega|fail))[c1', Y7]))
  rw [e1, if_neg c2']
  (have zz:=trivial;repeat((first|clear zz|with_reducible first|refine A3 ?_|refine A5 fun _=>?_|refine A4 fun _=>?_|refine D0 fun _=>?_|refine C9 (hK:=fun _=>?_)|refine C6 (hK:=fun _=>?_)|refine C8 (hK:=fun _=>?_)|refine C7 (hK:=fun _=>?_)|refine D1 (hK:=fun _=>?_));try simp(disch:=first|omega|assumption|((repeat(first|exact A1|exact uH|apply A2|apply uT));first|done|fail)|(simp;first|done|omega|fail))[])); exact B0 (by simp [n5, B0F, c1, c2, HeadV.val, HeadV.err])
 have c2' : ((gv s 0 1 / 16 : Nat) : Int) = 6 := by omega
 (have zz:=trivial;repeat((first|clear zz|with_reducible first|refine A3 ?_|refine A5 fun _=>?_|refine A4 fun _=>?_|refine D0 fun _=>?_|refine C9 (hK:=fun _=>?_)|refine C6 (hK:=fun _=>?_)|refine C8 (hK:=fun _=>?_)|refine C7 (hK:=fun _=>?_)|refine D1 (hK:=fun _=>?_));try simp(disch:=first|omega|assumption|((repeat(first|exact A1|exact uH|apply A2|apply uT));first|done|fail)|(simp;first|done|omega|fail))[c1', Y7]))
 rw [e1, if_pos c2']
 (have zz:=trivial;repeat((first|clear zz|with_reducible first|refine A3 ?_|refine A5 fun _=>?_|refine A4 fun _=>?_|refine D0 fun _=>?_|refine C9 (hK:=fun _=>?_)|refine C6 (hK:=fun _=>?_)|refine C8 (hK:=fun _=>?_)|refine C7 (hK:=fun _=>?_)|refine D1 (hK:=fun _=>?_));try simp(disch:=first|omega|assumption|((repeat(first|exact A1|exact uH|apply A2|apply uT));first|done|fail)|(simp;first|done|omega|fail))[]))
 rename_i bh bl
 refine M3 B38 (fun w' hw' => C2B w' _ [4, 2, 1, 1, 16, 16] s (by simp) ?_ (by simp; omega) (by omega)) ?_
 ·have := N0.own (κ := false) (S := []) (w0 := w) (e := 3) (k := 1) (q := 6) (v := .slice (some ⟨bl, 0, none⟩) 6 6) (by (repeat constructor)) w' hw'
  simpa using this
 rintro v _ rfl
 rw [B6V (by omega)]
 simp only [List.length_cons, List.length_nil, List.map_cons, List.map_nil, List.cons_append, List.nil_append]
 refine A0Q (by (repeat constructor)) (by omega) fun g c hv => ?_
 subst hv
 (have zz:=trivial;repeat((first|clear zz|with_reducible first|refine A3 ?_|refine A5 fun _=>?_|refine A4 fun _=>?_|refine D0 fun _=>?_|refine C9 (hK:=fun _=>?_)|refine C6 (hK:=fun _=>?_)|refine C8 (hK:=fun _=>?_)|refine C7 (hK:=fun _=>?_)|refine D1 (hK:=fun _=>?_));try simp(disch:=first|omega|assumption|((repeat(first|exact A1|exact uH|apply A2|apply uT));first|done|fail)|(simp;first|done|omega|fail))[]))
 refine D2 P6 (fun w' _ => A1M w' _ (by simp; omega) _ _) ?_
 have hgv := A4g (s.extract 4 6) 0 2 (by omega) (by omega)
 rw [B6Z s 4 6 0 2 (by omega) (by omega) (by omega)] at hgv
 simp only [Int.natCast_zero, Int.cast_ofNat_Int] at hgv
 have hlt := A1c s 4
 rw [hgv]
 (have zz:=trivial;repeat((first|clear zz|with_reducible first|refine A3 ?_|refine A5 fun _=>?_|refine A4 fun _=>?_|refine D0 fun _=>?_|refine C9 (hK:=fun _=>?_)|refine C6 (hK:=fun _=>?_)|refine C8 (hK:=fun _=>?_)|refine C7 (hK:=fun _=>?_)|refine D1 (hK:=fun _=>?_));try simp(disch:=first|omega|assumption|((repeat(first|exact A1|exact uH|apply A2|apply uT));first|done|fail)|(simp;first|done|omega|fail))[]))
 refine B6F (fun c3 => ?_) (fun c3 => ?_)
 ·(have zz:=trivial;repeat((first|clear zz|with_reducible first|refine A3 ?_|refine A5 fun _=>?_|refine A4 fun _=>?_|refine D0 fun _=>?_|refine C9 (hK:=fun _=>?_)|refine C6 (hK:=fun _=>?_)|refine C8 (hK:=fun _=>?_)|refine C7 (hK:=fun _=>?_)|refine D1 (hK:=fun _=>?_));try simp(disch:=first|omega|assumption|((repeat(first|exact A1|exact uH|apply A2|apply uT));first|done|fail)|(simp;first|done|omega|fail))[]))
  exact B0 (by simp [n5, B0F, c1, c2, c3, HeadV.val, HeadV.err])
 ·obtain ⟨by6, hb6, hb6'⟩ := y0 (s := s.extract 6 7) (i := 0) (by simp; omega)
  have hp : E2 (s.extract 6 7) 0 = gv s 6 1 := by rw [A4s s 6 7 0 (by omega) (by omega), B7T (by omega)]
  have hb6'' : (s.extract 6 7)[(0 : Int).toNat]? = some by6 := hb6
  have hle : ((gv s 4 2 : Nat) : Int) ≤ (s.extract 40 s.size).size := by rw [ByteArray.size_extract]; omega
  (have zz:=trivial;repeat((first|clear zz|with_reducible first|refine A3 ?_|refine A5 fun _=>?_|refine A4 fun _=>?_|refine D0 fun _=>?_|refine C9 (hK:=fun _=>?_)|refine C6 (hK:=fun _=>?_)|refine C8 (hK:=fun _=>?_)|refine C7 (hK:=fun _=>?_)|refine D1 (hK:=fun _=>?_));try simp(disch:=first|omega|assumption|((repeat(first|exact A1|exact uH|apply A2|apply uT));first|done|fail)|(simp;first|done|omega|fail))[Y7]))
  have h6 := A8w s 6
  have w6 : IntKind.i64.wrap (gv s 6 1 : Nat) = (gv s 6 1 : Nat) := A1N (by omega) (by omega)
  rw [hb6', hp]
  exact B0 (by rw [A8W s 40 s.size 0 _ (by omega) (by omega)]; simp [n5, B0F, c1, c2, c3, HeadV.val, w6])
theorem A1H : liesAt PR PR.depth 189 (2 / PR.cellsOf 189) 0 187 1 = true := by kernel_rfl
theorem A3Q (w : World) (b : Nat) (a : Option Addr) (v : Value) (q : Nat) (xs : List Value) (x n : Int) (ha : a = none ∨ a = some ⟨b, 0, none⟩) (hx0 : 0 ≤ x) (hx : x < 2 ^ 62) (hs : q < 2 ^ 39)
  (hw : LW false (B3 (Bd b 189 a v q xs)) w (Bd b 189 a v q xs) w) : Fn PR B4 94 #[.pointer (some ⟨b, 0, none⟩), .int .i64 x, .int .i64 n] w
   (Rn (B3 (Bd b 189 a v q xs)) w (fun (_ : Value) u => u = .tuple #[]) fun v' => Bd b 189 (some ⟨b, 0, none⟩) v' (q + (E0 x n).size) (xs ++ E1 (E0 x n))) := by
 refine A46 (TW.goH (κ := false) (S := B3 (Bd b 189 a v q xs)) ?_ hw)
 unfold A0P
 (have zz:=trivial;repeat((first|clear zz|with_reducible first|refine A3 ?_|refine A5 fun _=>?_|refine A4 fun _=>?_|refine D0 fun _=>?_|refine C9 (hK:=fun _=>?_)|refine C6 (hK:=fun _=>?_)|refine C8 (hK:=fun _=>?_)|refine C7 (hK:=fun _=>?_)|refine D1 (hK:=fun _=>?_));try simp(disch:=first|omega|assumption|((repeat(first|exact A1|exact uH|apply A2|apply uT));first|done|fail)|(simp;first|done|omega|fail))[]))
 refine D2 F6 (fun w' _ => V2 w' _ _) ?_
 have hp : (E0 x n).size ≤ 8 := by
  by_cases h : 1 ≤ n ∧ n ≤ 8
  ·rw [B8C h.1 h.2]; omega
  ·simp [E0, h]
 refine A83 (Hc := Bd b 189 a v q xs) (Hk := []) H6 (by rfl) (fun w' hw' => r5 w' b _ a v q xs _ ha A1H (by omega) hw'.self) ?_
 rintro v' _ rfl
 (have zz:=trivial;repeat((first|clear zz|with_reducible first|refine A3 ?_|refine A5 fun _=>?_|refine A4 fun _=>?_|refine D0 fun _=>?_|refine C9 (hK:=fun _=>?_)|refine C6 (hK:=fun _=>?_)|refine C8 (hK:=fun _=>?_)|refine C7 (hK:=fun _=>?_)|refine D1 (hK:=fun _=>?_));try simp(disch:=first|omega|assumption|((repeat(first|exact A1|exact uH|apply A2|apply uT));first|done|fail)|(simp;first|done|omega|fail))[]))
 exact C4 v' rfl (by simp only [Bd]; (repeat' constructor))
def A8Q (src dst rest : ByteArray) (proto : Int) : ByteArray := E0 1610612736 4 ++ E0 rest.size 2 ++ E0 proto 1 ++ E0 64 1 ++ src ++ dst ++ rest
def A99 (rest : ByteArray) : Nat → Nat | 0 => 8 | 1 => 24 | 2 => 40 | _ => 40 + rest.size
def B0M (src dst rest : ByteArray) (proto : Int) : Nat → ByteArray
 | 0 => E0 1610612736 4 ++ E0 rest.size 2 ++ E0 proto 1 ++ E0 64 1
 | 1 => E0 1610612736 4 ++ E0 rest.size 2 ++ E0 proto 1 ++ E0 64 1 ++ src
 | 2 => E0 1610612736 4 ++ E0 rest.size 2 ++ E0 proto 1 ++ E0 64 1 ++ src ++ dst
 | _ => A8Q src dst rest proto
def A44 (src dst rest : ByteArray) (proto : Int) : ByteArray × Nat :=
 if src.size ≠ 16 ∨ dst.size ≠ 16 ∨ proto < 0 ∨ 255 < proto then (P5, 1) else if 65535 < rest.size then (P5, 4) else (A8Q src dst rest proto, 0)
theorem B6y (w : World) (src dst rest : ByteArray) (proto : Int) (hrs : rest.size < 2 ^ 40) :
  Fn PR B4 52 #[.agg #[.string src, .string dst, .int .i64 proto], .string rest] w (fun v w' => v = .tuple #[.string (A44 src dst rest proto).1, .int .i64 (A44 src dst rest proto).2] ∧ C3 [] w w') := by
 refine Fn.pure (B5r (TW.go (κ := false) (S := []) ?_))
 unfold A8q
 by_cases c1 : src.size = 16
 case neg =>
  have c1' : ¬ (src.size : Int) = 16 := by omega
  (have zz:=trivial;repeat((first|clear zz|with_reducible first|refine A3 ?_|refine A5 fun _=>?_|refine A4 fun _=>?_|refine D0 fun _=>?_|refine C9 (hK:=fun _=>?_)|refine C6 (hK:=fun _=>?_)|refine C8 (hK:=fun _=>?_)|refine C7 (hK:=fun _=>?_)|refine D1 (hK:=fun _=>?_));try simp(disch:=first|omega|assumption|((repeat(first|exact A1|exact uH|apply A2|apply uT));first|done|fail)|(simp;first|done|omega|fail))[c1'])); exact B0 (by simp [A44, c1])
 by_cases c2 : dst.size = 16
 case neg =>
  have c2' : ¬ (dst.size : Int) = 16 := by omega
  (have zz:=trivial;repeat((first|clear zz|with_reducible first|refine A3 ?_|refine A5 fun _=>?_|refine A4 fun _=>?_|refine D0 fun _=>?_|refine C9 (hK:=fun _=>?_)|refine C6 (hK:=fun _=>?_)|refine C8 (hK:=fun _=>?_)|refine C7 (hK:=fun _=>?_)|refine D1 (hK:=fun _=>?_));try simp(disch:=first|omega|assumption|((repeat(first|exact A1|exact uH|apply A2|apply uT));first|done|fail)|(simp;first|done|omega|fail))[c1, c2'])); exact B0 (by simp [A44, c2])
 by_cases c3 : proto < 0
 ·(have zz:=trivial;repeat((first|clear zz|with_reducible first|refine A3 ?_|refine A5 fun _=>?_|refine A4 fun _=>?_|refine D0 fun _=>?_|refine C9 (hK:=fun _=>?_)|refine C6 (hK:=fun _=>?_)|refine C8 (hK:=fun _=>?_)|refine C7 (hK:=fun _=>?_)|refine D1 (hK:=fun _=>?_));try simp(disch:=first|omega|assumption|((repeat(first|exact A1|exact uH|apply A2|apply uT));first|done|fail)|(simp;first|done|omega|fail))[c1, c2, c3])); exact B0 (by simp [A44, c3])
 by_cases c4 : 255 < proto
 ·(have zz:=trivial;repeat((first|clear zz|with_reducible first|refine A3 ?_|refine A5 fun _=>?_|refine A4 fun _=>?_|refine D0 fun _=>?_|refine C9 (hK:=fun _=>?_)|refine C6 (hK:=fun _=>?_)|refine C8 (hK:=fun _=>?_)|refine C7 (hK:=fun _=>?_)|refine D1 (hK:=fun _=>?_));try simp(disch:=first|omega|assumption|((repeat(first|exact A1|exact uH|apply A2|apply uT));first|done|fail)|(simp;first|done|omega|fail))[c1, c2, c3, c4])); exact B0 (by simp [A44, c4])
 by_cases c5 : 65535 < rest.size
 ·have c5' : 65535 < (rest.size : Int) := by omega
  (have zz:=trivial;repeat((first|clear zz|with_reducible first|refine A3 ?_|refine A5 fun _=>?_|refine A4 fun _=>?_|refine D0 fun _=>?_|refine C9 (hK:=fun _=>?_)|refine C6 (hK:=fun _=>?_)|refine C8 (hK:=fun _=>?_)|refine C7 (hK:=fun _=>?_)|refine D1 (hK:=fun _=>?_));try simp(disch:=first|omega|assumption|((repeat(first|exact A1|exact uH|apply A2|apply uT));first|done|fail)|(simp;first|done|omega|fail))[c1, c2, c3, c4, c5'])); exact B0 (by simp [A44, c1, c2, c3, c4, c5])
 have c5' : ¬ 65535 < (rest.size : Int) := by omega
 (have zz:=trivial;repeat((first|clear zz|with_reducible first|refine A3 ?_|refine A5 fun _=>?_|refine A4 fun _=>?_|refine D0 fun _=>?_|refine C9 (hK:=fun _=>?_)|refine C6 (hK:=fun _=>?_)|refine C8 (hK:=fun _=>?_)|refine C7 (hK:=fun _=>?_)|refine D1 (hK:=fun _=>?_));try simp(disch:=first|omega|assumption|((repeat(first|exact A1|exact uH|apply A2|apply uT));first|done|fail)|(simp;first|done|omega|fail))[c1, c2, c3, c4, c5']))
 rename_i bh bw
 refine p8 5 1 ?_
 refine D4 S3 (fun w' _ hs => A3Q w' bw none (.slice none 0 0) 0 [] 1610612736 4 (Or.inl rfl) (by omega) (by omega) (by omega) hs) (by (repeat' constructor)) ?_
 rintro v1 _ rfl
 (have zz:=trivial;repeat((first|clear zz|with_reducible first|refine A3 ?_|refine A5 fun _=>?_|refine A4 fun _=>?_|refine D0 fun _=>?_|refine C9 (hK:=fun _=>?_)|refine C6 (hK:=fun _=>?_)|refine C8 (hK:=fun _=>?_)|refine C7 (hK:=fun _=>?_)|refine D1 (hK:=fun _=>?_));try simp(disch:=first|omega|assumption|((repeat(first|exact A1|exact uH|apply A2|apply uT));first|done|fail)|(simp;first|done|omega|fail))[]))
 refine D4 S3 (fun w' _ hs => A3Q w' bw _ v1 4 _ rest.size 2 (Or.inr rfl) (by omega) (by omega) (by omega) hs) (by (repeat' constructor)) ?_
 rintro v2 _ rfl
 (have zz:=trivial;repeat((first|clear zz|with_reducible first|refine A3 ?_|refine A5 fun _=>?_|refine A4 fun _=>?_|refine D0 fun _=>?_|refine C9 (hK:=fun _=>?_)|refine C6 (hK:=fun _=>?_)|refine C8 (hK:=fun _=>?_)|refine C7 (hK:=fun _=>?_)|refine D1 (hK:=fun _=>?_));try simp(disch:=first|omega|assumption|((repeat(first|exact A1|exact uH|apply A2|apply uT));first|done|fail)|(simp;first|done|omega|fail))[]))
 refine D4 S3 (fun w' _ hs => A3Q w' bw _ v2 6 _ proto 1 (Or.inr rfl) (by omega) (by omega) (by omega) hs) (by (repeat' constructor)) ?_
 rintro v3 _ rfl
 (have zz:=trivial;repeat((first|clear zz|with_reducible first|refine A3 ?_|refine A5 fun _=>?_|refine A4 fun _=>?_|refine D0 fun _=>?_|refine C9 (hK:=fun _=>?_)|refine C6 (hK:=fun _=>?_)|refine C8 (hK:=fun _=>?_)|refine C7 (hK:=fun _=>?_)|refine D1 (hK:=fun _=>?_));try simp(disch:=first|omega|assumption|((repeat(first|exact A1|exact uH|apply A2|apply uT));first|done|fail)|(simp;first|done|omega|fail))[]))
 refine D4 S3 (fun w' _ hs => A3Q w' bw _ v3 7 _ 64 1 (Or.inr rfl) (by omega) (by omega) (by omega) hs) (by (repeat' constructor)) ?_
 rintro v4 _ rfl
 (have zz:=trivial;repeat((first|clear zz|with_reducible first|refine A3 ?_|refine A5 fun _=>?_|refine A4 fun _=>?_|refine D0 fun _=>?_|refine C9 (hK:=fun _=>?_)|refine C6 (hK:=fun _=>?_)|refine C8 (hK:=fun _=>?_)|refine C7 (hK:=fun _=>?_)|refine D1 (hK:=fun _=>?_));try simp(disch:=first|omega|assumption|((repeat(first|exact A1|exact uH|apply A2|apply uT));first|done|fail)|(simp;first|done|omega|fail))[]))
 rename_i bl
 refine B42 (α := Value) 3 (fun i v => [.own 9 1 (.slice (some ⟨bl, 0, none⟩) 3 3) 3 [.string src, .string dst, .string rest], .pt bw (.cells #[.pointer (some ⟨bw, 0, none⟩), v] 189),
  .own 5 1 v (A99 rest i) (E1 (B0M src dst rest proto i)), .pt bh (.cells #[.string src, .string dst, .int .i64 proto] 122)]) (fun _ _ => True) v4 trivial ?_ (by simp [A99, B0M, A0G])
 rintro i v hi _ L hL
 obtain rfl | rfl | rfl | rfl : i = 0 ∨ i = 1 ∨ i = 2 ∨ i = 3 := by omega
 ·have hL' := fun v' => hL (by omega) v' trivial
  simp only [A99, B0M, A0G, List.append_assoc] at hL' ⊢
  (have zz:=trivial;repeat((first|clear zz|with_reducible first|refine A3 ?_|refine A5 fun _=>?_|refine A4 fun _=>?_|refine D0 fun _=>?_|refine C9 (hK:=fun _=>?_)|refine C6 (hK:=fun _=>?_)|refine C8 (hK:=fun _=>?_)|refine C7 (hK:=fun _=>?_)|refine D1 (hK:=fun _=>?_));try simp(disch:=first|omega|assumption|((repeat(first|exact A1|exact uH|apply A2|apply uT));first|done|fail)|(simp;first|done|omega|fail))[]))
  refine D4 H6 (fun w' _ hs => r5 w' bw _ _ v 8 _ src (Or.inr rfl) A1H (by omega) hs) (by (repeat' constructor)) ?_
  rintro v' _ rfl
  (have zz:=trivial;repeat((first|clear zz|with_reducible first|refine A3 ?_|refine A5 fun _=>?_|refine A4 fun _=>?_|refine D0 fun _=>?_|refine C9 (hK:=fun _=>?_)|refine C6 (hK:=fun _=>?_)|refine C8 (hK:=fun _=>?_)|refine C7 (hK:=fun _=>?_)|refine D1 (hK:=fun _=>?_));try simp(disch:=first|omega|assumption|((repeat(first|exact A1|exact uH|apply A2|apply uT));first|done|fail)|(simp;first|done|omega|fail))[c1]))
  exact Sels.tw (by (repeat' constructor)) (hL' v')
 ·have hL' := fun v' => hL (by omega) v' trivial
  simp only [A99, B0M, A0G, List.append_assoc] at hL' ⊢
  (have zz:=trivial;repeat((first|clear zz|with_reducible first|refine A3 ?_|refine A5 fun _=>?_|refine A4 fun _=>?_|refine D0 fun _=>?_|refine C9 (hK:=fun _=>?_)|refine C6 (hK:=fun _=>?_)|refine C8 (hK:=fun _=>?_)|refine C7 (hK:=fun _=>?_)|refine D1 (hK:=fun _=>?_));try simp(disch:=first|omega|assumption|((repeat(first|exact A1|exact uH|apply A2|apply uT));first|done|fail)|(simp;first|done|omega|fail))[]))
  refine D4 H6 (fun w' _ hs => r5 w' bw _ _ v 24 _ dst (Or.inr rfl) A1H (by omega) hs) (by (repeat' constructor)) ?_
  rintro v' _ rfl
  (have zz:=trivial;repeat((first|clear zz|with_reducible first|refine A3 ?_|refine A5 fun _=>?_|refine A4 fun _=>?_|refine D0 fun _=>?_|refine C9 (hK:=fun _=>?_)|refine C6 (hK:=fun _=>?_)|refine C8 (hK:=fun _=>?_)|refine C7 (hK:=fun _=>?_)|refine D1 (hK:=fun _=>?_));try simp(disch:=first|omega|assumption|((repeat(first|exact A1|exact uH|apply A2|apply uT));first|done|fail)|(simp;first|done|omega|fail))[c2]))
  exact Sels.tw (by (repeat' constructor)) (hL' v')
 ·have hL' := fun v' => hL (by omega) v' trivial
  simp only [A99, B0M, A8Q, A0G, List.append_assoc] at hL' ⊢
  (have zz:=trivial;repeat((first|clear zz|with_reducible first|refine A3 ?_|refine A5 fun _=>?_|refine A4 fun _=>?_|refine D0 fun _=>?_|refine C9 (hK:=fun _=>?_)|refine C6 (hK:=fun _=>?_)|refine C8 (hK:=fun _=>?_)|refine C7 (hK:=fun _=>?_)|refine D1 (hK:=fun _=>?_));try simp(disch:=first|omega|assumption|((repeat(first|exact A1|exact uH|apply A2|apply uT));first|done|fail)|(simp;first|done|omega|fail))[]))
  refine D4 H6 (fun w' _ hs => r5 w' bw _ _ v 40 _ rest (Or.inr rfl) A1H (by omega) hs) (by (repeat' constructor)) ?_
  rintro v' _ rfl
  (have zz:=trivial;repeat((first|clear zz|with_reducible first|refine A3 ?_|refine A5 fun _=>?_|refine A4 fun _=>?_|refine D0 fun _=>?_|refine C9 (hK:=fun _=>?_)|refine C6 (hK:=fun _=>?_)|refine C8 (hK:=fun _=>?_)|refine C7 (hK:=fun _=>?_)|refine D1 (hK:=fun _=>?_));try simp(disch:=first|omega|assumption|((repeat(first|exact A1|exact uH|apply A2|apply uT));first|done|fail)|(simp;first|done|omega|fail))[]))
  exact Sels.tw (by (repeat' constructor)) (hL' v')
 ·simp only [A99, B0M]
  (have zz:=trivial;repeat((first|clear zz|with_reducible first|refine A3 ?_|refine A5 fun _=>?_|refine A4 fun _=>?_|refine D0 fun _=>?_|refine C9 (hK:=fun _=>?_)|refine C6 (hK:=fun _=>?_)|refine C8 (hK:=fun _=>?_)|refine C7 (hK:=fun _=>?_)|refine D1 (hK:=fun _=>?_));try simp(disch:=first|omega|assumption|((repeat(first|exact A1|exact uH|apply A2|apply uT));first|done|fail)|(simp;first|done|omega|fail))[]))
  have hz : (A8Q src dst rest proto).size = 40 + rest.size := by simp [A8Q, c1, c2]
  refine D4 A1u (fun w' _ hs => B7Y w' bw _ _ v (40 + rest.size) (E1 (A8Q src dst rest proto)) (A8Q src dst rest proto) hz.symm rfl (by omega) (by omega) hs) (by (repeat' constructor)) ?_
  rintro _ _ rfl
  (have zz:=trivial;repeat((first|clear zz|with_reducible first|refine A3 ?_|refine A5 fun _=>?_|refine A4 fun _=>?_|refine D0 fun _=>?_|refine C9 (hK:=fun _=>?_)|refine C6 (hK:=fun _=>?_)|refine C8 (hK:=fun _=>?_)|refine C7 (hK:=fun _=>?_)|refine D1 (hK:=fun _=>?_));try simp(disch:=first|omega|assumption|((repeat(first|exact A1|exact uH|apply A2|apply uT));first|done|fail)|(simp;first|done|omega|fail))[]))
  exact B0 (by simp [A44, c1, c2, c3, c4, c5])
end Go.Proofs.YtpbmephflllolaaGreat
namespace Go.Proofs.YtpbmephflllolaaGreat
open Go
theorem B11 {κ : Bool} {X : Nat → Prop} {S : List Nat} {w0 : World} {H : List Res} {K : Value → WP} {g u : Value} {name : String} {args : List Value} {f : FuncId} {args' : Array Value} (hr : ∀ w, (callMethod g name args.toArray).run PR w = .ok (.enter f args') w)
  (hf : ∀ w, LW κ S w0 H w → Fn PR B4 f args' w (fun v w' => v = u ∧ C3 [] w w')) (hK : TW κ S w0 H (K u)) : TW κ S w0 H (inv PR X g name args K) := fun w hw =>
 ⟨f, args', hr w, (hf w hw).use fun v w' ⟨h1, h2⟩ hsk => by subst h1; exact hK w' (hw.ext (h2.ks fun _ => hsk))⟩
theorem B5f {P : Program} {t : TypeId} {n m : Nat} {z : Value} {ms : Array (String × TypeId)} {e : Nat} (h : TI P t (.interface ms) n m z) : EqV P (e + 1) t .nilIface .nilIface true := by
 intro w
 simp only [Op.equalIn, Sem.run_bind, h.run_und, Result.andThen_ok]; rfl
theorem B5L {P : Program} {t : TypeId} {n m : Nat} {z : Value} {ms : Array (String × TypeId)} {e : Nat} (h : TI P t (.interface ms) n m z) (u : TypeId) (v : Value) : EqV P (e + 1) t (.iface u v) .nilIface false := by
 intro w
 simp only [Op.equalIn, Sem.run_bind, h.run_und, Result.andThen_ok]; rfl
theorem B49 {t : TypeId} {op : BinOp} {x y : Operand} {g : Value} {r : Bool} {K : Value → WP} (hg : (eqGuard .eql t x y g .nilIface) = pure ()) (he : EqV PR 10000 t g .nilIface r) : A6 PR (H8 .eql t x y g .nilIface) K = K (.bool r) := by
 funext w
 refine Q3 ?_ K
 have := he w
 simp [H8, hg, binOp, Op.equal, Op.maxDepth, this]
theorem A0z {x : Operand} {c : Value} {K : Value → WP} : A6 PR (H8 .eql 180 x (.const c) .nilIface .nilIface) K = K (.bool true) := B49 (op := .eql) (by cases x <;> rfl) (B5f (e := 9999) B15)
theorem A03 {x y : Operand} {K : Value → WP} {u : TypeId} {v : Value} : A6 PR (H8 .eql 180 x y (.iface u v) .nilIface) K = K (.bool false) := B49 (op := .eql) (by rfl) (B5L (e := 9999) B15 u v)
abbrev B3E : Value := .iface 246 (.agg #[])
abbrev B2r : Value := .iface 247 (.agg #[])
def k7 : List (Int × Value) := [(6, B3E), (17, B2r)]
theorem B1E (w : World) : Fn PR B4 92 #[] w (Rn [] w (fun r v => v = .map (some r)) fun r => [.pt r (l5 (Value.int .i64) k7)]) := by
 refine B0Q (TW.go (κ := false) (S := []) ?_)
 unfold A4G
 refine B48 (Value.int .i64) fun r => ?_
 (have zz:=trivial;repeat((first|clear zz|with_reducible first|refine A3 ?_|refine A5 fun _=>?_|refine A4 fun _=>?_);try simp(disch:=first|omega|assumption|((repeat(first|exact A1|exact uH|apply A2|apply uT));first|done|fail)|(simp;first|done|omega|fail))[]))
 refine A76 B1v (KeyT.int H0) (k := 6) (by (repeat constructor)) ?_
 (have zz:=trivial;repeat((first|clear zz|with_reducible first|refine A3 ?_|refine A5 fun _=>?_|refine A4 fun _=>?_);try simp(disch:=first|omega|assumption|((repeat(first|exact A1|exact uH|apply A2|apply uT));first|done|fail)|(simp;first|done|omega|fail))[]))
 refine A76 B1v (KeyT.int H0) (k := 17) (by (repeat constructor)) ?_
 exact V7 r rfl (by simp [j8, k7])
def A6U (s : ByteArray) : Nat × Nat := if s.size < 20 then (0, 2) else if E2 s 12 / 16 * 4 < 20 ∨ s.size < E2 s 12 / 16 * 4 then (0, 8) else (E2 s 13, 0)
def A6s (s : ByteArray) : Nat × Nat := if s.size < 8 then (0, 2) else if gv s 4 2 < 8 ∨ s.size < gv s 4 2 then (0, 4) else (0, 0)
theorem B35 (w : World) (s : ByteArray) (hs : s.size < 2 ^ 40) : Fn PR B4 265 #[.agg #[], .string s] w (fun v w' => v = .tuple #[.int .i64 (A6U s).1, .int .i64 (A6U s).2] ∧ C3 [] w w') := by
 refine Fn.pure (A7U (TW.go (κ := false) (S := []) ?_))
 unfold A14
 by_cases c1 : s.size < 20
 ·have c1' : (s.size : Int) < 20 := by omega
  (have zz:=trivial;repeat((first|clear zz|with_reducible first|refine A3 ?_|refine A5 fun _=>?_|refine A4 fun _=>?_);try simp(disch:=first|omega|assumption|((repeat(first|exact A1|exact uH|apply A2|apply uT));first|done|fail)|(simp;first|done|omega|fail))[c1'])); exact B0 (by simp [A6U, c1])
 have c1' : ¬ (s.size : Int) < 20 := by omega
 obtain ⟨by0, hb0, hb1⟩ := y0 (s := s) (i := 12) (by omega)
 obtain ⟨by1, hb2, hb3⟩ := y0 (s := s) (i := 13) (by omega)
 have hb0' : s[(12 : Int).toNat]? = some by0 := hb0
 have hb2' : s[(13 : Int).toNat]? = some by1 := hb2
 have hl0 := y8 s 12
 have hl1 := y8 s 13
 have e1 : ((by0.toNat : Nat) : Int).fdiv (2 ^ min 4 IntKind.u8.bits) = (E2 s 12 / 16 : Nat) := by rw [show (2 : Int) ^ min 4 IntKind.u8.bits = 16 from rfl, Int.fdiv_eq_ediv_of_nonneg _ (by omega), hb1]; omega
 have e2 : IntKind.i64.wrap (by1.toNat : Nat) = (E2 s 13 : Nat) := by rw [A1N (by omega) (by omega), hb3]
 have l1 : ∀ n : Nat, ((n * 4 : Nat) : Int) = (n : Int) * 4 := by omega
 by_cases c2 : E2 s 12 / 16 * 4 < 20
 ·have c2' : ((E2 s 12 : Nat) : Int) / 16 * 4 < 20 := by omega
  (have zz:=trivial;repeat((first|clear zz|with_reducible first|refine A3 ?_|refine A5 fun _=>?_|refine A4 fun _=>?_);try simp(disch:=first|omega|assumption|((repeat(first|exact A1|exact uH|apply A2|apply uT));first|done|fail)|(simp;first|done|omega|fail))[c1', Y7]))
  rw [e1]
  (have zz:=trivial;repeat((first|clear zz|with_reducible first|refine A3 ?_|refine A5 fun _=>?_|refine A4 fun _=>?_);try simp(disch:=first|omega|assumption|((repeat(first|exact A1|exact uH|apply A2|apply uT));first|done|fail)|(simp;first|done|omega|fail))[c2']))
  exact B0 (by simp [A6U, c1, c2])
 have c2' : ¬ ((E2 s 12 : Nat) : Int) / 16 * 4 < 20 := by omega
 by_cases c3 : s.size < E2 s 12 / 16 * 4
 ·have c3' : (s.size : Int) < ((E2 s 12 : Nat) : Int) / 16 * 4 := by omega
  (have zz:=trivial;repeat((first|clear zz|with_reducible first|refine A3 ?_|refine A5 fun _=>?_|refine A4 fun _=>?_);try simp(disch:=first|omega|assumption|((repeat(first|exact A1|exact uH|apply A2|apply uT));first|done|fail)|(simp;first|done|omega|fail))[c1', Y7]))
  rw [e1]
  (have zz:=trivial;repeat((first|clear zz|with_reducible first|refine A3 ?_|refine A5 fun _=>?_|refine A4 fun _=>?_);try simp(disch:=first|omega|assumption|((repeat(first|exact A1|exact uH|apply A2|apply uT));first|done|fail)|(simp;first|done|omega|fail))[c2', c3']))
  exact B0 (by simp [A6U, c1, c2, c3])
 have c3' : ¬ (s.size : Int) < ((E2 s 12 : Nat) : Int) / 16 * 4 := by omega
 (have zz:=trivial;repeat((first|clear zz|with_reducible first|refine A3 ?_|refine A5 fun _=>?_|refine A4 fun _=>?_);try simp(disch:=first|omega|assumption|((repeat(first|exact A1|exact uH|apply A2|apply uT));first|done|fail)|(simp;first|done|omega|fail))[c1', Y7]))
 rw [e1]
 (have zz:=trivial;repeat((first|clear zz|with_reducible first|refine A3 ?_|refine A5 fun _=>?_|refine A4 fun _=>?_);try simp(disch:=first|omega|assumption|((repeat(first|exact A1|exact uH|apply A2|apply uT));first|done|fail)|(simp;first|done|omega|fail))[c2', c3', Y7, e2]))
 exact B0 (by simp [A6U, c1, c2, c3, hb3])
def z1 : ByteArray := ByteArray.mk #[0]
def A2b (f : Int) : ByteArray × Nat := if f < 0 ∨ 255 < f then (P5, 1) else (A8D z1 8 ++ ByteArray.mk #[80] ++ E0 f 1 ++ A8D z1 6, 0)
def A3p (f : Int) : ByteArray × Nat := if f ≠ 0 then (P5, 1) else (ByteArray.mk #[0, 8, 0, 0], 0)
theorem C3P (w : World) : Fn PR B4 267 #[.string (ByteArray.mk #[0]), .int .i64 8] w (fun v w' => v = .string (A8D z1 8) ∧ C3 [] w w') := B03 w z1 8 (by omega) (by decide)
theorem C37 (w : World) : Fn PR B4 267 #[.string (ByteArray.mk #[0]), .int .i64 6] w (fun v w' => v = .string (A8D z1 6) ∧ C3 [] w w') := B03 w z1 6 (by omega) (by decide)
theorem n8 (c : Nat) : (A8D z1 c).size = c := by
 have : ∀ (l : List UInt8) (n : Nat), (Lib.repeatL l n).length = n * l.length := by
  intro l n
  induction n with
  | zero => simp [Lib.repeatL]
  | succ n ih => simp [Lib.repeatL, ih, Nat.add_mul, Nat.add_comm]
 show (Lib.repeatL z1.data.toList c).toArray.size = c
 rw [List.size_toArray, this]; simp [z1]
theorem B73 (w : World) (f : Int) : Fn PR B4 266 #[.agg #[], .int .i64 f] w (fun v w' => v = .tuple #[.string (A2b f).1, .int .i64 (A2b f).2] ∧ C3 [] w w') := by
 refine Fn.pure (A9H (TW.go (κ := false) (S := []) ?_))
 unfold A3N
 by_cases c1 : f < 0
 ·(have zz:=trivial;repeat((first|clear zz|with_reducible first|refine A3 ?_|refine A5 fun _=>?_|refine A4 fun _=>?_);try simp(disch:=first|omega|assumption|((repeat(first|exact A1|exact uH|apply A2|apply uT));first|done|fail)|(simp;first|done|omega|fail))[c1])); exact B0 (by simp [A2b, c1])
 by_cases c2 : 255 < f
 ·(have zz:=trivial;repeat((first|clear zz|with_reducible first|refine A3 ?_|refine A5 fun _=>?_|refine A4 fun _=>?_);try simp(disch:=first|omega|assumption|((repeat(first|exact A1|exact uH|apply A2|apply uT));first|done|fail)|(simp;first|done|omega|fail))[c1, c2])); exact B0 (by simp [A2b, c2])
 (have zz:=trivial;repeat((first|clear zz|with_reducible first|refine A3 ?_|refine A5 fun _=>?_|refine A4 fun _=>?_);try simp(disch:=first|omega|assumption|((repeat(first|exact A1|exact uH|apply A2|apply uT));first|done|fail)|(simp;first|done|omega|fail))[c1, c2]))
 have h8 := n8 8
 have h6 := n8 6
 refine D2 A1d (fun w' hw' => C3P w') ?_
 (have zz:=trivial;repeat((first|clear zz|with_reducible first|refine A3 ?_|refine A5 fun _=>?_|refine A4 fun _=>?_);try simp(disch:=first|omega|assumption|((repeat(first|exact A1|exact uH|apply A2|apply uT));first|done|fail)|(simp;first|done|omega|fail))[c1, c2, T5]))
 refine D2 F6 (fun w' hw' => V2 w' _ _) ?_
 (have zz:=trivial;repeat((first|clear zz|with_reducible first|refine A3 ?_|refine A5 fun _=>?_|refine A4 fun _=>?_);try simp(disch:=first|omega|assumption|((repeat(first|exact A1|exact uH|apply A2|apply uT));first|done|fail)|(simp;first|done|omega|fail))[c1, c2, T5]))
 refine D2 A1d (fun w' hw' => C37 w') ?_
 (have zz:=trivial;repeat((first|clear zz|with_reducible first|refine A3 ?_|refine A5 fun _=>?_|refine A4 fun _=>?_);try simp(disch:=first|omega|assumption|((repeat(first|exact A1|exact uH|apply A2|apply uT));first|done|fail)|(simp;first|done|omega|fail))[c1, c2, T5]))
 exact B0 (by simp [A2b, c1, c2])
theorem B39 (w : World) (s : ByteArray) (hs : s.size < 2 ^ 40) : Fn PR B4 277 #[.agg #[], .string s] w (fun v w' => v = .tuple #[.int .i64 (A6s s).1, .int .i64 (A6s s).2] ∧ C3 [] w w') := by
 refine Fn.pure (A7V (TW.go (κ := false) (S := []) ?_))
 unfold A1x
 by_cases c1 : s.size < 8
 ·have c1' : (s.size : Int) < 8 := by omega
  (have zz:=trivial;repeat((first|clear zz|with_reducible first|refine A3 ?_|refine A5 fun _=>?_|refine A4 fun _=>?_);try simp(disch:=first|omega|assumption|((repeat(first|exact A1|exact uH|apply A2|apply uT));first|done|fail)|(simp;first|done|omega|fail))[c1'])); exact B0 (by simp [A6s, c1])
 have c1' : ¬ (s.size : Int) < 8 := by omega
 (have zz:=trivial;repeat((first|clear zz|with_reducible first|refine A3 ?_|refine A5 fun _=>?_|refine A4 fun _=>?_);try simp(disch:=first|omega|assumption|((repeat(first|exact A1|exact uH|apply A2|apply uT));first|done|fail)|(simp;first|done|omega|fail))[c1']))
 refine D2 P6 (fun w' _ => A1M w' s (by omega) _ _) ?_
 have e1 := A4g s 4 2 (by omega) (by omega)
 have e1' : A3v s 4 2 = gv s 4 2 := e1
 have hg := A1c s 4
 by_cases c2 : gv s 4 2 < 8
 ·have c2' : ((gv s 4 2 : Nat) : Int) < 8 := by omega
  (have zz:=trivial;repeat((first|clear zz|with_reducible first|refine A3 ?_|refine A5 fun _=>?_|refine A4 fun _=>?_);try simp(disch:=first|omega|assumption|((repeat(first|exact A1|exact uH|apply A2|apply uT));first|done|fail)|(simp;first|done|omega|fail))[e1', c2, c2']))
  exact B0 (by simp [A6s, c1, c2])
 have c2' : ¬ ((gv s 4 2 : Nat) : Int) < 8 := by omega
 by_cases c3 : s.size < gv s 4 2
 ·have c3' : ((s.size : Nat) : Int) < gv s 4 2 := by omega
  (have zz:=trivial;repeat((first|clear zz|with_reducible first|refine A3 ?_|refine A5 fun _=>?_|refine A4 fun _=>?_);try simp(disch:=first|omega|assumption|((repeat(first|exact A1|exact uH|apply A2|apply uT));first|done|fail)|(simp;first|done|omega|fail))[e1', c2, c2', c3, c3']))
  exact B0 (by simp [A6s, c1, c2, c3])
 have c3' : ¬ ((s.size : Nat) : Int) < gv s 4 2 := by omega
 (have zz:=trivial;repeat((first|clear zz|with_reducible first|refine A3 ?_|refine A5 fun _=>?_|refine A4 fun _=>?_);try simp(disch:=first|omega|assumption|((repeat(first|exact A1|exact uH|apply A2|apply uT));first|done|fail)|(simp;first|done|omega|fail))[e1', c2, c2', c3, c3']))
 exact B0 (by simp [A6s, c1, c2, c3])
theorem B8E (w : World) (f : Int) : Fn PR B4 278 #[.agg #[], .int .i64 f] w (fun v w' => v = .tuple #[.string (A3p f).1, .int .i64 (A3p f).2] ∧ C3 [] w w') := by
 refine Fn.pure (A9c (TW.go (κ := false) (S := []) ?_))
 unfold A3Z
 by_cases c1 : f = 0
 ·(have zz:=trivial;repeat((first|clear zz|with_reducible first|refine A3 ?_|refine A5 fun _=>?_|refine A4 fun _=>?_);try simp(disch:=first|omega|assumption|((repeat(first|exact A1|exact uH|apply A2|apply uT));first|done|fail)|(simp;first|done|omega|fail))[c1])); exact B0 (by simp [A3p, c1])
 ·(have zz:=trivial;repeat((first|clear zz|with_reducible first|refine A3 ?_|refine A5 fun _=>?_|refine A4 fun _=>?_);try simp(disch:=first|omega|assumption|((repeat(first|exact A1|exact uH|apply A2|apply uT));first|done|fail)|(simp;first|done|omega|fail))[c1])); exact B0 (by simp [A3p, c1])
def A1e (number : Int) (s : ByteArray) : Nat × Nat := if number = 6 then A6U s else if number = 17 then A6s s else (0, 7)
def Y3 (number : Int) (s : ByteArray) : Nat × Nat × Nat × Nat := if (A1e number s).2 ≠ 0 then (0, 0, 0, (A1e number s).2) else (gv s 0 2, gv s 2 2, (A1e number s).1, 0)
def Y3.val (x : Nat × Nat × Nat × Nat) : Value := .tuple #[.agg #[.int .i64 x.1, .int .i64 x.2.1, .int .i64 x.2.2.1], .int .i64 x.2.2.2]
theorem A8x (w : World) (s : ByteArray) : (callMethod B3E "gangplank/port.parse" [Value.string s].toArray).run PR w = .ok (.enter 265 #[.agg #[], .string s]) w := by kernel_rfl
theorem A9B (w : World) (s : ByteArray) : (callMethod B2r "gangplank/port.parse" [Value.string s].toArray).run PR w = .ok (.enter 277 #[.agg #[], .string s]) w := by kernel_rfl
theorem B1S (w : World) (f : Int) : (callMethod B3E "gangplank/port.put" [Value.int .i64 f].toArray).run PR w = .ok (.enter 266 #[.agg #[], .int .i64 f]) w := by kernel_rfl
theorem B1W (w : World) (f : Int) : (callMethod B2r "gangplank/port.put" [Value.int .i64 f].toArray).run PR w = .ok (.enter 278 #[.agg #[], .int .i64 f]) w := by kernel_rfl
theorem B3V (w : World) (s : ByteArray) (hs : s.size < 2 ^ 40) (number : Int) : Fn PR B4 101 #[.int .i64 number, .string s] w (fun v w' => v = Y3.val (Y3 number s) ∧ C3 [] w w') := by
 refine Fn.pure (B1q (TW.go (κ := false) (S := []) ?_))
 unfold A5a
 (have zz:=trivial;repeat((first|clear zz|with_reducible first|refine A3 ?_|refine A5 fun _=>?_|refine A4 fun _=>?_);try simp(disch:=first|omega|assumption|((repeat(first|exact A1|exact uH|apply A2|apply uT));first|done|fail)|(simp;first|done|omega|fail))[]))
 refine M3 A3Y (fun w' _ => B1E w') ?_
 rintro r v rfl
 (have zz:=trivial;repeat((first|clear zz|with_reducible first|refine A3 ?_|refine A5 fun _=>?_|refine A4 fun _=>?_);try simp(disch:=first|omega|assumption|((repeat(first|exact A1|exact uH|apply A2|apply uT));first|done|fail)|(simp;first|done|omega|fail))[]))
 rw [A8Y B1v B15 (KeyT.int H0) (l := k7) (by (repeat constructor))]
 have Y4 : ∀ {f1 : Nat} {b : Nat}, True := fun {_ _} => trivial
 have hg0 := A1c s 0
 have hg2 := A1c s 2
 have e1 : A3v s 0 2 = gv s 0 2 := A4g s 0 2 (by omega) (by omega)
 have e2 : A3v s 2 2 = gv s 2 2 := A4g s 2 2 (by omega) (by omega)
 by_cases c1 : number = 6
 ·rw [show (j6 number k7).getD .nilIface = B3E by subst c1; rfl]
  (have zz:=trivial;repeat((first|clear zz|with_reducible first|refine A3 ?_|refine A5 fun _=>?_|refine A4 fun _=>?_);try simp(disch:=first|omega|assumption|((repeat(first|exact A1|exact uH|apply A2|apply uT));first|done|fail)|(simp;first|done|omega|fail))[A0z, A03]))
  refine B11 (fun w => A8x w s) (fun w' hw' => B35 w' s hs) ?_
  by_cases c2 : (A6U s).2 = 0
  ·(have zz:=trivial;repeat((first|clear zz|with_reducible first|refine A3 ?_|refine A5 fun _=>?_|refine A4 fun _=>?_);try simp(disch:=first|omega|assumption|((repeat(first|exact A1|exact uH|apply A2|apply uT));first|done|fail)|(simp;first|done|omega|fail))[c2]))
   refine D2 P6 (fun w' _ => A1M w' s (by omega) _ _) ?_
   (have zz:=trivial;repeat((first|clear zz|with_reducible first|refine A3 ?_|refine A5 fun _=>?_|refine A4 fun _=>?_);try simp(disch:=first|omega|assumption|((repeat(first|exact A1|exact uH|apply A2|apply uT));first|done|fail)|(simp;first|done|omega|fail))[e1]))
   refine D2 P6 (fun w' _ => A1M w' s (by omega) _ _) ?_
   (have zz:=trivial;repeat((first|clear zz|with_reducible first|refine A3 ?_|refine A5 fun _=>?_|refine A4 fun _=>?_);try simp(disch:=first|omega|assumption|((repeat(first|exact A1|exact uH|apply A2|apply uT));first|done|fail)|(simp;first|done|omega|fail))[e1, e2]))
   exact B0 (by simp [Y3, A1e, Y3.val, c1, c2])
  ·(have zz:=trivial;repeat((first|clear zz|with_reducible first|refine A3 ?_|refine A5 fun _=>?_|refine A4 fun _=>?_);try simp(disch:=first|omega|assumption|((repeat(first|exact A1|exact uH|apply A2|apply uT));first|done|fail)|(simp;first|done|omega|fail))[c2]))
   exact B0 (by simp [Y3, A1e, Y3.val, c1, c2])
 by_cases c1' : number = 17
 ·rw [show (j6 number k7).getD .nilIface = B2r by subst c1'; rfl]
  (have zz:=trivial;repeat((first|clear zz|with_reducible first|refine A3 ?_|refine A5 fun _=>?_|refine A4 fun _=>?_);try simp(disch:=first|omega|assumption|((repeat(first|exact A1|exact uH|apply A2|apply uT));first|done|fail)|(simp;first|done|omega|fail))[A0z, A03]))
  refine B11 (fun w => A9B w s) (fun w' hw' => B39 w' s hs) ?_
  by_cases c2 : (A6s s).2 = 0
  ·(have zz:=trivial;repeat((first|clear zz|with_reducible first|refine A3 ?_|refine A5 fun _=>?_|refine A4 fun _=>?_);try simp(disch:=first|omega|assumption|((repeat(first|exact A1|exact uH|apply A2|apply uT));first|done|fail)|(simp;first|done|omega|fail))[c2]))
   refine D2 P6 (fun w' _ => A1M w' s (by omega) _ _) ?_
   (have zz:=trivial;repeat((first|clear zz|with_reducible first|refine A3 ?_|refine A5 fun _=>?_|refine A4 fun _=>?_);try simp(disch:=first|omega|assumption|((repeat(first|exact A1|exact uH|apply A2|apply uT));first|done|fail)|(simp;first|done|omega|fail))[e1]))
   refine D2 P6 (fun w' _ => A1M w' s (by omega) _ _) ?_
   (have zz:=trivial;repeat((first|clear zz|with_reducible first|refine A3 ?_|refine A5 fun _=>?_|refine A4 fun _=>?_);try simp(disch:=first|omega|assumption|((repeat(first|exact A1|exact uH|apply A2|apply uT));first|done|fail)|(simp;first|done|omega|fail))[e1, e2]))
   exact B0 (by simp [Y3, A1e, Y3.val, c1', c2])
  ·(have zz:=trivial;repeat((first|clear zz|with_reducible first|refine A3 ?_|refine A5 fun _=>?_|refine A4 fun _=>?_);try simp(disch:=first|omega|assumption|((repeat(first|exact A1|exact uH|apply A2|apply uT));first|done|fail)|(simp;first|done|omega|fail))[c2]))
   exact B0 (by simp [Y3, A1e, Y3.val, c1', c2])
 ·rw [show (j6 number k7).getD .nilIface = .nilIface by simp [j6, k7, c1, c1']]
  (have zz:=trivial;repeat((first|clear zz|with_reducible first|refine A3 ?_|refine A5 fun _=>?_|refine A4 fun _=>?_);try simp(disch:=first|omega|assumption|((repeat(first|exact A1|exact uH|apply A2|apply uT));first|done|fail)|(simp;first|done|omega|fail))[A0z, A03]))
  exact B0 (by simp [Y3, A1e, Y3.val, c1, c1'])
theorem q8 (s : ByteArray) : s ++ P5 = s := by apply ByteArray.ext; rw [ByteArray.data_append]; simp
theorem q9 (s : ByteArray) : P5 ++ s = s := by apply ByteArray.ext; rw [ByteArray.data_append]; simp
def S6 (x : Int) : ByteArray := if 0 ≤ x ∧ x ≤ 65535 then E0 x 2 else P5
def S2 (x y : Int) : Bool := decide (0 ≤ x ∧ x ≤ 65535 ∧ 0 ≤ y ∧ y ≤ 65535)
theorem B3b (w : World) (x y z : Int) : Fn PR B4 93 #[.agg #[.int .i64 x, .int .i64 y, .int .i64 z]] w (fun v w' => v = .tuple #[.string (S6 x ++ S6 y), .bool (S2 x y)] ∧ C3 [] w w') := by
 refine Fn.pure (B1l (TW.go (κ := false) (S := []) ?_))
 unfold A5V
 by_cases c1 : 0 ≤ x ∧ x ≤ 65535
 ·have c1' := c1.1; have c1'' := c1.2
  (have zz:=trivial;repeat((first|clear zz|with_reducible first|refine A3 ?_|refine A5 fun _=>?_|refine A4 fun _=>?_);try simp(disch:=first|omega|assumption|((repeat(first|exact A1|exact uH|apply A2|apply uT));first|done|fail)|(simp;first|done|omega|fail))[c1', c1'']))
  refine D2 F6 (fun w' hw' => V2 w' _ _) ?_
  by_cases c2 : 0 ≤ y ∧ y ≤ 65535
  ·have c2' := c2.1; have c2'' := c2.2
   (have zz:=trivial;repeat((first|clear zz|with_reducible first|refine A3 ?_|refine A5 fun _=>?_|refine A4 fun _=>?_);try simp(disch:=first|omega|assumption|((repeat(first|exact A1|exact uH|apply A2|apply uT));first|done|fail)|(simp;first|done|omega|fail))[c1', c1'', c2', c2'']))
   refine D2 F6 (fun w' hw' => V2 w' _ _) ?_
   (have zz:=trivial;repeat((first|clear zz|with_reducible first|refine A3 ?_|refine A5 fun _=>?_|refine A4 fun _=>?_);try simp(disch:=first|omega|assumption|((repeat(first|exact A1|exact uH|apply A2|apply uT));first|done|fail)|(simp;first|done|omega|fail))[c1', c1'', c2', c2'', T5]))
   exact B0 (by simp [q8, q9, S6, S2, c1, c2])
  ·by_cases c3 : 0 ≤ y
   ·have c4 : ¬ y ≤ 65535 := fun h => c2 ⟨c3, h⟩
    (have zz:=trivial;repeat((first|clear zz|with_reducible first|refine A3 ?_|refine A5 fun _=>?_|refine A4 fun _=>?_);try simp(disch:=first|omega|assumption|((repeat(first|exact A1|exact uH|apply A2|apply uT));first|done|fail)|(simp;first|done|omega|fail))[c1', c1'', c3, c4]))
    exact B0 (by simp [q8, q9, S6, S2, c1, c3, c4])
   ·(have zz:=trivial;repeat((first|clear zz|with_reducible first|refine A3 ?_|refine A5 fun _=>?_|refine A4 fun _=>?_);try simp(disch:=first|omega|assumption|((repeat(first|exact A1|exact uH|apply A2|apply uT));first|done|fail)|(simp;first|done|omega|fail))[c1', c1'', c3]))
    exact B0 (by simp [q8, q9, S6, S2, c1, c3])
 ·have hn : S6 x = P5 := by simp [S6, c1]
  have ho : S2 x y = false := by simp only [S2, decide_eq_false_iff_not]; exact fun h => c1 ⟨h.1, h.2.1⟩
  rw [hn, ho]
  have key : ∀ bx, TW false [] w [.pt bx (.cells #[.int .i64 x, .int .i64 y, .int .i64 z] 119)] = TW false [] w [.pt bx (.cells #[.int .i64 x, .int .i64 y, .int .i64 z] 119)] := fun _ => rfl
  by_cases c0 : 0 ≤ x
  ·have c0' : ¬ x ≤ 65535 := fun h => c1 ⟨c0, h⟩
   by_cases c2 : 0 ≤ y ∧ y ≤ 65535
   ·have c2' := c2.1; have c2'' := c2.2
    (have zz:=trivial;repeat((first|clear zz|with_reducible first|refine A3 ?_|refine A5 fun _=>?_|refine A4 fun _=>?_);try simp(disch:=first|omega|assumption|((repeat(first|exact A1|exact uH|apply A2|apply uT));first|done|fail)|(simp;first|done|omega|fail))[c0, c0', c2', c2'']))
    refine D2 F6 (fun w' hw' => V2 w' _ _) ?_
    (have zz:=trivial;repeat((first|clear zz|with_reducible first|refine A3 ?_|refine A5 fun _=>?_|refine A4 fun _=>?_);try simp(disch:=first|omega|assumption|((repeat(first|exact A1|exact uH|apply A2|apply uT));first|done|fail)|(simp;first|done|omega|fail))[c0, c0', c2', c2'', T5]))
    exact B0 (by simp [q8, q9, S6, c2])
   ·by_cases c3 : 0 ≤ y
    ·have c4 : ¬ y ≤ 65535 := fun h => c2 ⟨c3, h⟩
     (have zz:=trivial;repeat((first|clear zz|with_reducible first|refine A3 ?_|refine A5 fun _=>?_|refine A4 fun _=>?_);try simp(disch:=first|omega|assumption|((repeat(first|exact A1|exact uH|apply A2|apply uT));first|done|fail)|(simp;first|done|omega|fail))[c0, c0', c3, c4]))
     exact B0 (by simp [q8, q9, S6, c3, c4])
    ·(have zz:=trivial;repeat((first|clear zz|with_reducible first|refine A3 ?_|refine A5 fun _=>?_|refine A4 fun _=>?_);try simp(disch:=first|omega|assumption|((repeat(first|exact A1|exact uH|apply A2|apply uT));first|done|fail)|(simp;first|done|omega|fail))[c0, c0', c3]))
     exact B0 (by simp [q8, q9, S6, c3])
  ·by_cases c2 : 0 ≤ y ∧ y ≤ 65535
   ·have c2' := c2.1; have c2'' := c2.2
    (have zz:=trivial;repeat((first|clear zz|with_reducible first|refine A3 ?_|refine A5 fun _=>?_|refine A4 fun _=>?_);try simp(disch:=first|omega|assumption|((repeat(first|exact A1|exact uH|apply A2|apply uT));first|done|fail)|(simp;first|done|omega|fail))[c0, c2', c2'']))
    refine D2 F6 (fun w' hw' => V2 w' _ _) ?_
    (have zz:=trivial;repeat((first|clear zz|with_reducible first|refine A3 ?_|refine A5 fun _=>?_|refine A4 fun _=>?_);try simp(disch:=first|omega|assumption|((repeat(first|exact A1|exact uH|apply A2|apply uT));first|done|fail)|(simp;first|done|omega|fail))[c0, c2', c2'', T5]))
    exact B0 (by simp [q8, q9, S6, c2])
   ·by_cases c3 : 0 ≤ y
    ·have c4 : ¬ y ≤ 65535 := fun h => c2 ⟨c3, h⟩
     (have zz:=trivial;repeat((first|clear zz|with_reducible first|refine A3 ?_|refine A5 fun _=>?_|refine A4 fun _=>?_);try simp(disch:=first|omega|assumption|((repeat(first|exact A1|exact uH|apply A2|apply uT));first|done|fail)|(simp;first|done|omega|fail))[c0, c3, c4]))
     exact B0 (by simp [q8, q9, S6, c3, c4])
    ·(have zz:=trivial;repeat((first|clear zz|with_reducible first|refine A3 ?_|refine A5 fun _=>?_|refine A4 fun _=>?_);try simp(disch:=first|omega|assumption|((repeat(first|exact A1|exact uH|apply A2|apply uT));first|done|fail)|(simp;first|done|omega|fail))[c0, c3]))
     exact B0 (by simp [q8, q9, S6, c3])
def A2g (number f : Int) : ByteArray × Nat := if number = 6 then A2b f else if number = 17 then A3p f else (P5, 7)
def W1 (number x y f : Int) : ByteArray × Nat := if number ≠ 6 ∧ number ≠ 17 then (P5, 7) else if S2 x y = false ∨ (A2g number f).2 ≠ 0 then (P5, 1) else (E0 x 2 ++ E0 y 2 ++ (A2g number f).1, 0)
theorem B2M {x y : Int} (h : S2 x y = true) : S6 x ++ S6 y = E0 x 2 ++ E0 y 2 := by
 simp only [S2, decide_eq_true_eq] at h
 unfold S6; rw [if_pos (by omega), if_pos (by omega)]
theorem A5L (w : World) (number x y f : Int) : Fn PR B4 51 #[.int .i64 number, .agg #[.int .i64 x, .int .i64 y, .int .i64 f]] w (fun v w' => v = .tuple #[.string (W1 number x y f).1, .int .i64 (W1 number x y f).2] ∧ C3 [] w w') := by
 refine Fn.pure (B4L (TW.go (κ := false) (S := []) ?_))
 unfold A7a
 (have zz:=trivial;repeat((first|clear zz|with_reducible first|refine A3 ?_|refine A5 fun _=>?_|refine A4 fun _=>?_);try simp(disch:=first|omega|assumption|((repeat(first|exact A1|exact uH|apply A2|apply uT));first|done|fail)|(simp;first|done|omega|fail))[]))
 refine M3 A3Y (fun w' _ => B1E w') ?_
 rintro r v rfl
 (have zz:=trivial;repeat((first|clear zz|with_reducible first|refine A3 ?_|refine A5 fun _=>?_|refine A4 fun _=>?_);try simp(disch:=first|omega|assumption|((repeat(first|exact A1|exact uH|apply A2|apply uT));first|done|fail)|(simp;first|done|omega|fail))[]))
 rw [A8Y B1v B15 (KeyT.int H0) (l := k7) (by (repeat constructor))]
 by_cases c1 : number = 6
 ·rw [show (j6 number k7).getD .nilIface = B3E by subst c1; rfl]
  (have zz:=trivial;repeat((first|clear zz|with_reducible first|refine A3 ?_|refine A5 fun _=>?_|refine A4 fun _=>?_);try simp(disch:=first|omega|assumption|((repeat(first|exact A1|exact uH|apply A2|apply uT));first|done|fail)|(simp;first|done|omega|fail))[A0z, A03]))
  refine D2 A4j (fun w' hw' => B3b w' _ _ _) ?_
  (have zz:=trivial;repeat((first|clear zz|with_reducible first|refine A3 ?_|refine A5 fun _=>?_|refine A4 fun _=>?_);try simp(disch:=first|omega|assumption|((repeat(first|exact A1|exact uH|apply A2|apply uT));first|done|fail)|(simp;first|done|omega|fail))[]))
  refine B11 (fun w => B1S w f) (fun w' hw' => B73 w' f) ?_
  cases c3 : S2 x y with
  | false => (have zz:=trivial;repeat((first|clear zz|with_reducible first|refine A3 ?_|refine A5 fun _=>?_|refine A4 fun _=>?_);try simp(disch:=first|omega|assumption|((repeat(first|exact A1|exact uH|apply A2|apply uT));first|done|fail)|(simp;first|done|omega|fail))[c3])); exact B0 (by simp [W1, c1, c3])
  | true =>
   have hp := B2M c3
   by_cases c2 : (A2b f).2 = 0
   ·have hz : (S6 x).size + (S6 y).size + (A2b f).1.size < 2 ^ 30 := by
     have := congrArg ByteArray.size hp
     simp at this
     have h6 := n8 6
     have h8 := n8 8
     have : (A2b f).1.size ≤ 100 := by unfold A2b; split <;> simp [h6, h8]
     omega
    (have zz:=trivial;repeat((first|clear zz|with_reducible first|refine A3 ?_|refine A5 fun _=>?_|refine A4 fun _=>?_);try simp(disch:=first|omega|assumption|((repeat(first|exact A1|exact uH|apply A2|apply uT));first|done|fail)|(simp;first|done|omega|fail))[c2, c3, T5]))
    exact B0 (by simp [W1, A2g, c1, c2, c3, hp])
   ·(have zz:=trivial;repeat((first|clear zz|with_reducible first|refine A3 ?_|refine A5 fun _=>?_|refine A4 fun _=>?_);try simp(disch:=first|omega|assumption|((repeat(first|exact A1|exact uH|apply A2|apply uT));first|done|fail)|(simp;first|done|omega|fail))[c2, c3]))
    exact B0 (by simp [W1, A2g, c1, c2, c3])
 by_cases c1' : number = 17
 ·rw [show (j6 number k7).getD .nilIface = B2r by subst c1'; rfl]
  (have zz:=trivial;repeat((first|clear zz|with_reducible first|refine A3 ?_|refine A5 fun _=>?_|refine A4 fun _=>?_);try simp(disch:=first|omega|assumption|((repeat(first|exact A1|exact uH|apply A2|apply uT));first|done|fail)|(simp;first|done|omega|fail))[A0z, A03]))
  refine D2 A4j (fun w' hw' => B3b w' _ _ _) ?_
  (have zz:=trivial;repeat((first|clear zz|with_reducible first|refine A3 ?_|refine A5 fun _=>?_|refine A4 fun _=>?_);try simp(disch:=first|omega|assumption|((repeat(first|exact A1|exact uH|apply A2|apply uT));first|done|fail)|(simp;first|done|omega|fail))[]))
  refine B11 (fun w => B1W w f) (fun w' hw' => B8E w' f) ?_
  cases c3 : S2 x y with
  | false => (have zz:=trivial;repeat((first|clear zz|with_reducible first|refine A3 ?_|refine A5 fun _=>?_|refine A4 fun _=>?_);try simp(disch:=first|omega|assumption|((repeat(first|exact A1|exact uH|apply A2|apply uT));first|done|fail)|(simp;first|done|omega|fail))[c3])); exact B0 (by simp [W1, c1', c3])
  | true =>
   have hp := B2M c3
   by_cases c2 : (A3p f).2 = 0
   ·have hz : (S6 x).size + (S6 y).size + (A3p f).1.size < 2 ^ 30 := by
     have := congrArg ByteArray.size hp
     simp at this
     have : (A3p f).1.size ≤ 100 := by unfold A3p; split <;> simp
     omega
    (have zz:=trivial;repeat((first|clear zz|with_reducible first|refine A3 ?_|refine A5 fun _=>?_|refine A4 fun _=>?_);try simp(disch:=first|omega|assumption|((repeat(first|exact A1|exact uH|apply A2|apply uT));first|done|fail)|(simp;first|done|omega|fail))[c2, c3, T5]))
    exact B0 (by simp [W1, A2g, c1', c2, c3, hp])
   ·(have zz:=trivial;repeat((first|clear zz|with_reducible first|refine A3 ?_|refine A5 fun _=>?_|refine A4 fun _=>?_);try simp(disch:=first|omega|assumption|((repeat(first|exact A1|exact uH|apply A2|apply uT));first|done|fail)|(simp;first|done|omega|fail))[c2, c3]))
    exact B0 (by simp [W1, A2g, c1', c2, c3])
 ·rw [show (j6 number k7).getD .nilIface = .nilIface by simp [j6, k7, c1, c1']]
  (have zz:=trivial;repeat((first|clear zz|with_reducible first|refine A3 ?_|refine A5 fun _=>?_|refine A4 fun _=>?_);try simp(disch:=first|omega|assumption|((repeat(first|exact A1|exact uH|apply A2|apply uT));first|done|fail)|(simp;first|done|omega|fail))[A0z, A03]))
  exact B0 (by simp [W1, c1, c1'])
end Go.Proofs.YtpbmephflllolaaGreat
