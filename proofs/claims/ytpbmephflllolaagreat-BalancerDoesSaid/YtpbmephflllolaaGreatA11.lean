/- The proof of a given statement, a part of it (Map ShIp6 ShIp4 ShSum Sum Ip4 Ip6 Port). No condition but what each lemma says. -/
import Derived.MapKept
import Derived.Test.YtpbmephflllolaaGreatA10
set_option linter.unusedVariables false
set_option linter.unusedSimpArgs false
namespace Go.Proofs.YtpbmephflllolaaGreat
open Go
section
variable {κ : Type} [DecidableEq κ]
def Y8 (enc : κ → Value) : List (κ × Value) → Nat → List MapEntry
 | [], _ => []
 | p :: l, i => ⟨enc p.1, p.2, i⟩ :: Y8 enc l (i + 1)
def w7 (enc : κ → Value) (l : List (κ × Value)) : Obj := .map (Y8 enc l 0).toArray l.length
def A3f (k : κ) : List (κ × Value) → Nat → Option (Nat × Value)
 | [], _ => none
 | p :: l, i => if k = p.1 then some (i, p.2) else A3f k l (i + 1)
def r7 (k : κ) : List (κ × Value) → Option Value
 | [] => none
 | p :: l => if k = p.1 then some p.2 else r7 k l
def s5 (k : κ) (v : Value) : List (κ × Value) → List (κ × Value)
 | [] => [(k, v)]
 | p :: l => if k = p.1 then (k, v) :: l else p :: s5 k v l
theorem C2K (k k' : κ) (v : Value) (l : List (κ × Value)) : r7 k' (s5 k v l) = if k' = k then some v else r7 k' l := by
 induction l with
 | nil => simp [s5, r7]
 | cons p l ih =>
  simp only [s5]
  by_cases h : k = p.1
  ·rw [if_pos h]; simp only [r7]
   by_cases h' : k' = k
   ·rw [if_pos h', if_pos h']
   ·rw [if_neg h', if_neg h', if_neg (by rw [← h]; exact h')]
  ·rw [if_neg h]; simp only [r7, ih]
   by_cases h' : k' = p.1
   ·rw [if_pos h', if_pos h', if_neg (by rw [h']; exact fun e => h e.symm)]
   ·rw [if_neg h', if_neg h']
theorem C1l (k : κ) (l : List (κ × Value)) (i : Nat) : (A3f k l i).map (·.2) = r7 k l := by
 induction l generalizing i with
 | nil => rfl
 | cons p l ih => simp only [A3f, r7]; split <;> simp [ih]
@[simp] theorem D2b {α : Type} (enc : α → Value) (l : List (α × Value)) (i : Nat) : (Y8 enc l i).length = l.length := by
 induction l generalizing i with
 | nil => rfl
 | cons p l ih => simp [Y8, ih]
theorem B77 {α : Type} (enc : α → Value) (l m : List (α × Value)) (i : Nat) : Y8 enc (l ++ m) i = Y8 enc l i ++ Y8 enc m (i + l.length) := by
 induction l generalizing i with
 | nil => simp [Y8]
 | cons p l ih => simp only [List.cons_append, Y8, ih, List.length_cons]; congr 3; omega
theorem C2S (k : κ) (v : Value) (l : List (κ × Value)) (j : Nat) (h : A3f k l j = none) : s5 k v l = l ++ [(k, v)] := by
 induction l generalizing j with
 | nil => rfl
 | cons p l ih =>
  simp only [A3f] at h
  split at h
  ·cases h
  ·rename_i hn; simp only [s5, if_neg hn, List.cons_append, ih _ h]
theorem C36 (enc : κ → Value) (k : κ) (v : Value) (l : List (κ × Value)) : ∀ (j n : Nat) (u : Value), A3f k l j = some (n, u) → j ≤ n ∧ n < j + l.length ∧ ((Y8 enc l j)[n - j]?).map (·.key) = some (enc k) ∧
  Y8 enc (s5 k v l) j = (Y8 enc l j).modify (n - j) (fun e => { e with key := enc k, val := v }) := by
 induction l with
 | nil => intro j n u h; cases h
 | cons p l ih =>
  intro j n u h
  simp only [A3f] at h
  split at h
  ·rename_i hk; cases h
   refine ⟨Nat.le_refl _, by simp, by simp [Y8, hk], ?_⟩
   simp only [s5, if_pos hk, Y8, Nat.sub_self, List.modify_zero_cons]
  ·rename_i hn
   obtain ⟨h1, h2, h3, h4⟩ := ih _ _ _ h
   have e : n - j = n - (j + 1) + 1 := by omega
   refine ⟨by omega, by simp only [List.length_cons]; omega, by rw [e]; simpa [Y8] using h3, ?_⟩
   simp only [s5, if_neg hn, Y8, e, List.modify_succ_cons, h4]
structure KeyT (P : Program) (kt : TypeId) (enc : κ → Value) : Prop where
 find : ∀ k l j w, (Instr.findKey kt (enc k) (Y8 enc l j)).run P w = .ok (A3f k l 0) w
 check : ∀ k e w, (Instr.checkKey e 10000 kt (enc k)).run P w = .ok () w
 stays : ∀ k, Instr.sameBits 10000 (enc k) (enc k) = true
theorem A99 {d : TypeDesc} {enc : κ → Value} (hs : ∀ a b, Instr.sameNow d (enc a) (enc b) = some (decide (a = b))) (k : κ) (l : List (κ × Value)) : ∀ j i, Instr.findNow d (enc k) (Y8 enc l j) i = some (A3f k l i) := by
 induction l with
 | nil => intro j i; rfl
 | cons p l ih =>
  intro j i
  simp only [Y8, Instr.findNow, hs, A3f]
  by_cases h : k = p.1
  ·simp [h]
  ·simp [h, ih]
end
theorem KeyT.int {P : Program} {kt : TypeId} {n m : Nat} {z : Value} (h : TI P kt (.int .i64) n m z) : KeyT P kt (fun a : Int => Value.int .i64 a) := by
 refine ⟨fun k l j w => ?_, fun k e w => ?_, fun k => ?_⟩
 ·exact MapKept.run_findKey h.und (A99 (fun a b => by simp [Instr.sameNow]; exact B4P a b) k l j 0)
 ·exact MapKept.run_checkKey h.und (by trivial) e 9999
 ·simp [Instr.sameBits]
theorem KeyT.string {P : Program} {kt : TypeId} {n m : Nat} {z : Value} (h : TI P kt .string n m z) : KeyT P kt Value.string := by
 refine ⟨fun k l j w => ?_, fun k e w => ?_, fun k => ?_⟩
 ·exact MapKept.run_findKey h.und (A99 (fun a b => by simp only [Instr.sameNow, C2r]) k l j 0)
 ·exact MapKept.run_checkKey h.und (by trivial) e 9999
 ·simp only [Instr.sameBits, C2r, decide_true]
section
variable {κ : Type} [DecidableEq κ] {enc : κ → Value} {σ : Bool} {P : Program} {X : Nat → Prop} {S : List Nat} {w0 : World} {H H' : List Res} {K : Value → WP} {K0 : WP} {t kt et : TypeId} {n m n2 m2 : Nat} {z z2 : Value} {d : TypeDesc}
theorem B81 {α : Type} (enc : α → Value) (hK : ∀ r, TW σ S w0 (.pt r (w7 enc []) :: H) (K (.map (some r)))) : TW σ S w0 H (B2 P X (Instr.makeMap t none) K) := fun w hw => by
 have : (Instr.makeMap t none).run P w = .ok (.map (some (sz w))) (w.alloc (w7 enc [])) := by simp [Instr.makeMap, run_newObj, w7, Y8, sz]
 rw [Z1 this (Sk.alloc X w _ (Or.inl rfl))]
 exact hK _ _ (hw.new rfl (Or.inl rfl))
theorem B1u (hm : TI P t (.map kt et) n m z) (he : TI P et d n2 m2 z2) (hk : KeyT P kt enc) {r : Nat} {l : List (κ × Value)} {k : κ} (hr : Res.pt r (w7 enc l) ∈ H) :
  TW σ S w0 H (A6 P (Instr.lookup t (.map (some r)) (enc k) false) K) = TW σ S w0 H (K ((r7 k l).getD z2)) := TW.congr fun w hw => by
 have hb : w.heap[r]? = some (.map (Y8 enc l 0).toArray l.length) := hw.pt hr
 refine T3 ?_ K
 have h1 : (getObj r).run P w = .ok (.map (Y8 enc l 0).toArray l.length) w := MapKept.run_getObj_map hb
 simp only [Instr.lookup, Sem.run_bind, hm.run_und, Result.andThen_ok, h1, Sem.run_pure, hk.check, hk.find]
 rw [← C1l k l 0]
 cases A3f k l 0 with
 | none => simp [he.run_zero]
 | some p => simp
theorem B19 (hm : TI P t (.map kt et) n m z) (hk : KeyT P kt enc) {r : Nat} {l : List (κ × Value)} {k : κ} {v : Value} (hu : Up (.pt r (w7 enc l)) (.pt r (w7 enc (s5 k v l))) H H') (hK : TW σ S w0 H' K0) :
  TW σ S w0 H (B6 P X (Instr.mapUpdate t (.map (some r)) (enc k) v) K0) := fun w hw => by
 have hmem : Res.pt r (w7 enc l) ∈ H := by obtain ⟨A, B, rfl, _⟩ := hu.parts; simp
 have hb0 := hw.pt hmem
 have hb : w.heap[r]? = some (.map (Y8 enc l 0).toArray l.length) := hb0
 have h1 : (getObj r).run P w = .ok (.map (Y8 enc l 0).toArray l.length) w := MapKept.run_getObj_map hb
 have hrun : (Instr.mapUpdate t (.map (some r)) (enc k) v).run P w = .ok () (World.putb w r (w7 enc (s5 k v l))) := by
  simp only [Instr.mapUpdate, Sem.run_bind, hm.run_und, Result.andThen_ok, h1, hk.check, hk.find]
  cases hf : A3f k l 0 with
  | none =>
   have e := C2S k v l 0 hf
   simp [w7, e, B77, Y8, World.putb, MapKept.run_setObj_map _ hb]
  | some p =>
   obtain ⟨i, u⟩ := p
   obtain ⟨_, h2, h3, h4⟩ := C36 enc k v l 0 i u hf
   have hl : (s5 k v l).length = l.length := by
    have := congrArg List.length h4; simpa using this
   simp only [Nat.sub_zero] at h3 h4
   simp [w7, h4, hl, World.putb, MapKept.run_setObj_map _ hb, Instr.keyThatStays, h3, hk.stays]
 have hks : KS σ [r] w (World.putb w r (w7 enc (s5 k v l))) := by
  refine ((C1.refl [r] w).putb _ (Or.inl (by simp))).ks fun _ => ?_
  have h2 : ∀ (q : Nat) x, (∀ c T, x ≠ Obj.map c T) → w.heap[q]? = some x → (World.putb w r (w7 enc (s5 k v l))).heap[q]? = some x := fun q x hx e => by
   have : r ≠ q := by rintro rfl; rw [hb] at e; cases e; exact hx _ _ rfl
   exact (s7 (w := w) (o := w7 enc (s5 k v l)) this).trans e
  exact ⟨by simp [World.putb], fun q d => h2 q _ (by simp), fun q lo _ => h2 q _ (by simp), rfl, rfl⟩
 have hsk : Sk X w (World.putb w r (w7 enc (s5 k v l))) := by
  have h2 : ∀ (q : Nat) x, (∀ c T, x ≠ Obj.map c T) → w.heap[q]? = some x → (World.putb w r (w7 enc (s5 k v l))).heap[q]? = some x := fun q x hx e => by
   have : r ≠ q := by rintro rfl; rw [hb] at e; cases e; exact hx _ _ rfl
   exact (s7 (w := w) (o := w7 enc (s5 k v l)) this).trans e
  exact ⟨by simp [World.putb], fun q d => h2 q _ (by simp), fun q lo _ => h2 q _ (by simp), rfl, rfl⟩
 rw [C18 hrun hsk]
 refine hK _ (hw.up hu ⟨hks, ?_, ?_, by simp⟩)
 ·simp only [List.mem_singleton, forall_eq, Res.holds]; exact ⟨T6 (H9 hb0), rfl⟩
 ·simp only [List.mem_singleton, forall_eq, Res.foot]; exact ⟨Or.inl (by simp), by have := H9 hb0; simpa using this⟩
end
end Go.Proofs.YtpbmephflllolaaGreat
namespace Go.Proofs.YtpbmephflllolaaGreat
open Go
def B2f (X : Nat → Prop) (t0 t1 : Value) (R : Value → WP) : WP :=
 B2 PR X (Instr.box 122 t0) fun t2 =>
 jn (n := 2) (fun t4 t5 =>
 B2 PR X (Instr.alloc 189 true (.tuple #[])) fun t6 =>
 B1 PR X 94 [t6, (.int .i64 1610612736), (.int .i64 4)] fun t34 =>
 A0 PR (A7 .len #[9] 0 [t1]) fun t36 =>
 B1 PR X 94 [t6, t36, (.int .i64 2)] fun t37 =>
 A0 PR (Instr.fieldAt 122 t2 2) fun t38 =>
 A6 PR (Instr.loadAt 3 t38) fun t39 =>
 B1 PR X 94 [t6, t39, (.int .i64 1)] fun t40 =>
 B1 PR X 94 [t6, (.int .i64 64), (.int .i64 1)] fun t41 =>
 jn (n := 1) (fun t49 =>
 A0 PR (Instr.fieldAt 189 t6 0) fun t57 =>
 B1 PR X 96 [t57] fun t58 =>
 R (.tuple #[t58, (.int .i64 0)])) fun J1 =>
 A0 PR (Instr.fieldAt 122 t2 0) fun t42 =>
 A6 PR (Instr.loadAt 9 t42) fun t43 =>
 A0 PR (Instr.fieldAt 122 t2 1) fun t44 =>
 A6 PR (Instr.loadAt 9 t44) fun t45 =>
 B2 PR X (Instr.buildSlice 48 3 #[(0, t43), (1, t45), (2, t1)]) fun t47 =>
 A0 PR (A7 .len #[48] 0 [t47]) fun t48 =>
 lp (n := 1) (fun L2 t49_1 =>
 A0 PR (binOp .lss 3 t49_1 t48) fun t50 =>
 jn (n := 0) (
 jn (n := 0) (
 A0 PR (binOp .add 3 t49_1 (.int .i64 1)) fun t56 =>
 L2 t56) fun J3 =>
 A0 PR (Instr.indexAt 48 t47 t49_1) fun t51 =>
 A6 PR (Instr.loadAt 9 t51) fun t52 =>
 A0 PR (Instr.fieldAt 189 t6 0) fun t53 =>
 B1 PR X 95 [t53, t52] fun t55 =>
 J3) fun J4 =>
 B5 t50 (
 J4) (
 J1 t49_1)) (.int .i64 0)) fun J5 =>
 A0 PR (Instr.fieldAt 122 t2 0) fun t10 =>
 A6 PR (Instr.loadAt 9 t10) fun t11 =>
 A0 PR (A7 .len #[9] 0 [t11]) fun t12 =>
 A0 PR (binOp .neq 3 t12 (.int .i64 16)) fun t13 =>
 gj t13 false (fun J => A0 PR (Instr.fieldAt 122 t2 1) J) fun t15 =>
 gj t13 false (fun J => A6 PR (Instr.loadAt 9 t15) J) fun t16 =>
 gj t13 false (fun J => A0 PR (A7 .len #[9] 0 [t16]) J) fun t17 =>
 gj t13 false (fun J => A0 PR (binOp .neq 3 t17 (.int .i64 16)) J) fun t18 =>
 A0 PR (do pure (if ← asBool t13 then (.bool true) else t18)) fun t19 =>
 gj t19 false (fun J => A0 PR (Instr.fieldAt 122 t2 2) J) fun t21 =>
 gj t19 false (fun J => A6 PR (Instr.loadAt 3 t21) J) fun t22 =>
 gj t19 false (fun J => A0 PR (binOp .lss 3 t22 (.int .i64 0)) J) fun t23 =>
 A0 PR (do pure (if ← asBool t19 then (.bool true) else t23)) fun t24 =>
 gj t24 false (fun J => A0 PR (Instr.fieldAt 122 t2 2) J) fun t26 =>
 gj t24 false (fun J => A6 PR (Instr.loadAt 3 t26) J) fun t27 =>
 gj t24 false (fun J => A0 PR (binOp .gtr 3 t27 (.int .i64 255)) J) fun t28 =>
 A0 PR (do pure (if ← asBool t24 then (.bool true) else t28)) fun t29 =>
 B5 t29 (
 R (.tuple #[(.string (ByteArray.mk #[])), (.int .i64 1)])) (
 A0 PR (A7 .len #[9] 0 [t1]) fun t32 =>
 A0 PR (binOp .gtr 3 t32 (.int .i64 65535)) fun t33 =>
 B5 t33 (
 R (.tuple #[(.string (ByteArray.mk #[])), (.int .i64 4)])) (
 J5 (.string (ByteArray.mk #[])) (.int .i64 0)))
theorem B8p : B0 PR 52 := A8 Tryz.func52 (by kernel_rfl) rfl
theorem B9r {X : Nat → Prop} {t0 t1 : Value} {R : Value → WP} {w : World} (h : B2f X t0 t1 R w) : Fn PR X 52 #[t0, t1] w R := C6 (args := [t0, t1]) mixed Tryz.func52 (by kernel_rfl) h
def A17 (X : Nat → Prop) (t0 t1 t2 : Value) (R : Value → WP) : WP :=
 drw <|
 A0 PR (G9 t0) fun t7 =>
 A0 PR (Instr.fieldAt 189 t7 0) fun t8 =>
 A0 PR (convert 3 129 t1) fun t10 =>
 B1 PR X 55 [t10, t2] fun t12 =>
 B1 PR X 95 [t8, t12] fun t13 =>
 R (.tuple #[])
theorem W7 : B0 PR 94 := A8 Tryz.func94 (by kernel_rfl) rfl
theorem A8U {X : Nat → Prop} {t0 t1 t2 : Value} {R : Value → WP} {w : World} (h : A17 X t0 t1 t2 R w) : Fn PR X 94 #[t0, t1, t2] w R := C6 (args := [t0, t1, t2]) mixed Tryz.func94 (by kernel_rfl) h
def B0M (X : Nat → Prop) (t0 : Value) (R : Value → WP) : WP :=
 B2 PR X (Instr.alloc 122 true (.tuple #[])) fun t2 =>
 jn (n := 2) (fun t3 t4 =>
 jn (n := 2) (fun t3_1 t4_1 =>
 B2 PR X (Instr.buildSlice 34 6 #[(0, (.int .i64 4)), (1, (.int .i64 2)), (2, (.int .i64 1)), (3, (.int .i64 1)), (4, (.int .i64 16)), (5, (.int .i64 16))]) fun t19 =>
 B1 PR X 195 [t0, t19] fun t20 =>
 A0 PR (Instr.indexAt 48 t20 (.int .i64 1)) fun t23 =>
 A6 PR (Instr.loadAt 9 t23) fun t24 =>
 B1 PR X 148 [t24, (.int .i64 0), (.int .i64 2)] fun t25 =>
 A0 PR (Instr.extract t25 0) fun t26 =>
 A0 PR (Instr.extract t25 1) fun t27 =>
 A0 PR (Instr.indexAt 48 t20 (.int .i64 6)) fun t29 =>
 A6 PR (Instr.loadAt 9 t29) fun t30 =>
 jn (n := 2) (fun t3_2 t4_2 =>
 drw <|
 A0 PR (Instr.indexAt 48 t20 (.int .i64 4)) fun t38 =>
 A6 PR (Instr.loadAt 9 t38) fun t39 =>
 A0 PR (Instr.indexAt 48 t20 (.int .i64 5)) fun t41 =>
 A6 PR (Instr.loadAt 9 t41) fun t42 =>
 A0 PR (Instr.indexAt 48 t20 (.int .i64 2)) fun t44 =>
 A6 PR (Instr.loadAt 9 t44) fun t45 =>
 A0 PR (Instr.index 9 t45 (.int .i64 0)) fun t46 =>
 A0 PR (convert 5 3 t46) fun t47 =>
 A0 PR (Instr.build 122 #[(0, t39), (1, t42), (2, t47)]) fun t48 =>
 A0 PR (Instr.sliceAt 9 t30 none (some t26) none) fun t51 =>
 B6 PR X (Instr.storeAt 122 t2 t48) <|
 A6 PR (D5 [.c 122 t2, .v t51, .v (.int .i64 0)]) R) fun J1 =>
 A0 PR (A7 .len #[9] 0 [t30]) fun t33 =>
 A0 PR (convert 3 129 t33) fun t34 =>
 A0 PR (binOp .gtr 129 t26 t34) fun t35 =>
 B5 t35 (
 A0 PR (Instr.build 122 #[]) fun t36 =>
 B6 PR X (Instr.storeAt 122 t2 t36) <|
 A6 PR (D5 [.c 122 t2, .v (.string (ByteArray.mk #[])), .v (.int .i64 4)]) R) (
 J1 t3_1 t4_1)) fun J2 =>
 A0 PR (Instr.index 9 t0 (.int .i64 0)) fun t14 =>
 A0 PR (binOp .shr 5 t14 (.int .u64 4)) fun t15 =>
 A0 PR (binOp .neq 5 t15 (.int .u8 6)) fun t16 =>
 B5 t16 (
 A0 PR (Instr.build 122 #[]) fun t17 =>
 B6 PR X (Instr.storeAt 122 t2 t17) <|
 A6 PR (D5 [.c 122 t2, .v (.string (ByteArray.mk #[])), .v (.int .i64 3)]) R) (
 J2 t3 t4)) fun J3 =>
 A0 PR (A7 .len #[9] 0 [t0]) fun t10 =>
 A0 PR (binOp .lss 3 t10 (.int .i64 40)) fun t11 =>
 B5 t11 (
 A0 PR (Instr.build 122 #[]) fun t12 =>
 B6 PR X (Instr.storeAt 122 t2 t12) <|
 A6 PR (D5 [.c 122 t2, .v (.string (ByteArray.mk #[])), .v (.int .i64 2)]) R) (
 J3 (.string (ByteArray.mk #[])) (.int .i64 0))
theorem B5W : B0 PR 146 := A8 Tryz.func146 (by kernel_rfl) rfl
theorem B7M {X : Nat → Prop} {t0 : Value} {R : Value → WP} {w : World} (h : B0M X t0 R w) : Fn PR X 146 #[t0] w R := C6 (args := [t0]) mixed Tryz.func146 (by kernel_rfl) h
def B25 (X : Nat → Prop) (t0 t1 : Value) (R : Value → WP) : WP :=
 jn (n := 3) (fun t5 t0_1 t10 =>
 B2 PR X (Instr.buildSlice 48 1 #[(0, t0_1)]) fun t26 =>
 B2 PR X (A7 .append #[48, 48] 48 [t5, t26]) fun t27 =>
 R t27) fun J1 =>
 A0 PR (A7 .len #[34] 0 [t1]) fun t9 =>
 lp (n := 3) (fun L2 t5_1 t0_2 t10_1 =>
 A0 PR (binOp .lss 3 t10_1 t9) fun t11 =>
 jn (n := 0) (
 jn (n := 2) (fun t5_2 t0_3 =>
 A0 PR (binOp .add 3 t10_1 (.int .i64 1)) fun t23 =>
 L2 t5_2 t0_3 t23) fun J3 =>
 A0 PR (Instr.indexAt 34 t1 t10_1) fun t12 =>
 A6 PR (Instr.loadAt 3 t12) fun t13 =>
 A0 PR (Instr.sliceAt 9 t0_2 none (some t13) none) fun t17 =>
 B2 PR X (Instr.buildSlice 48 1 #[(0, t17)]) fun t18 =>
 B2 PR X (A7 .append #[48, 48] 48 [t5_1, t18]) fun t19 =>
 A0 PR (Instr.sliceAt 9 t0_2 (some t13) none none) fun t22 =>
 J3 t19 t22) fun J4 =>
 B5 t11 (
 J4) (
 J1 t5_1 t0_2 t10_1)) (.slice none 0 0) t0 (.int .i64 0)
theorem B8P : B0 PR 195 := A8 Tryz.func195 (by kernel_rfl) rfl
theorem B92 {X : Nat → Prop} {t0 t1 : Value} {R : Value → WP} {w : World} (h : B25 X t0 t1 R w) : Fn PR X 195 #[t0, t1] w R := C6 (args := [t0, t1]) mixed Tryz.func195 (by kernel_rfl) h
end Go.Proofs.YtpbmephflllolaaGreat
namespace Go.Proofs.YtpbmephflllolaaGreat
open Go
def B24 (X : Nat → Prop) (t0 t1 : Value) (R : Value → WP) : WP :=
 B2 PR X (Instr.box 124 t0) fun t2 =>
 B2 PR X (Instr.box 9 t1) fun t3 =>
 jn (n := 2) (fun t4 t5 =>
 A0 PR (Instr.makeFunc (.func 97) #[] #[t3, t2]) fun t32 =>
 drw <|
 A6 PR (Instr.loadAt 9 t3) fun t38 =>
 M4 PR X t32 [(.int .i64 0)] fun t35 =>
 watch PR [(none, (Instr.loadAt 9 t3), t38)] <|
 B1 PR X 98 [t35] fun t36 =>
 watch PR [(none, (Instr.loadAt 9 t3), t38)] <|
 M4 PR X t32 [t36] fun t37 =>
 watch PR [(none, (Instr.loadAt 9 t3), t38)] <|
 A0 PR (binOp .add 9 t37 t38) fun t39 =>
 R (.tuple #[t39, (.int .i64 0)])) fun J1 =>
 A0 PR (Instr.fieldAt 124 t2 0) fun t8 =>
 A6 PR (Instr.loadAt 9 t8) fun t9 =>
 A0 PR (A7 .len #[9] 0 [t9]) fun t10 =>
 A0 PR (binOp .neq 3 t10 (.int .i64 4)) fun t11 =>
 gj t11 false (fun J => A0 PR (Instr.fieldAt 124 t2 1) J) fun t13 =>
 gj t11 false (fun J => A6 PR (Instr.loadAt 9 t13) J) fun t14 =>
 gj t11 false (fun J => A0 PR (A7 .len #[9] 0 [t14]) J) fun t15 =>
 gj t11 false (fun J => A0 PR (binOp .neq 3 t15 (.int .i64 4)) J) fun t16 =>
 A0 PR (do pure (if ← asBool t11 then (.bool true) else t16)) fun t17 =>
 gj t17 false (fun J => A0 PR (Instr.fieldAt 124 t2 2) J) fun t19 =>
 gj t17 false (fun J => A6 PR (Instr.loadAt 3 t19) J) fun t20 =>
 gj t17 false (fun J => A0 PR (binOp .lss 3 t20 (.int .i64 0)) J) fun t21 =>
 A0 PR (do pure (if ← asBool t17 then (.bool true) else t21)) fun t22 =>
 gj t22 false (fun J => A0 PR (Instr.fieldAt 124 t2 2) J) fun t24 =>
 gj t22 false (fun J => A6 PR (Instr.loadAt 3 t24) J) fun t25 =>
 gj t22 false (fun J => A0 PR (binOp .gtr 3 t25 (.int .i64 255)) J) fun t26 =>
 A0 PR (do pure (if ← asBool t22 then (.bool true) else t26)) fun t27 =>
 B5 t27 (
 R (.tuple #[(.string (ByteArray.mk #[])), (.int .i64 1)])) (
 A6 PR (Instr.loadAt 9 t3) fun t29 =>
 A0 PR (A7 .len #[9] 0 [t29]) fun t30 =>
 A0 PR (binOp .gtr 3 t30 (.int .i64 65515)) fun t31 =>
 B5 t31 (
 R (.tuple #[(.string (ByteArray.mk #[])), (.int .i64 4)])) (
 J1 (.string (ByteArray.mk #[])) (.int .i64 0)))
theorem B8J : B0 PR 53 := A8 Tryz.func53 (by kernel_rfl) rfl
theorem C01 {X : Nat → Prop} {t0 t1 : Value} {R : Value → WP} {w : World} (h : B24 X t0 t1 R w) : Fn PR X 53 #[t0, t1] w R := C6 (args := [t0, t1]) mixed Tryz.func53 (by kernel_rfl) h
def A86 (X : Nat → Prop) (t0 t1 t2 : Value) (R : Value → WP) : WP :=
 drw <|
 A6 PR (Instr.loadAt 9 t1) fun t5 =>
 A0 PR (A7 .len #[9] 0 [t5]) fun t6 =>
 A0 PR (binOp .add 3 (.int .i64 20) t6) fun t7 =>
 A0 PR (convert 3 129 t7) fun t8 =>
 A0 PR (Instr.fieldAt 124 t2 2) fun t12 =>
 A6 PR (Instr.loadAt 3 t12) fun t13 =>
 A0 PR (convert 3 129 t13) fun t14 =>
 A0 PR (convert 3 129 t0) fun t18 =>
 A0 PR (Instr.fieldAt 124 t2 0) fun t21 =>
 A6 PR (Instr.loadAt 9 t21) fun t22 =>
 A0 PR (Instr.fieldAt 124 t2 1) fun t24 =>
 A6 PR (Instr.loadAt 9 t24) fun t25 =>
 B1 PR X 55 [t8, (.int .i64 2)] fun t9 =>
 watch PR [(none, (Instr.loadAt 9 t24), t25), (none, (Instr.loadAt 9 t21), t22), (none, (Instr.loadAt 3 t12), t13)] <|
 A0 PR (binOp .add 9 (.string (ByteArray.mk #[69, 0])) t9) fun t10 =>
 A0 PR (binOp .add 9 t10 (.string (ByteArray.mk #[0, 0, 64, 0, 64]))) fun t11 =>
 B1 PR X 55 [t14, (.int .i64 1)] fun t15 =>
 watch PR [(none, (Instr.loadAt 9 t24), t25), (none, (Instr.loadAt 9 t21), t22)] <|
 A0 PR (binOp .add 9 t11 t15) fun t16 =>
 B1 PR X 55 [t18, (.int .i64 2)] fun t19 =>
 watch PR [(none, (Instr.loadAt 9 t24), t25), (none, (Instr.loadAt 9 t21), t22)] <|
 A0 PR (binOp .add 9 t16 t19) fun t20 =>
 A0 PR (binOp .add 9 t20 t22) fun t23 =>
 A0 PR (binOp .add 9 t23 t25) fun t26 =>
 R t26
theorem A7g : B0 PR 97 := A8 Tryz.func97 (by kernel_rfl) rfl
theorem B5n {X : Nat → Prop} {t0 t1 t2 : Value} {R : Value → WP} {w : World} (h : A86 X t0 t1 t2 R w) : Fn PR X 97 #[t0, t1, t2] w R := C6 (args := [t0, t1, t2]) mixed Tryz.func97 (by kernel_rfl) h
def B0V (X : Nat → Prop) (t0 : Value) (R : Value → WP) : WP :=
 B2 PR X (Instr.box 9 t0) fun t1 =>
 B2 PR X (Instr.alloc 124 true (.tuple #[])) fun t2 =>
 A0 PR (Instr.makeFunc (.func 187) #[] #[t1]) fun t9 =>
 B2 PR X (Instr.alloc 149 true (.tuple #[])) fun t5 =>
 B6 PR X (Instr.storeAt 149 t5 t9) <|
 drw <|
 kt (n := 2) (fun t6 t7 =>
 A0 PR (Instr.makeFunc (.func 189) #[] #[t1]) fun t16 =>
 A0 PR (Instr.build 296 #[(0, t16), (1, (.int .i64 2))]) fun t17 =>
 A0 PR (Instr.makeFunc (.func 190) #[] #[t5]) fun t18 =>
 A0 PR (Instr.build 296 #[(0, t18), (1, (.int .i64 3))]) fun t19 =>
 A0 PR (Instr.makeFunc (.func 191) #[] #[t6, t1, t7]) fun t20 =>
 A0 PR (Instr.build 296 #[(0, t20), (1, (.int .i64 4))]) fun t21 =>
 A0 PR (Instr.makeFunc (.func 192) #[] #[t1, t6]) fun t22 =>
 A0 PR (Instr.build 296 #[(0, t22), (1, (.int .i64 5))]) fun t23 =>
 A0 PR (Instr.makeFunc (.func 194) #[] #[t5]) fun t24 =>
 A0 PR (Instr.build 296 #[(0, t24), (1, (.int .i64 6))]) fun t25 =>
 B2 PR X (Instr.buildSlice 320 5 #[(0, t17), (1, t19), (2, t21), (3, t23), (4, t25)]) fun t26 =>
 B1 PR X 188 [t26] fun t27 =>
 jn (n := 2) (fun t3 t4 =>
 drw <|
 A6 PR (Instr.loadAt 9 t1) fun t32 =>
 A0 PR (Instr.sliceAt 9 t32 (some (.int .i64 12)) (some (.int .i64 16)) none) fun t33 =>
 A6 PR (Instr.loadAt 9 t1) fun t34 =>
 A0 PR (Instr.sliceAt 9 t34 (some (.int .i64 16)) (some (.int .i64 20)) none) fun t35 =>
 A6 PR (Instr.loadAt 149 t5) fun t36 =>
 A6 PR (Instr.loadAt 9 t1) fun t39 =>
 A6 PR (Instr.loadAt 3 t6) fun t40 =>
 A6 PR (Instr.loadAt 3 t7) fun t41 =>
 A0 PR (Instr.sliceAt 9 t39 (some t40) (some t41) none) fun t42 =>
 M4 PR X t36 [(.int .i64 9), (.int .i64 1)] fun t37 =>
 watch PR [(none, (Instr.loadAt 3 t7), t41), (none, (Instr.loadAt 3 t6), t40), (none, (Instr.loadAt 9 t1), t39), (none, (Instr.loadAt 9 t1), t34), (none, (Instr.loadAt 9 t1), t32)] <|
 A0 PR (Instr.build 124 #[(0, t33), (1, t35), (2, t37)]) fun t38 =>
 B6 PR X (Instr.storeAt 124 t2 t38) <|
 watch PR [(none, (Instr.loadAt 3 t7), t41), (none, (Instr.loadAt 3 t6), t40), (none, (Instr.loadAt 9 t1), t39)] <|
 A6 PR (D5 [.c 124 t2, .v t42, .v (.int .i64 0)]) R) fun J1 =>
 A0 PR (binOp .neq 28 t27 (.int .i64 0)) fun t29 =>
 B5 t29 (
 A0 PR (Instr.build 124 #[]) fun t30 =>
 B6 PR X (Instr.storeAt 124 t2 t30) <|
 A6 PR (D5 [.c 124 t2, .v (.string (ByteArray.mk #[])), .v t27]) R) (
 J1 (.string (ByteArray.mk #[])) (.int .i64 0))) fun C2 =>
 A6 PR (Instr.loadAt 149 t5) fun t10_1 =>
 A6 PR (Instr.loadAt 149 t5) fun t14_1 =>
 both (M4 PR X t10_1 [(.int .i64 0), (.int .i64 1)] fun t11_5 =>
 watch PR [(none, (Instr.loadAt 149 t5), t14_1)] <|
 A0 PR (binOp .and 3 t11_5 (.int .i64 15)) fun t12_5 =>
 A0 PR (binOp .mul 3 t12_5 (.int .i64 4)) fun t13_5 =>
 both (M4 PR X t14_1 [(.int .i64 2), (.int .i64 2)] fun t15_11 =>
 both (B2 PR X (Instr.alloc 3 true (.tuple #[])) fun t6_9 =>
 B2 PR X (Instr.alloc 3 true (.tuple #[])) fun t7_9 =>
 B6 PR X (Instr.storeAt 3 t6_9 t13_5) <|
 B6 PR X (Instr.storeAt 3 t7_9 t15_11) <|
 C2 t6_9 t7_9) (both (B2 PR X (Instr.alloc 3 true (.tuple #[])) fun t7_8 =>
 B2 PR X (Instr.alloc 3 true (.tuple #[])) fun t6_8 =>
 B6 PR X (Instr.storeAt 3 t6_8 t13_5) <|
 B6 PR X (Instr.storeAt 3 t7_8 t15_11) <|
 C2 t6_8 t7_8) ((fun _ => True)))) (both (B2 PR X (Instr.alloc 3 true (.tuple #[])) fun t6_7 =>
 watch PR [(none, (Instr.loadAt 149 t5), t14_1)] <|
 both (M4 PR X t14_1 [(.int .i64 2), (.int .i64 2)] fun t15_10 =>
 B2 PR X (Instr.alloc 3 true (.tuple #[])) fun t7_7 =>
 B6 PR X (Instr.storeAt 3 t6_7 t13_5) <|
 B6 PR X (Instr.storeAt 3 t7_7 t15_10) <|
 C2 t6_7 t7_7) (both (B2 PR X (Instr.alloc 3 true (.tuple #[])) fun t7_6 =>
 watch PR [(none, (Instr.loadAt 149 t5), t14_1)] <|
 M4 PR X t14_1 [(.int .i64 2), (.int .i64 2)] fun t15_9 =>
 B6 PR X (Instr.storeAt 3 t6_7 t13_5) <|
 B6 PR X (Instr.storeAt 3 t7_6 t15_9) <|
 C2 t6_7 t7_6) ((fun _ => True)))) (both (B2 PR X (Instr.alloc 3 true (.tuple #[])) fun t7_5 =>
 watch PR [(none, (Instr.loadAt 149 t5), t14_1)] <|
 both (M4 PR X t14_1 [(.int .i64 2), (.int .i64 2)] fun t15_8 =>
 B2 PR X (Instr.alloc 3 true (.tuple #[])) fun t6_6 =>
 B6 PR X (Instr.storeAt 3 t6_6 t13_5) <|
 B6 PR X (Instr.storeAt 3 t7_5 t15_8) <|
 C2 t6_6 t7_5) (both (B2 PR X (Instr.alloc 3 true (.tuple #[])) fun t6_5 =>
 watch PR [(none, (Instr.loadAt 149 t5), t14_1)] <|
 M4 PR X t14_1 [(.int .i64 2), (.int .i64 2)] fun t15_7 =>
 B6 PR X (Instr.storeAt 3 t6_5 t13_5) <|
 B6 PR X (Instr.storeAt 3 t7_5 t15_7) <|
 C2 t6_5 t7_5) ((fun _ => True)))) ((fun _ => True))))) (both (B2 PR X (Instr.alloc 3 true (.tuple #[])) fun t6_4 =>
 watch PR [(none, (Instr.loadAt 149 t5), t14_1), (none, (Instr.loadAt 149 t5), t10_1)] <|
 both (M4 PR X t10_1 [(.int .i64 0), (.int .i64 1)] fun t11_4 =>
 watch PR [(none, (Instr.loadAt 149 t5), t14_1)] <|
 A0 PR (binOp .and 3 t11_4 (.int .i64 15)) fun t12_4 =>
 A0 PR (binOp .mul 3 t12_4 (.int .i64 4)) fun t13_4 =>
 both (M4 PR X t14_1 [(.int .i64 2), (.int .i64 2)] fun t15_6 =>
 B2 PR X (Instr.alloc 3 true (.tuple #[])) fun t7_4 =>
 B6 PR X (Instr.storeAt 3 t6_4 t13_4) <|
 B6 PR X (Instr.storeAt 3 t7_4 t15_6) <|
 C2 t6_4 t7_4) (both (B2 PR X (Instr.alloc 3 true (.tuple #[])) fun t7_3 =>
 watch PR [(none, (Instr.loadAt 149 t5), t14_1)] <|
 M4 PR X t14_1 [(.int .i64 2), (.int .i64 2)] fun t15_5 =>
 B6 PR X (Instr.storeAt 3 t6_4 t13_4) <|
 B6 PR X (Instr.storeAt 3 t7_3 t15_5) <|
 C2 t6_4 t7_3) ((fun _ => True)))) (both (B2 PR X (Instr.alloc 3 true (.tuple #[])) fun t7_2 =>
 watch PR [(none, (Instr.loadAt 149 t5), t14_1), (none, (Instr.loadAt 149 t5), t10_1)] <|
 M4 PR X t10_1 [(.int .i64 0), (.int .i64 1)] fun t11_3 =>
 watch PR [(none, (Instr.loadAt 149 t5), t14_1)] <|
 A0 PR (binOp .and 3 t11_3 (.int .i64 15)) fun t12_3 =>
 A0 PR (binOp .mul 3 t12_3 (.int .i64 4)) fun t13_3 =>
 M4 PR X t14_1 [(.int .i64 2), (.int .i64 2)] fun t15_4 =>
 B6 PR X (Instr.storeAt 3 t6_4 t13_3) <|
 B6 PR X (Instr.storeAt 3 t7_2 t15_4) <|
 C2 t6_4 t7_2) ((fun _ => True)))) (both (B2 PR X (Instr.alloc 3 true (.tuple #[])) fun t7_1 =>
 watch PR [(none, (Instr.loadAt 149 t5), t14_1), (none, (Instr.loadAt 149 t5), t10_1)] <|
 both (M4 PR X t10_1 [(.int .i64 0), (.int .i64 1)] fun t11_2 =>
 watch PR [(none, (Instr.loadAt 149 t5), t14_1)] <|
 A0 PR (binOp .and 3 t11_2 (.int .i64 15)) fun t12_2 =>
 A0 PR (binOp .mul 3 t12_2 (.int .i64 4)) fun t13_2 =>
 both (M4 PR X t14_1 [(.int .i64 2), (.int .i64 2)] fun t15_3 =>
 B2 PR X (Instr.alloc 3 true (.tuple #[])) fun t6_3 =>
 B6 PR X (Instr.storeAt 3 t6_3 t13_2) <|
 B6 PR X (Instr.storeAt 3 t7_1 t15_3) <|
 C2 t6_3 t7_1) (both (B2 PR X (Instr.alloc 3 true (.tuple #[])) fun t6_2 =>
 watch PR [(none, (Instr.loadAt 149 t5), t14_1)] <|
 M4 PR X t14_1 [(.int .i64 2), (.int .i64 2)] fun t15_2 =>
 B6 PR X (Instr.storeAt 3 t6_2 t13_2) <|
 B6 PR X (Instr.storeAt 3 t7_1 t15_2) <|
 C2 t6_2 t7_1) ((fun _ => True)))) (both (B2 PR X (Instr.alloc 3 true (.tuple #[])) fun t6_1 =>
 watch PR [(none, (Instr.loadAt 149 t5), t14_1), (none, (Instr.loadAt 149 t5), t10_1)] <|
 M4 PR X t10_1 [(.int .i64 0), (.int .i64 1)] fun t11_1 =>
 watch PR [(none, (Instr.loadAt 149 t5), t14_1)] <|
 A0 PR (binOp .and 3 t11_1 (.int .i64 15)) fun t12_1 =>
 A0 PR (binOp .mul 3 t12_1 (.int .i64 4)) fun t13_1 =>
 M4 PR X t14_1 [(.int .i64 2), (.int .i64 2)] fun t15_1 =>
 B6 PR X (Instr.storeAt 3 t6_1 t13_1) <|
 B6 PR X (Instr.storeAt 3 t7_1 t15_1) <|
 C2 t6_1 t7_1) ((fun _ => True)))) ((fun _ => True))))
theorem B5K : B0 PR 143 := A8 Tryz.func143 (by kernel_rfl) rfl
theorem B6l {X : Nat → Prop} {t0 : Value} {R : Value → WP} {w : World} (h : B0V X t0 R w) : Fn PR X 143 #[t0] w R := C6 (args := [t0]) mixed Tryz.func143 (by kernel_rfl) h
def A6Y (X : Nat → Prop) (t0 t1 t2 : Value) (R : Value → WP) : WP :=
 A6 PR (Instr.loadAt 9 t2) fun t9 =>
 B1 PR X 148 [t9, t0, t1] fun t12 =>
 A0 PR (Instr.extract t12 0) fun t13 =>
 A0 PR (Instr.extract t12 1) fun t14 =>
 A0 PR (convert 129 3 t13) fun t16 =>
 R t16
theorem r4 : B0 PR 187 := A8 Tryz.func187 (by kernel_rfl) rfl
theorem B2W {X : Nat → Prop} {t0 t1 t2 : Value} {R : Value → WP} {w : World} (h : A6Y X t0 t1 t2 R w) : Fn PR X 187 #[t0, t1, t2] w R := C6 (args := [t0, t1, t2]) mixed Tryz.func187 (by kernel_rfl) h
def A9T (X : Nat → Prop) (t0 : Value) (R : Value → WP) : WP :=
 jn (n := 2) (fun t3 t8 =>
 R t3) fun J1 =>
 A0 PR (A7 .len #[320] 0 [t0]) fun t7 =>
 lp (n := 2) (fun L2 t3_1 t8_1 =>
 A0 PR (binOp .lss 3 t8_1 t7) fun t9 =>
 jn (n := 0) (
 jn (n := 1) (fun t3_2 =>
 A0 PR (binOp .add 3 t8_1 (.int .i64 1)) fun t17 =>
 L2 t3_2 t17) fun J3 =>
 A0 PR (Instr.indexAt 320 t0 t8_1) fun t10 =>
 A6 PR (Instr.loadAt 296 t10) fun t11 =>
 B2 PR X (Instr.alloc 296 true (.tuple #[])) fun t5 =>
 B6 PR X (Instr.storeAt 296 t5 t11) <|
 A0 PR (Instr.fieldAt 296 t5 0) fun t12 =>
 A6 PR (Instr.loadAt 25 t12) fun t13 =>
 M4 PR X t13 [] fun t14 =>
 B5 t14 (
 A0 PR (Instr.fieldAt 296 t5 1) fun t15 =>
 A6 PR (Instr.loadAt 28 t15) fun t16 =>
 J1 t16 t8_1) (
 J3 t3_1)) fun J4 =>
 B5 t9 (
 J4) (
 J1 t3_1 t8_1)) (.int .i64 0) (.int .i64 0)
theorem B5N : B0 PR 188 := A8 Tryz.func188 (by kernel_rfl) rfl
theorem B67 {X : Nat → Prop} {t0 : Value} {R : Value → WP} {w : World} (h : A9T X t0 R w) : Fn PR X 188 #[t0] w R := C6 (args := [t0]) mixed Tryz.func188 (by kernel_rfl) h
def A6K (X : Nat → Prop) (t0 : Value) (R : Value → WP) : WP :=
 A6 PR (Instr.loadAt 9 t0) fun t2 =>
 A0 PR (A7 .len #[9] 0 [t2]) fun t3 =>
 A0 PR (binOp .lss 3 t3 (.int .i64 20)) fun t4 =>
 R t4
theorem B1p : B0 PR 189 := A8 Tryz.func189 (by kernel_rfl) rfl
theorem B2v {X : Nat → Prop} {t0 : Value} {R : Value → WP} {w : World} (h : A6K X t0 R w) : Fn PR X 189 #[t0] w R := C6 (args := [t0]) mixed Tryz.func189 (by kernel_rfl) h
def A56 (X : Nat → Prop) (t0 : Value) (R : Value → WP) : WP :=
 A6 PR (Instr.loadAt 149 t0) fun t2 =>
 M4 PR X t2 [(.int .i64 0), (.int .i64 1)] fun t3 =>
 A0 PR (binOp .shr 3 t3 (.int .u64 4)) fun t4 =>
 A0 PR (binOp .neq 3 t4 (.int .i64 4)) fun t5 =>
 R t5
theorem B1x : B0 PR 190 := A8 Tryz.func190 (by kernel_rfl) rfl
theorem B28 {X : Nat → Prop} {t0 : Value} {R : Value → WP} {w : World} (h : A56 X t0 R w) : Fn PR X 190 #[t0] w R := C6 (args := [t0]) mixed Tryz.func190 (by kernel_rfl) h
def A58 (X : Nat → Prop) (t0 t1 t2 : Value) (R : Value → WP) : WP :=
 A6 PR (Instr.loadAt 3 t0) fun t4 =>
 A0 PR (binOp .lss 3 t4 (.int .i64 20)) fun t5 =>
 gj t5 false (fun J => A6 PR (Instr.loadAt 3 t0) J) fun t7 =>
 gj t5 false (fun J => A6 PR (Instr.loadAt 9 t1) J) fun t8 =>
 gj t5 false (fun J => A0 PR (A7 .len #[9] 0 [t8]) J) fun t9 =>
 gj t5 false (fun J => A0 PR (binOp .gtr 3 t7 t9) J) fun t10 =>
 A0 PR (do pure (if ← asBool t5 then (.bool true) else t10)) fun t11 =>
 gj t11 false (fun J => A6 PR (Instr.loadAt 3 t2) J) fun t13 =>
 gj t11 false (fun J => A6 PR (Instr.loadAt 3 t0) J) fun t14 =>
 gj t11 false (fun J => A0 PR (binOp .lss 3 t13 t14) J) fun t15 =>
 A0 PR (do pure (if ← asBool t11 then (.bool true) else t15)) fun t16 =>
 gj t16 false (fun J => A6 PR (Instr.loadAt 3 t2) J) fun t18 =>
 gj t16 false (fun J => A6 PR (Instr.loadAt 9 t1) J) fun t19 =>
 gj t16 false (fun J => A0 PR (A7 .len #[9] 0 [t19]) J) fun t20 =>
 gj t16 false (fun J => A0 PR (binOp .gtr 3 t18 t20) J) fun t21 =>
 A0 PR (do pure (if ← asBool t16 then (.bool true) else t21)) fun t22 =>
 R t22
theorem B2E : B0 PR 191 := A8 Tryz.func191 (by kernel_rfl) rfl
theorem B2z {X : Nat → Prop} {t0 t1 t2 : Value} {R : Value → WP} {w : World} (h : A58 X t0 t1 t2 R w) : Fn PR X 191 #[t0, t1, t2] w R := C6 (args := [t0, t1, t2]) mixed Tryz.func191 (by kernel_rfl) h
def A57 (X : Nat → Prop) (t0 t1 : Value) (R : Value → WP) : WP :=
 A6 PR (Instr.loadAt 9 t0) fun t3 =>
 A6 PR (Instr.loadAt 3 t1) fun t4 =>
 A0 PR (Instr.sliceAt 9 t3 none (some t4) none) fun t5 =>
 B1 PR X 193 [t5] fun t6 =>
 A0 PR (Op.unary .not t6) fun t7 =>
 R t7
theorem B2C : B0 PR 192 := A8 Tryz.func192 (by kernel_rfl) rfl
theorem B2c {X : Nat → Prop} {t0 t1 : Value} {R : Value → WP} {w : World} (h : A57 X t0 t1 R w) : Fn PR X 192 #[t0, t1] w R := C6 (args := [t0, t1]) mixed Tryz.func192 (by kernel_rfl) h
def A6G (X : Nat → Prop) (t0 : Value) (R : Value → WP) : WP :=
 A6 PR (Instr.loadAt 149 t0) fun t2 =>
 M4 PR X t2 [(.int .i64 6), (.int .i64 2)] fun t3 =>
 A0 PR (binOp .and 3 t3 (.int .i64 16383)) fun t4 =>
 A0 PR (binOp .neq 3 t4 (.int .i64 0)) fun t5 =>
 R t5
theorem B1c : B0 PR 194 := A8 Tryz.func194 (by kernel_rfl) rfl
theorem B3H {X : Nat → Prop} {t0 : Value} {R : Value → WP} {w : World} (h : A6G X t0 R w) : Fn PR X 194 #[t0] w R := C6 (args := [t0]) mixed Tryz.func194 (by kernel_rfl) h
end Go.Proofs.YtpbmephflllolaaGreat
namespace Go.Proofs.YtpbmephflllolaaGreat
open Go
def B3V (X : Nat → Prop) (t0 : Value) (R : Value → WP) : WP :=
 B1 PR X 140 [t0] fun t4 =>
 A0 PR (binOp .sub 3 (.int .i64 65535) t4) fun t5 =>
 R t5
theorem B8d : B0 PR 98 := A8 Tryz.func98 (by kernel_rfl) rfl
theorem C0W {X : Nat → Prop} {t0 : Value} {R : Value → WP} {w : World} (h : B3V X t0 R w) : Fn PR X 98 #[t0] w R := C6 (args := [t0]) mixed Tryz.func98 (by kernel_rfl) h
def B1Y (X : Nat → Prop) (t0 : Value) (R : Value → WP) : WP :=
 B2 PR X (Instr.alloc 129 true (.tuple #[])) fun t3 =>
 jn (n := 0) (
 jn (n := 0) (
 A6 PR (Instr.loadAt 129 t3) fun t18 =>
 A0 PR (convert 129 3 t18) fun t19 =>
 f7 (R t19)) fun J1 =>
 lp (n := 0) (fun L2 =>
 jn (n := 0) (
 A6 PR (Instr.loadAt 129 t3) fun t13 =>
 A0 PR (binOp .shr 129 t13 (.int .u64 16)) fun t14 =>
 A6 PR (Instr.loadAt 129 t3) fun t15 =>
 A0 PR (binOp .and 129 t15 (.int .u64 65535)) fun t16 =>
 A0 PR (binOp .add 129 t14 t16) fun t17 =>
 B6 PR X (Instr.storeAt 129 t3 t17) <|
 L2) fun J3 =>
 A6 PR (Instr.loadAt 129 t3) fun t11 =>
 A0 PR (binOp .leq 129 t11 (.int .u64 65535)) fun t12 =>
 B5 t12 (
 J1) (
 J3)) ) fun J4 =>
 B1 PR X 186 [t0] fun t6 =>
 rng (N := 1) PR X (fun t7 K5 =>
 bgn <|
 A6 PR (Instr.loadAt 129 t3) fun t8 =>
 A0 PR (binOp .add 129 t8 t7) fun t10 =>
 B6 PR (fun _ => False) (Instr.storeAt 129 t3 t10) <|
 K5 none) t6 (fun j => match j with | none => (J4) | some (.exit i) => (match Nat.beq i 0 with | true => (J4) | false => (F7)) | some .ret => (f7 (R (.int .i64 0))) | some _ => F7)
theorem A91 : B0 PR 140 := A8 Tryz.func140 (by kernel_rfl) rfl
theorem B78 {X : Nat → Prop} {t0 : Value} {R : Value → WP} {w : World} (h : B1Y X t0 R w) : Fn PR X 140 #[t0] w R := C6 (args := [t0]) mixed Tryz.func140 (by kernel_rfl) h
def A9x (X : Nat → Prop) (t0 : Value) (R : Value → WP) : WP :=
 B2 PR X (Instr.box 9 t0) fun t1 =>
 A0 PR (Instr.makeFunc (.func 218) #[] #[t1]) fun t3 =>
 R t3
theorem B5M : B0 PR 186 := A8 Tryz.func186 (by kernel_rfl) rfl
theorem B6c {X : Nat → Prop} {t0 : Value} {R : Value → WP} {w : World} (h : A9x X t0 R w) : Fn PR X 186 #[t0] w R := C6 (args := [t0]) mixed Tryz.func186 (by kernel_rfl) h
def B1U (X : Nat → Prop) (t0 : Value) (R : Value → WP) : WP :=
 B1 PR X 140 [t0] fun t4 =>
 A0 PR (binOp .eql 3 t4 (.int .i64 65535)) fun t5 =>
 R t5
theorem B7K : B0 PR 193 := A8 Tryz.func193 (by kernel_rfl) rfl
theorem B8K {X : Nat → Prop} {t0 : Value} {R : Value → WP} {w : World} (h : B1U X t0 R w) : Fn PR X 193 #[t0] w R := C6 (args := [t0]) mixed Tryz.func193 (by kernel_rfl) h
def A50 (X : Nat → Prop) (t0 t1 : Value) (R : Value → WP) : WP :=
 jn (n := 0) (
 lp (n := 1) (fun L1 t3 =>
 jn (n := 0) (
 jn (n := 0) (
 A0 PR (binOp .add 3 t3 (.int .i64 2)) fun t17 =>
 L1 t17) fun J2 =>
 A6 PR (Instr.loadAt 9 t1) fun t19 =>
 B1 PR X 148 [t19, t3, (.int .i64 2)] fun t21 =>
 A0 PR (Instr.extract t21 0) fun t22 =>
 A0 PR (Instr.extract t21 1) fun t23 =>
 M4 PR X t0 [t22] fun t26 =>
 A0 PR (Op.unary .not t26) fun t27 =>
 B5 t27 (
 R (.tuple #[])) (
 J2)) fun J3 =>
 A6 PR (Instr.loadAt 9 t1) fun t13 =>
 A0 PR (A7 .len #[9] 0 [t13]) fun t14 =>
 A0 PR (binOp .lss 3 t3 t14) fun t15 =>
 B5 t15 (
 J3) (
 R (.tuple #[]))) (.int .i64 0)) fun J4 =>
 A6 PR (Instr.loadAt 9 t1) fun t6 =>
 A0 PR (A7 .len #[9] 0 [t6]) fun t7 =>
 A0 PR (binOp .rem 3 t7 (.int .i64 2)) fun t8 =>
 A0 PR (binOp .eql 3 t8 (.int .i64 1)) fun t9 =>
 B5 t9 (
 A6 PR (Instr.loadAt 9 t1) fun t10 =>
 A0 PR (binOp .add 9 t10 (.string (ByteArray.mk #[0]))) fun t11 =>
 B6 PR X (Instr.storeAt 9 t1 t11) <|
 J4) (
 J4)
theorem B2N : B0 PR 218 := A8 Tryz.func218 (by kernel_rfl) rfl
theorem B26 {X : Nat → Prop} {t0 t1 : Value} {R : Value → WP} {w : World} (h : A50 X t0 t1 R w) : Fn PR X 218 #[t0, t1] w R := C6 (args := [t0, t1]) mixed Tryz.func218 (by kernel_rfl) h
theorem B3M {X : Nat → Prop} {t0 t1 : Value} {K : Value → WP} {w : World} (h : Fn PR X 218 #[t0, t1] w K) : A1f PR X 218 [t0, t1] K w := ⟨B2N, h⟩
end Go.Proofs.YtpbmephflllolaaGreat
namespace Go.Proofs.YtpbmephflllolaaGreat
open Go
abbrev C2u (b : Nat) : Value := .func (.func 218) #[] #[.pointer (some ⟨b, 0, none⟩)]
theorem C4F (w : World) (s : ByteArray) : Fn PR B3 186 #[.string s] w (Rn [] w (fun b v => v = C2u b) fun b => [.pt b (.cells #[.string s] 9)]) := by
 refine B6c (TW.go (κ := false) (S := []) ?_)
 unfold A9x
 (have zz:=trivial;repeat((first|clear zz|with_reducible first|refine A3 ?_|refine A4 fun _=>?_|refine A5 fun _=>?_);try simp(disch:=first|omega|assumption|((repeat(first|exact A1|exact uH|apply A2|apply uT));first|done|fail)|(simp;first|done|omega|fail))[]))
 rename_i b
 exact k7 b rfl (by simp)
def B54 (s : ByteArray) (i : Nat) : List Value := [.int .u64 (Y3 s (2 * i) 2 : Nat)]
def P4 (s : ByteArray) : Nat := (s.size + 1) / 2
def pad (s : ByteArray) : ByteArray := if s.size % 2 = 1 then s ++ ByteArray.mk #[0] else s
theorem C3v (s : ByteArray) : (pad s).size = 2 * P4 s := by
 unfold pad P4; split
 ·rw [ByteArray.size_append, show (ByteArray.mk #[0]).size = 1 from rfl]; omega
 ·omega
theorem B5u (s t : ByteArray) (i : Nat) : C3 (s ++ t) i = if i < s.size then C3 s i else C3 t (i - s.size) := by
 unfold C3
 rw [ByteArray.data_append, Array.getD_eq_getD_getElem?, Array.getElem?_append, Array.getD_eq_getD_getElem?, Array.getD_eq_getD_getElem?]
 simp only [ByteArray.size]
 split <;> rfl
theorem B9e (s : ByteArray) (i : Nat) : C3 (pad s) i = C3 s i := by
 unfold pad; split
 ·rw [B5u]; split
  ·rfl
  ·rename_i h
   have h1 : C3 s i = 0 := by unfold C3; rw [Array.getD_eq_getD_getElem?, Array.getElem?_eq_none (by simp only [ByteArray.size] at h; omega)]; rfl
   rw [h1]; unfold C3
   by_cases h2 : i - s.size = 0
   ·rw [h2]; rfl
   ·rw [Array.getD_eq_getD_getElem?, Array.getElem?_eq_none (by simp; omega)]; rfl
 ·rfl
theorem C6K (s : ByteArray) (a n : Nat) : Y3 (pad s) a n = Y3 s a n := by
 induction n with
 | zero => rfl
 | succ n ih => simp only [Y3, ih, B9e]
theorem C4K (b : Nat) (s : ByteArray) (hs : s.size < 2 ^ 60) : A36 (C2u b) [.pt b (.cells #[.string s] 9)] (fun _ _ => True) ((List.range (P4 s)).map (B54 s)) := by
 refine ⟨_, _, _, rfl, fun l J E hJ hE stJ stE hy w0 h0 => ?_⟩
 refine B3M (B26 (TW.at (κ := true) ?_ (hJ _ _ _ h0).1))
 unfold A50
 have hp := C3v s
 have hnw : P4 s ≤ s.size := by unfold P4; omega
 have key : ∀ Lp : WP, TW true (C7 [Res.pt b (.cells #[.string s] 9)]) w0 [.pt b (.cells #[.string (pad s)] 9)] Lp → (if s.size % 2 = 1 then TW true (C7 [Res.pt b (.cells #[.string s] 9)]) w0 [.pt b (.cells #[.string (s ++ ByteArray.mk #[0])] 9)] Lp else TW true (C7 [Res.pt b (.cells #[.string s] 9)]) w0 [.pt b (.cells #[.string s] 9)] Lp) := by
  intro Lp h; unfold pad at h; split <;> simp_all
 have hrem : ((s.size : Int).tmod 2 = 1) = (s.size % 2 = 1) := by
  rw [Int.tmod_eq_emod_of_nonneg (by omega)]; exact propext (by omega)
 have hadd : s.size + (ByteArray.mk #[0]).size ≤ 9223372036854775807 := by rw [show (ByteArray.mk #[0]).size = 1 from rfl]; omega
 (have zz:=trivial;repeat((first|clear zz|with_reducible first|refine A3 ?_|refine A4 fun _=>?_|refine A5 fun _=>?_);try simp(disch:=first|omega|assumption|((repeat(first|exact A1|exact uH|apply A2|apply uT));first|done|fail)|(simp;first|done|omega|fail))[N7, P0, hrem]))
 refine key _ ?_
 clear key
 refine C0F (fun i => i) (fun _ => [.pt b (.cells #[.string (pad s)] 9)]) (fun i => i ≤ P4 s) (fun i => P4 s - i) (fun i : Nat => .int .i64 (2 * (i : Int))) 0 hJ stJ h0 (Nat.zero_le _) fun i a hi hJi _ L hL => ?_
 by_cases hlt : i < P4 s
 ·have h2 : 2 * (i : Int) < (pad s).size := by omega
  (have zz:=trivial;repeat((first|clear zz|with_reducible first|refine A3 ?_|refine A4 fun _=>?_|refine A5 fun _=>?_);try simp(disch:=first|omega|assumption|((repeat(first|exact A1|exact uH|apply A2|apply uT));first|done|fail)|(simp;first|done|omega|fail))[h2]))
  refine B8 U4 (fun w' _ => A3B w' (pad s) (by omega) _ _) ?_
  have hg : r3 (pad s) (2 * (i : Int)) 2 = true := by simp only [r3, decide_eq_true_eq]; omega
  have hv : A2L (pad s) (2 * (i : Int)) 2 = (Y3 s (2 * i) 2 : Nat) := by
   unfold A2L; rw [if_pos hg, C6K]; congr 2
  rw [hv, hg]
  (have zz:=trivial;repeat((first|clear zz|with_reducible first|refine A3 ?_|refine A4 fun _=>?_|refine A5 fun _=>?_);try simp(disch:=first|omega|assumption|((repeat(first|exact A1|exact uH|apply A2|apply uT));first|done|fail)|(simp;first|done|omega|fail))[]))
  refine A54 hJ hE stJ hy hJi (by simpa using hlt) (by simp [B54]) (fun w3 h => ?_) (fun w3 h => ?_)
  ·(have zz:=trivial;repeat((first|clear zz|with_reducible first|refine A3 ?_|refine A4 fun _=>?_|refine A5 fun _=>?_);try simp(disch:=first|omega|assumption|((repeat(first|exact A1|exact uH|apply A2|apply uT));first|done|fail)|(simp;first|done|omega|fail))[]))
   intro w' hw'
   have := hL (i + 1) w' hlt (by omega) (stJ _ _ _ _ _ h hw')
   simpa [Int.mul_add] using this
  ·(have zz:=trivial;repeat((first|clear zz|with_reducible first|refine A3 ?_|refine A4 fun _=>?_|refine A5 fun _=>?_);try simp(disch:=first|omega|assumption|((repeat(first|exact A1|exact uH|apply A2|apply uT));first|done|fail)|(simp;first|done|omega|fail))[]))
   exact A3Y stE h
 ·have h2 : ¬ 2 * (i : Int) < (pad s).size := by omega
  obtain rfl : i = P4 s := by omega
  (have zz:=trivial;repeat((first|clear zz|with_reducible first|refine A3 ?_|refine A4 fun _=>?_|refine A5 fun _=>?_);try simp(disch:=first|omega|assumption|((repeat(first|exact A1|exact uH|apply A2|apply uT));first|done|fail)|(simp;first|done|omega|fail))[h2]))
  exact A29 stJ (by simpa using hJi)
def A2n (s : ByteArray) : Nat → Nat
 | 0 => 0
 | i + 1 => A2n s i + Y3 s (2 * i) 2
def fld (n : Nat) : Nat := if n = 0 then 0 else (n - 1) % 65535 + 1
def m7 (s : ByteArray) : Nat := fld (A2n s (P4 s))
theorem C4S (n : Nat) : fld (n / 65536 + n % 65536) = fld n := by
 unfold fld
 have h := Nat.div_add_mod n 65536
 by_cases h0 : n = 0
 ·subst h0; rfl
 ·rw [if_neg (by omega), if_neg h0]; omega
theorem C2Q {n : Nat} (h : n ≤ 65535) : fld n = n := by unfold fld; split <;> omega
theorem B2k (n : Nat) : fld n ≤ 65535 := by unfold fld; split <;> omega
theorem B8w (s : ByteArray) (i : Nat) : A2n s i ≤ i * 65535 := by
 induction i with
 | zero => simp [A2n]
 | succ i ih => have := A47 s (2 * i) 2; simp only [A2n]; omega
theorem C4e (n : Nat) (h : n < 2 ^ 64) : IntKind.u64.wrap ((n % 2 ^ IntKind.u64.bits &&& 65535 % 2 ^ IntKind.u64.bits : Nat) : Int) = ((n % 65536 : Nat) : Int) := by
 rw [show (2 : Nat) ^ IntKind.u64.bits = 2 ^ 64 from rfl, Nat.mod_eq_of_lt h, show 65535 % 2 ^ 64 = 2 ^ 16 - 1 from rfl, Nat.and_two_pow_sub_one_eq_mod]
 exact A0P (by omega) (by omega)
theorem B86 (w : World) (s : ByteArray) (hs : s.size < 2 ^ 40) : Fn PR B3 140 #[.string s] w (fun v w' => v = .int .i64 (m7 s : Nat) ∧ C1 [] w w') := by
 refine Fn.pure (B78 (TW.go (κ := false) (S := []) ?_))
 unfold B1Y
 (have zz:=trivial;repeat((first|clear zz|with_reducible first|refine A3 ?_|refine A4 fun _=>?_|refine A5 fun _=>?_);try simp(disch:=first|omega|assumption|((repeat(first|exact A1|exact uH|apply A2|apply uT));first|done|fail)|(simp;first|done|omega|fail))[]))
 rename_i bn
 refine G3 B5M (fun w' _ => C4F w' s) ?_
 rintro b v rfl
 have hnw : P4 s ≤ 2 ^ 39 := by unfold P4; omega
 refine A2a (C4K b s (by omega)) (by simp [B54]) (fun _ (_ : Unit) => True) (fun i _ => [.pt bn (.cells #[.int .u64 ((A2n s i : Nat) : Int)] 129)]) (fun _ (_ : Unit) => False) (fun _ => []) () trivial ?_ ?_ ?_ ?_
 ·intros; trivial
 ·rintro i hi _ F _ K' hK _
  have hi' : i < P4 s := by simpa using hi
  have h1 := B8w s i
  have h2 := A47 s (2 * i) 2
  simp only [List.getElem_map, List.getElem_range, B54, VF.app]
  (have zz:=trivial;repeat((first|clear zz|with_reducible first|refine A3 ?_|refine A4 fun _=>?_|refine A5 fun _=>?_);try simp(disch:=first|omega|assumption|((repeat(first|exact A1|exact uH|apply A2|apply uT));first|done|fail)|(simp;first|done|omega|fail))[]))
  refine TW.eqH ?_ (hK () trivial)
  simp [A2n]
 ·rintro _ _
  (have zz:=trivial;repeat((first|clear zz|with_reducible first|refine A3 ?_|refine A4 fun _=>?_|refine A5 fun _=>?_);try simp(disch:=first|omega|assumption|((repeat(first|exact A1|exact uH|apply A2|apply uT));first|done|fail)|(simp;first|done|omega|fail))[]))
  refine C8g (fun n : Nat => [.pt bn (.cells #[.int .u64 (n : Int)] 129)]) (fun n => fld n = m7 s ∧ n < 2 ^ 63) (fun n => n) _ ⟨by simp [m7], by have := B8w s (P4 s); simp; omega⟩ ?_
  rintro n ⟨h1, h2⟩ L hL
  by_cases h3 : n ≤ 65535
  ·have h4 : (n : Int) ≤ 65535 := by omega
   (have zz:=trivial;repeat((first|clear zz|with_reducible first|refine A3 ?_|refine A4 fun _=>?_|refine A5 fun _=>?_);try simp(disch:=first|omega|assumption|((repeat(first|exact A1|exact uH|apply A2|apply uT));first|done|fail)|(simp;first|done|omega|fail))[h4]))
   rw [C2Q h3] at h1
   exact A9 (by rw [h1])
  ·have h4 : ¬ (n : Int) ≤ 65535 := by omega
   have e1 : (n : Int).fdiv (2 ^ min 16 IntKind.u64.bits) = (n / 65536 : Nat) := by rw [show (2 : Int) ^ min 16 IntKind.u64.bits = 65536 from rfl, Int.fdiv_eq_ediv_of_nonneg _ (by omega)]; omega
   (have zz:=trivial;repeat((first|clear zz|with_reducible first|refine A3 ?_|refine A4 fun _=>?_|refine A5 fun _=>?_);try simp(disch:=first|omega|assumption|((repeat(first|exact A1|exact uH|apply A2|apply uT));first|done|fail)|(simp;first|done|omega|fail))[h4]))
   refine TW.eqH ?_ (hL (n / 65536 + n % 65536) ⟨by rw [C4S]; exact h1, by omega⟩ (by omega))
   rw [e1, C4e n (by omega), A0P (by omega) (by omega)]; simp
 ·rintro _ _ h; exact h.elim
def B30 (s : ByteArray) : Int := 65535 - m7 s
theorem C7K (w : World) (s : ByteArray) (hs : s.size < 2 ^ 40) : Fn PR B3 98 #[.string s] w (fun v w' => v = .int .i64 (B30 s) ∧ C1 [] w w') := by
 refine Fn.pure (C0W (TW.go (κ := false) (S := []) ?_))
 unfold B3V
 refine B8 A91 (fun w' _ => B86 w' s hs) ?_
 have := B2k (A2n s (P4 s))
 have h2 : ((m7 s : Nat) : Int) ≤ 65535 := by unfold m7; omega
 (have zz:=trivial;repeat((first|clear zz|with_reducible first|refine A3 ?_|refine A4 fun _=>?_|refine A5 fun _=>?_);try simp(disch:=first|omega|assumption|((repeat(first|exact A1|exact uH|apply A2|apply uT));first|done|fail)|(simp;first|done|omega|fail))[]))
 exact A9 rfl
theorem C6x (w : World) (s : ByteArray) (hs : s.size < 2 ^ 40) : Fn PR B3 193 #[.string s] w (fun v w' => v = .bool (decide (m7 s = 65535)) ∧ C1 [] w w') := by
 refine Fn.pure (B8K (TW.go (κ := false) (S := []) ?_))
 unfold B1U
 refine B8 A91 (fun w' _ => B86 w' s hs) ?_
 (have zz:=trivial;repeat((first|clear zz|with_reducible first|refine A3 ?_|refine A4 fun _=>?_|refine A5 fun _=>?_);try simp(disch:=first|omega|assumption|((repeat(first|exact A1|exact uH|apply A2|apply uT));first|done|fail)|(simp;first|done|omega|fail))[]))
 exact A9 (by simp; omega)
end Go.Proofs.YtpbmephflllolaaGreat
namespace Go.Proofs.YtpbmephflllolaaGreat
open Go
def gv (s : ByteArray) (a n : Nat) : Nat := if a + n ≤ s.size then Y3 s a n else 0
theorem A4G (s : ByteArray) (a n : Nat) (h1 : 1 ≤ n) (h8 : n ≤ 8) : A2L s a n = gv s a n := by
 unfold A2L gv
 by_cases h : a + n ≤ s.size
 ·rw [if_pos (by simp only [r3, decide_eq_true_eq]; omega), if_pos h]; simp
 ·rw [if_neg (by simp only [r3, decide_eq_true_eq]; omega), if_neg h]; rfl
theorem B3B (s : ByteArray) (a : Nat) : gv s a 1 < 256 := by
 unfold gv; split
 ·exact A47 s a 1
 ·omega
theorem f8 (s : ByteArray) (a : Nat) : gv s a 2 < 65536 := by
 unfold gv; split
 ·exact A47 s a 2
 ·omega
theorem A4L (w : World) (s : ByteArray) (hs : s.size < 2 ^ 63) (b a n : Nat) (h1 : 1 ≤ n) (h2 : n ≤ 2) (hc : w.cell? ⟨b, 0, none⟩ = some (.string s)) :
  Fn PR B3 187 #[.int .i64 (a : Int), .int .i64 (n : Int), .pointer (some ⟨b, 0, none⟩)] w (fun v w' => v = .int .i64 (gv s a n : Nat) ∧ C1 [] w w') := by
 refine Fn.pure (B2W (TW.go (κ := false) (S := []) ?_))
 unfold A6Y
 (have zz:=trivial;repeat((first|clear zz|with_reducible first|refine A3 ?_|refine A4 fun _=>?_|refine A5 fun _=>?_|refine D1 fun _=>?_|refine D0 (hK:=fun _=>?_)|refine D3 (hK:=fun _=>?_)|refine D2 (hK:=fun _=>?_)|refine D4 (hK:=fun _=>?_)|refine C9 (hK:=fun _=>?_));try simp(disch:=first|omega|assumption|((repeat(first|exact A1|exact uH|apply A2|apply uT));first|done|fail)|(simp;first|done|omega|fail))[hc]))
 refine B8 U4 (fun w' _ => A3B w' s (by omega) _ _) ?_
 rw [A4G s a n h1 (by omega)]
 have hlt : gv s a n < 65536 := by
  obtain rfl | rfl : n = 1 ∨ n = 2 := by omega
  ·have := B3B s a; omega
  ·exact f8 s a
 (have zz:=trivial;repeat((first|clear zz|with_reducible first|refine A3 ?_|refine A4 fun _=>?_|refine A5 fun _=>?_|refine D1 fun _=>?_|refine D0 (hK:=fun _=>?_)|refine D3 (hK:=fun _=>?_)|refine D2 (hK:=fun _=>?_)|refine D4 (hK:=fun _=>?_)|refine C9 (hK:=fun _=>?_));try simp(disch:=first|omega|assumption|((repeat(first|exact A1|exact uH|apply A2|apply uT));first|done|fail)|(simp;first|done|omega|fail))[]))
 exact A9 rfl
theorem C5r (w : World) (s : ByteArray) (hs : s.size < 2 ^ 63) (b : Nat) (hc : w.cell? ⟨b, 0, none⟩ = some (.string s)) :
  Fn PR B3 187 #[.int .i64 0, .int .i64 1, .pointer (some ⟨b, 0, none⟩)] w (fun v w' => v = .int .i64 (gv s 0 1 : Nat) ∧ C1 [] w w') := A4L w s hs b 0 1 (by omega) (by omega) hc
theorem C6a (w : World) (s : ByteArray) (hs : s.size < 2 ^ 63) (b : Nat) (hc : w.cell? ⟨b, 0, none⟩ = some (.string s)) :
  Fn PR B3 187 #[.int .i64 2, .int .i64 2, .pointer (some ⟨b, 0, none⟩)] w (fun v w' => v = .int .i64 (gv s 2 2 : Nat) ∧ C1 [] w w') := A4L w s hs b 2 2 (by omega) (by omega) hc
theorem C6V (w : World) (s : ByteArray) (hs : s.size < 2 ^ 63) (b : Nat) (hc : w.cell? ⟨b, 0, none⟩ = some (.string s)) :
  Fn PR B3 187 #[.int .i64 9, .int .i64 1, .pointer (some ⟨b, 0, none⟩)] w (fun v w' => v = .int .i64 (gv s 9 1 : Nat) ∧ C1 [] w w') := A4L w s hs b 9 1 (by omega) (by omega) hc
def B52 (x : Value × Int × Bool) : List Value := [x.1, .int .i64 x.2.1]
def A4d (l : List (Value × Int × Bool)) : Int := match l.find? (·.2.2) with | some x => x.2.1 | none => 0
theorem B8m {l : List (Value × Int × Bool)} (h : ∀ i (hi : i < l.length), l[i].2.2 = false) : A4d l = 0 := by
 have : l.find? (·.2.2) = none := by
  rw [List.find?_eq_none]; intro x hx; obtain ⟨i, hi, rfl⟩ := List.getElem_of_mem hx; simp [h i hi]
 simp [A4d, this]
theorem B8N {l : List (Value × Int × Bool)} {i : Nat} (hi : i < l.length) (hp : l[i].2.2 = true) (h : ∀ j (hj : j < i), (l[j]'(by omega)).2.2 = false) : A4d l = l[i].2.1 := by
 have : l.find? (·.2.2) = some l[i] := by
  rw [List.find?_eq_some_iff_getElem]
  exact ⟨hp, i, hi, rfl, fun j hj => by simp [h j hj]⟩
 simp [A4d, this]
theorem C4y (w : World) (v : Value) (l : List (Value × Int × Bool)) (hl : l.length < 1000) (hv : E3 w v l.length (l.flatMap B52))
  (hg : ∀ i (hi : i < l.length), (∀ j (hj : j < i), (l[j]'(by omega)).2.2 = false) → ∃ f cap, l[i].1 = .func (.func f) #[] cap ∧ B0 PR f ∧ ∀ w', KS false [] w w' → Fn PR B3 f cap w' (fun v w'' => v = .bool l[i].2.2 ∧ C1 [] w' w'')) :
  Fn PR B3 188 #[v] w (fun u w' => u = .int .i64 (A4d l) ∧ C1 [] w w') := by
 refine Fn.pure (B67 (TW.go (κ := false) (S := []) ?_))
 unfold A9T
 obtain ⟨a, c, rfl, hrow⟩ := hv.form
 (have zz:=trivial;repeat((first|clear zz|with_reducible first|refine A3 ?_|refine A4 fun _=>?_|refine A5 fun _=>?_|refine D1 fun _=>?_|refine D0 (hK:=fun _=>?_)|refine D3 (hK:=fun _=>?_)|refine D2 (hK:=fun _=>?_)|refine D4 (hK:=fun _=>?_)|refine C9 (hK:=fun _=>?_));try simp(disch:=first|omega|assumption|((repeat(first|exact A1|exact uH|apply A2|apply uT));first|done|fail)|(simp;first|done|omega|fail))[]))
 refine K8 (α := Unit) l.length (fun _ _ => .int .i64 0) (fun _ _ => []) (fun i _ => ∀ j (hj : j < i), ∀ (h : j < l.length), l[j].2.2 = false) () (by intro j hj; omega) ?_
 rintro i _ hi hpre L hL
 by_cases hlt : i < l.length
 ·obtain ⟨b, o, rfl, hr⟩ := hrow (by omega)
  have hx : l[i]? = some l[i] := List.getElem?_eq_getElem hlt
  have hrn := hr.at (f := B52) (k := 2) (fun _ => rfl) hx
  have hpre' : ∀ j (hj : j < i), (l[j]'(by omega)).2.2 = false := fun j hj => hpre j hj (by omega)
  obtain ⟨f, cap, he, hent, hcall⟩ := hg i hlt hpre'
  rw [B52, he] at hrn
  (have zz:=trivial;repeat((first|clear zz|with_reducible first|refine A3 ?_|refine A4 fun _=>?_|refine A5 fun _=>?_|refine D1 fun _=>?_|refine D0 (hK:=fun _=>?_)|refine D3 (hK:=fun _=>?_)|refine D2 (hK:=fun _=>?_)|refine D4 (hK:=fun _=>?_)|refine C9 (hK:=fun _=>?_));try simp(disch:=first|omega|assumption|((repeat(first|exact A1|exact uH|apply A2|apply uT));first|done|fail)|(simp;first|done|omega|fail))[hlt, hrn]))
  refine B37 hent (φ := fun v => v = .bool l[i].2.2) (fun w' hw' => by simpa using hcall w' hw'.ks) ?_
  rintro _ rfl
  cases hb : l[i].2.2 with
  | true =>
   (have zz:=trivial;repeat((first|clear zz|with_reducible first|refine A3 ?_|refine A4 fun _=>?_|refine A5 fun _=>?_|refine D1 fun _=>?_|refine D0 (hK:=fun _=>?_)|refine D3 (hK:=fun _=>?_)|refine D2 (hK:=fun _=>?_)|refine D4 (hK:=fun _=>?_)|refine C9 (hK:=fun _=>?_));try simp(disch:=first|omega|assumption|((repeat(first|exact A1|exact uH|apply A2|apply uT));first|done|fail)|(simp;first|done|omega|fail))[]))
   exact A9 (by rw [B8N hlt hb hpre'])
  | false =>
   (have zz:=trivial;repeat((first|clear zz|with_reducible first|refine A3 ?_|refine A4 fun _=>?_|refine A5 fun _=>?_|refine D1 fun _=>?_|refine D0 (hK:=fun _=>?_)|refine D3 (hK:=fun _=>?_)|refine D2 (hK:=fun _=>?_)|refine D4 (hK:=fun _=>?_)|refine C9 (hK:=fun _=>?_));try simp(disch:=first|omega|assumption|((repeat(first|exact A1|exact uH|apply A2|apply uT));first|done|fail)|(simp;first|done|omega|fail))[]))
   refine Sels.tw .nil (hL hlt () ?_)
   intro j hj h
   by_cases hji : j = i
   ·subst hji; exact hb
   ·exact hpre j (by omega) h
 ·obtain rfl : i = l.length := by omega
  (have zz:=trivial;repeat((first|clear zz|with_reducible first|refine A3 ?_|refine A4 fun _=>?_|refine A5 fun _=>?_|refine D1 fun _=>?_|refine D0 (hK:=fun _=>?_)|refine D3 (hK:=fun _=>?_)|refine D2 (hK:=fun _=>?_)|refine D4 (hK:=fun _=>?_)|refine C9 (hK:=fun _=>?_));try simp(disch:=first|omega|assumption|((repeat(first|exact A1|exact uH|apply A2|apply uT));first|done|fail)|(simp;first|done|omega|fail))[]))
  exact A9 (by rw [B8m fun j hj => hpre j hj hj])
structure HeadV where
 src : ByteArray
 dst : ByteArray
 proto : Nat
 rest : ByteArray
 e : Nat
abbrev Q8 : ByteArray := ByteArray.mk #[]
def HeadV.err (e : Nat) : HeadV := ⟨Q8, Q8, 0, Q8, e⟩
def HeadV.val (h : HeadV) : Value := .tuple #[.agg #[.string h.src, .string h.dst, .int .i64 h.proto], .string h.rest, .int .i64 h.e]
def K6 (s : ByteArray) : Nat := gv s 0 1 % 16 * 4
def A40 (s : ByteArray) : Nat := if s.size < 20 then 2 else if gv s 0 1 / 16 ≠ 4 then 3 else if K6 s < 20 ∨ s.size < K6 s ∨ gv s 2 2 < K6 s ∨ s.size < gv s 2 2 then 4
 else if m7 (s.extract 0 (K6 s)) ≠ 65535 then 5 else if gv s 6 2 % 16384 ≠ 0 then 6 else 0
def P5 (s : ByteArray) : HeadV := if A40 s = 0 then ⟨s.extract 12 16, s.extract 16 20, gv s 9 1, s.extract (K6 s) (gv s 2 2), 0⟩ else .err (A40 s)
theorem C8d (n : Nat) (h : n < 256) : IntKind.i64.wrap ((n % 2 ^ IntKind.i64.bits &&& 15 % 2 ^ IntKind.i64.bits : Nat) : Int) = ((n % 16 : Nat) : Int) := by
 rw [show (2 : Nat) ^ IntKind.i64.bits = 2 ^ 64 from rfl, Nat.mod_eq_of_lt (by omega), show 15 % 2 ^ 64 = 2 ^ 4 - 1 from rfl, Nat.and_two_pow_sub_one_eq_mod]
 exact V3 (by omega) (by omega)
theorem C9U (n : Nat) (h : n < 65536) : IntKind.i64.wrap ((n % 2 ^ IntKind.i64.bits &&& 16383 % 2 ^ IntKind.i64.bits : Nat) : Int) = ((n % 16384 : Nat) : Int) := by
 rw [show (2 : Nat) ^ IntKind.i64.bits = 2 ^ 64 from rfl, Nat.mod_eq_of_lt (by omega), show 16383 % 2 ^ 64 = 2 ^ 14 - 1 from rfl, Nat.and_two_pow_sub_one_eq_mod]
 exact V3 (by omega) (by omega)
section
variable (w : World) (s : ByteArray) (hs : s.size < 2 ^ 63) (b1 b5 b6 b7 : Nat) (h1 : w.cell? ⟨b1, 0, none⟩ = some (.string s)) (h5 : w.cell? ⟨b5, 0, none⟩ = some (.func (.func 187) #[] #[.pointer (some ⟨b1, 0, none⟩)]))
 (h6 : w.cell? ⟨b6, 0, none⟩ = some (.int .i64 (K6 s : Nat))) (h7 : w.cell? ⟨b7, 0, none⟩ = some (.int .i64 (gv s 2 2 : Nat)))
include h1
theorem C9q : Fn PR B3 189 #[.pointer (some ⟨b1, 0, none⟩)] w (fun v w' => v = .bool (decide (s.size < 20)) ∧ C1 [] w w') := by
 refine Fn.pure (B2v (TW.go (κ := false) (S := []) ?_))
 unfold A6K
 (have zz:=trivial;repeat((first|clear zz|with_reducible first|refine A3 ?_|refine A4 fun _=>?_|refine A5 fun _=>?_|refine D1 fun _=>?_|refine D0 (hK:=fun _=>?_)|refine D3 (hK:=fun _=>?_)|refine D2 (hK:=fun _=>?_)|refine D4 (hK:=fun _=>?_)|refine C9 (hK:=fun _=>?_));try simp(disch:=first|omega|assumption|((repeat(first|exact A1|exact uH|apply A2|apply uT));first|done|fail)|(simp;first|done|omega|fail))[h1]))
 exact A9 (by simp; omega)
include hs h5
theorem C8Z : Fn PR B3 190 #[.pointer (some ⟨b5, 0, none⟩)] w (fun v w' => v = .bool (decide (gv s 0 1 / 16 ≠ 4)) ∧ C1 [] w w') := by
 refine Fn.pure (B28 (TW.go (κ := false) (S := []) ?_))
 unfold A56
 (have zz:=trivial;repeat((first|clear zz|with_reducible first|refine A3 ?_|refine A4 fun _=>?_|refine A5 fun _=>?_|refine D1 fun _=>?_|refine D0 (hK:=fun _=>?_)|refine D3 (hK:=fun _=>?_)|refine D2 (hK:=fun _=>?_)|refine D4 (hK:=fun _=>?_)|refine C9 (hK:=fun _=>?_));try simp(disch:=first|omega|assumption|((repeat(first|exact A1|exact uH|apply A2|apply uT));first|done|fail)|(simp;first|done|omega|fail))[h1, h5]))
 refine B8 r4 (fun w' hw' => A4L w' s hs b1 0 1 (by omega) (by omega) (hw'.ks.cell (by simp) h1)) ?_
 have e1 : ((gv s 0 1 : Nat) : Int).fdiv (2 ^ min 4 IntKind.i64.bits) = (gv s 0 1 / 16 : Nat) := by rw [show (2 : Int) ^ min 4 IntKind.i64.bits = 16 from rfl, Int.fdiv_eq_ediv_of_nonneg _ (by omega)]; omega
 (have zz:=trivial;repeat((first|clear zz|with_reducible first|refine A3 ?_|refine A4 fun _=>?_|refine A5 fun _=>?_|refine D1 fun _=>?_|refine D0 (hK:=fun _=>?_)|refine D3 (hK:=fun _=>?_)|refine D2 (hK:=fun _=>?_)|refine D4 (hK:=fun _=>?_)|refine C9 (hK:=fun _=>?_));try simp(disch:=first|omega|assumption|((repeat(first|exact A1|exact uH|apply A2|apply uT));first|done|fail)|(simp;first|done|omega|fail))[]))
 rw [e1]
 exact A9 (by simp; omega)
theorem C8p : Fn PR B3 194 #[.pointer (some ⟨b5, 0, none⟩)] w (fun v w' => v = .bool (decide (gv s 6 2 % 16384 ≠ 0)) ∧ C1 [] w w') := by
 refine Fn.pure (B3H (TW.go (κ := false) (S := []) ?_))
 unfold A6G
 (have zz:=trivial;repeat((first|clear zz|with_reducible first|refine A3 ?_|refine A4 fun _=>?_|refine A5 fun _=>?_|refine D1 fun _=>?_|refine D0 (hK:=fun _=>?_)|refine D3 (hK:=fun _=>?_)|refine D2 (hK:=fun _=>?_)|refine D4 (hK:=fun _=>?_)|refine C9 (hK:=fun _=>?_));try simp(disch:=first|omega|assumption|((repeat(first|exact A1|exact uH|apply A2|apply uT));first|done|fail)|(simp;first|done|omega|fail))[h1, h5]))
 refine B8 r4 (fun w' hw' => A4L w' s hs b1 6 2 (by omega) (by omega) (hw'.ks.cell (by simp) h1)) ?_
 have := f8 s 6
 (have zz:=trivial;repeat((first|clear zz|with_reducible first|refine A3 ?_|refine A4 fun _=>?_|refine A5 fun _=>?_|refine D1 fun _=>?_|refine D0 (hK:=fun _=>?_)|refine D3 (hK:=fun _=>?_)|refine D2 (hK:=fun _=>?_)|refine D4 (hK:=fun _=>?_)|refine C9 (hK:=fun _=>?_));try simp(disch:=first|omega|assumption|((repeat(first|exact A1|exact uH|apply A2|apply uT));first|done|fail)|(simp;first|done|omega|fail))[]))
 rw [C9U _ this]
 exact A9 (by simp; omega)
omit h5
include h6
omit hs in
theorem D0L (hl : K6 s ≤ s.size) : Fn PR B3 192 #[.pointer (some ⟨b1, 0, none⟩), .pointer (some ⟨b6, 0, none⟩)] w (fun v w' => v = .bool (decide (m7 (s.extract 0 (K6 s)) ≠ 65535)) ∧ C1 [] w w') := by
 refine Fn.pure (B2c (TW.go (κ := false) (S := []) ?_))
 unfold A57
 have hl' : ((K6 s : Nat) : Int) ≤ s.size := by omega
 have hl60 : K6 s ≤ 60 := by unfold K6; omega
 (have zz:=trivial;repeat((first|clear zz|with_reducible first|refine A3 ?_|refine A4 fun _=>?_|refine A5 fun _=>?_|refine D1 fun _=>?_|refine D0 (hK:=fun _=>?_)|refine D3 (hK:=fun _=>?_)|refine D2 (hK:=fun _=>?_)|refine D4 (hK:=fun _=>?_)|refine C9 (hK:=fun _=>?_));try simp(disch:=first|omega|assumption|((repeat(first|exact A1|exact uH|apply A2|apply uT));first|done|fail)|(simp;first|done|omega|fail))[h1, h6]))
 refine B8 B7K (fun w' hw' => C6x w' _ (by simp [ByteArray.size_extract]; omega)) ?_
 (have zz:=trivial;repeat((first|clear zz|with_reducible first|refine A3 ?_|refine A4 fun _=>?_|refine A5 fun _=>?_|refine D1 fun _=>?_|refine D0 (hK:=fun _=>?_)|refine D3 (hK:=fun _=>?_)|refine D2 (hK:=fun _=>?_)|refine D4 (hK:=fun _=>?_)|refine C9 (hK:=fun _=>?_));try simp(disch:=first|omega|assumption|((repeat(first|exact A1|exact uH|apply A2|apply uT));first|done|fail)|(simp;first|done|omega|fail))[]))
 exact A9 (by simp)
include h7
theorem C94 : Fn PR B3 191 #[.pointer (some ⟨b6, 0, none⟩), .pointer (some ⟨b1, 0, none⟩), .pointer (some ⟨b7, 0, none⟩)] w
  (fun v w' => v = .bool (decide (K6 s < 20 ∨ s.size < K6 s ∨ gv s 2 2 < K6 s ∨ s.size < gv s 2 2)) ∧ C1 [] w w') := by
 have hs_ := hs
 refine Fn.pure (B2z (TW.go (κ := false) (S := []) ?_))
 unfold A58
 by_cases g1 : K6 s < 20
 ·have g1' : ((K6 s : Nat) : Int) < 20 := by omega
  (have zz:=trivial;repeat((first|clear zz|with_reducible first|refine A3 ?_|refine A4 fun _=>?_|refine A5 fun _=>?_|refine D1 fun _=>?_|refine D0 (hK:=fun _=>?_)|refine D3 (hK:=fun _=>?_)|refine D2 (hK:=fun _=>?_)|refine D4 (hK:=fun _=>?_)|refine C9 (hK:=fun _=>?_));try simp(disch:=first|omega|assumption|((repeat(first|exact A1|exact uH|apply A2|apply uT));first|done|fail)|(simp;first|done|omega|fail))[h1, h6, h7, g1, g1']))
  exact A9 (by simp [g1])
 have g1' : ¬ ((K6 s : Nat) : Int) < 20 := by omega
 by_cases g2 : s.size < K6 s
 ·have g2' : ((s.size : Nat) : Int) < K6 s := by omega
  (have zz:=trivial;repeat((first|clear zz|with_reducible first|refine A3 ?_|refine A4 fun _=>?_|refine A5 fun _=>?_|refine D1 fun _=>?_|refine D0 (hK:=fun _=>?_)|refine D3 (hK:=fun _=>?_)|refine D2 (hK:=fun _=>?_)|refine D4 (hK:=fun _=>?_)|refine C9 (hK:=fun _=>?_));try simp(disch:=first|omega|assumption|((repeat(first|exact A1|exact uH|apply A2|apply uT));first|done|fail)|(simp;first|done|omega|fail))[h1, h6, h7, g1, g1', g2, g2']))
  exact A9 (by simp [g2])
 have g2' : ¬ ((s.size : Nat) : Int) < K6 s := by omega
 by_cases g3 : gv s 2 2 < K6 s
 ·have g3' : ((gv s 2 2 : Nat) : Int) < K6 s := by omega
  (have zz:=trivial;repeat((first|clear zz|with_reducible first|refine A3 ?_|refine A4 fun _=>?_|refine A5 fun _=>?_|refine D1 fun _=>?_|refine D0 (hK:=fun _=>?_)|refine D3 (hK:=fun _=>?_)|refine D2 (hK:=fun _=>?_)|refine D4 (hK:=fun _=>?_)|refine C9 (hK:=fun _=>?_));try simp(disch:=first|omega|assumption|((repeat(first|exact A1|exact uH|apply A2|apply uT));first|done|fail)|(simp;first|done|omega|fail))[h1, h6, h7, g1, g1', g2, g2', g3, g3']))
  exact A9 (by simp [g3])
 have g3' : ¬ ((gv s 2 2 : Nat) : Int) < K6 s := by omega
 (have zz:=trivial;repeat((first|clear zz|with_reducible first|refine A3 ?_|refine A4 fun _=>?_|refine A5 fun _=>?_|refine D1 fun _=>?_|refine D0 (hK:=fun _=>?_)|refine D3 (hK:=fun _=>?_)|refine D2 (hK:=fun _=>?_)|refine D4 (hK:=fun _=>?_)|refine C9 (hK:=fun _=>?_));try simp(disch:=first|omega|assumption|((repeat(first|exact A1|exact uH|apply A2|apply uT));first|done|fail)|(simp;first|done|omega|fail))[h1, h6, h7, g1, g1', g2, g2', g3, g3']))
 exact A9 (by simp [g1, g2, g3])
end
theorem B8a (w : World) (s : ByteArray) (hs : s.size < 2 ^ 63) : Fn PR B3 143 #[.string s] w (fun v w' => v = (P5 s).val ∧ C1 [] w w') := by
 refine Fn.pure (B6l (TW.go (κ := false) (S := []) ?_))
 unfold B0V
 (have zz:=trivial;repeat((first|clear zz|with_reducible first|refine A3 ?_|refine A4 fun _=>?_|refine A5 fun _=>?_|refine D1 fun _=>?_|refine D0 (hK:=fun _=>?_)|refine D3 (hK:=fun _=>?_)|refine D2 (hK:=fun _=>?_)|refine D4 (hK:=fun _=>?_)|refine C9 (hK:=fun _=>?_));try simp(disch:=first|omega|assumption|((repeat(first|exact A1|exact uH|apply A2|apply uT));first|done|fail)|(simp;first|done|omega|fail))[]))
 rename_i b1 b2 b5
 refine C0b (α := Nat × Nat) (fun _ => True) (fun x => [.pt x.1 (.cells #[.int .i64 (K6 s : Nat)] 3), .pt x.2 (.cells #[.int .i64 (gv s 2 2 : Nat)] 3),
  .pt b5 (.cells #[.func (.func 187) #[] #[.pointer (some ⟨b1, 0, none⟩)]] 149), .pt b2 (.cells #[.string Q8, .string Q8, .int .i64 0] 124), .pt b1 (.cells #[.string s] 9)])
  (fun x => .pointer (some ⟨x.1, 0, none⟩)) (fun x => .pointer (some ⟨x.2, 0, none⟩)) ?_ ?_
 ·rintro ⟨b6, b7⟩ _
  simp only
  (have zz:=trivial;repeat((first|clear zz|with_reducible first|refine A3 ?_|refine A4 fun _=>?_|refine A5 fun _=>?_|refine D1 fun _=>?_|refine D0 (hK:=fun _=>?_)|refine D3 (hK:=fun _=>?_)|refine D2 (hK:=fun _=>?_)|refine D4 (hK:=fun _=>?_)|refine C9 (hK:=fun _=>?_));try simp(disch:=first|omega|assumption|((repeat(first|exact A1|exact uH|apply A2|apply uT));first|done|fail)|(simp;first|done|omega|fail))[]))
  rename_i bl
  refine B8 (u := .int .i64 (A40 s : Nat)) B5N (fun w' hw' => ?_) ?_
  ·have h1 := hw'.cell1 (b := b1) (by (repeat constructor))
   have h5 := hw'.cell1 (b := b5) (by (repeat constructor))
   have h6 := hw'.cell1 (b := b6) (by (repeat constructor))
   have h7 := hw'.cell1 (b := b7) (by (repeat constructor))
   have hk : ∀ {w2 : World} {b : Nat} {v : Value}, KS false [] w' w2 → w'.cell? ⟨b, 0, none⟩ = some v → w2.cell? ⟨b, 0, none⟩ = some v := fun h e => h.cell (by simp) e
   have hE : A4d [(.func (.func 189) #[] #[.pointer (some ⟨b1, 0, none⟩)], 2, decide (s.size < 20)), (.func (.func 190) #[] #[.pointer (some ⟨b5, 0, none⟩)], 3, decide (gv s 0 1 / 16 ≠ 4)),
    (.func (.func 191) #[] #[.pointer (some ⟨b6, 0, none⟩), .pointer (some ⟨b1, 0, none⟩), .pointer (some ⟨b7, 0, none⟩)], 4, decide (K6 s < 20 ∨ s.size < K6 s ∨ gv s 2 2 < K6 s ∨ s.size < gv s 2 2)),
    (.func (.func 192) #[] #[.pointer (some ⟨b1, 0, none⟩), .pointer (some ⟨b6, 0, none⟩)], 5, decide (m7 (s.extract 0 (K6 s)) ≠ 65535)), (.func (.func 194) #[] #[.pointer (some ⟨b5, 0, none⟩)], 6, decide (gv s 6 2 % 16384 ≠ 0))] = (A40 s : Nat) := by
    unfold A4d A40
    by_cases c1 : s.size < 20
    ·simp [c1]
    by_cases c2 : gv s 0 1 / 16 ≠ 4
    ·simp [c1, c2]
    by_cases c3 : K6 s < 20 ∨ s.size < K6 s ∨ gv s 2 2 < K6 s ∨ s.size < gv s 2 2
    ·simp [c1, c2, c3]
    by_cases c4 : m7 (s.extract 0 (K6 s)) ≠ 65535
    ·simp [c1, c2, c3, c4]
    by_cases c5 : gv s 6 2 % 16384 ≠ 0
    ·simp [c1, c2, c3, c4, c5]
    ·simp [c1, c2, c3, c4, c5]
   rw [← hE]
   refine C4y w' _ _ (by simp) ?_ ?_
   ·have := K3.own (κ := false) (S := []) (w0 := w) (e := 296) (k := 2) (q := 5) (v := .slice (some ⟨bl, 0, none⟩) 5 5) (by (repeat constructor)) w' hw'
    simpa [B52] using this
   ·intro i hi hpre
    have hi' : i = 0 ∨ i = 1 ∨ i = 2 ∨ i = 3 ∨ i = 4 := by simp at hi; omega
    rcases hi' with rfl | rfl | rfl | rfl | rfl
    ·exact ⟨_, _, rfl, B1p, fun w2 h => C9q w2 s b1 (hk h h1)⟩
    ·exact ⟨_, _, rfl, B1x, fun w2 h => C8Z w2 s hs b1 b5 (hk h h1) (hk h h5)⟩
    ·exact ⟨_, _, rfl, B2E, fun w2 h => C94 w2 s hs b1 b6 b7 (hk h h1) (hk h h6) (hk h h7)⟩
    ·have h2 := hpre 2 (by omega)
     simp only [List.getElem_cons_succ, List.getElem_cons_zero, decide_eq_false_iff_not] at h2
     exact ⟨_, _, rfl, B2C, fun w2 h => D0L w2 s b1 b6 (hk h h1) (hk h h6) (by omega)⟩
    ·exact ⟨_, _, rfl, B1c, fun w2 h => C8p w2 s hs b1 b5 (hk h h1) (hk h h5)⟩
  ·by_cases he : A40 s = 0
   ·have hE := he
    unfold A40 at hE
    by_cases c1 : s.size < 20
    ·simp [c1] at hE
    by_cases c2 : gv s 0 1 / 16 ≠ 4
    ·simp [c1, c2] at hE
    by_cases c3 : K6 s < 20 ∨ s.size < K6 s ∨ gv s 2 2 < K6 s ∨ s.size < gv s 2 2
    ·simp [c1, c2, c3] at hE
    clear hE
    have hg91 := B3B s 9
    (have zz:=trivial;repeat((first|clear zz|with_reducible first|refine A3 ?_|refine A4 fun _=>?_|refine A5 fun _=>?_|refine D1 fun _=>?_|refine D0 (hK:=fun _=>?_)|refine D3 (hK:=fun _=>?_)|refine D2 (hK:=fun _=>?_)|refine D4 (hK:=fun _=>?_)|refine C9 (hK:=fun _=>?_));try simp(disch:=first|omega|assumption|((repeat(first|exact A1|exact uH|apply A2|apply uT));first|done|fail)|(simp;first|done|omega|fail))[he]))
    refine B8 r4 (fun w' hw' => C6V w' s hs b1 (hw'.cell1 (by (repeat constructor)))) ?_
    (have zz:=trivial;repeat((first|clear zz|with_reducible first|refine A3 ?_|refine A4 fun _=>?_|refine A5 fun _=>?_|refine D1 fun _=>?_|refine D0 (hK:=fun _=>?_)|refine D3 (hK:=fun _=>?_)|refine D2 (hK:=fun _=>?_)|refine D4 (hK:=fun _=>?_)|refine C9 (hK:=fun _=>?_));try simp(disch:=first|omega|assumption|((repeat(first|exact A1|exact uH|apply A2|apply uT));first|done|fail)|(simp;first|done|omega|fail))[]))
    exact A9 (by simp [P5, he, HeadV.val])
   ·(have zz:=trivial;repeat((first|clear zz|with_reducible first|refine A3 ?_|refine A4 fun _=>?_|refine A5 fun _=>?_|refine D1 fun _=>?_|refine D0 (hK:=fun _=>?_)|refine D3 (hK:=fun _=>?_)|refine D2 (hK:=fun _=>?_)|refine D4 (hK:=fun _=>?_)|refine C9 (hK:=fun _=>?_));try simp(disch:=first|omega|assumption|((repeat(first|exact A1|exact uH|apply A2|apply uT));first|done|fail)|(simp;first|done|omega|fail))[he]))
    exact A9 (by simp [P5, he, HeadV.val, HeadV.err])
 ·intro J hJ
  have hl := B3B s 0
  have e15 := C8d _ hl
  have em : ((gv s 0 1 : Nat) : Int) % 16 * 4 = (K6 s : Nat) := by simp [K6]
  have hJ' := fun b6 b7 => hJ (b6, b7) trivial
  simp only at hJ'
  clear hJ
  iterate 16 all_goals (try (first
   | exact fun _ _ => trivial
   | with_reducible refine And.intro ?_ ?_
   | (with_reducible apply B8 r4); (first | with_reducible exact fun w' hw' => C5r w' s hs b1 (hw'.cell1 (by ((repeat (first | exact A1 | exact Up.here | exact Sel.here | apply A2 | apply Up.there | apply Sel.there)); first | done | fail))) | with_reducible exact fun w' hw' => C6a w' s hs b1 (hw'.cell1 (by ((repeat (first | exact A1 | exact Up.here | exact Sel.here | apply A2 | apply Up.there | apply Sel.there)); first | done | fail))))
   | with_reducible refine A5 fun _ => ?_
   | simp(disch:=first|omega|assumption|((repeat(first|exact A1|exact uH|apply A2|apply uT));first|done|fail)|(simp;first|done|omega|fail))[e15, em]
   | with_reducible exact Sels.tw (by ((repeat (first | exact Sels.nil | (apply Sels.cons; · ((repeat (first | exact A1 | exact Up.here | exact Sel.here | apply A2 | apply Up.there | apply Sel.there)); first | done | fail)))); first | done | fail)) (hJ' _ _)))
  all_goals trace_state
def A8w (src dst : ByteArray) (proto : Int) (n : Nat) (own : Int) : ByteArray :=
 ByteArray.mk #[69, 0] ++ E4 (20 + n) 2 ++ ByteArray.mk #[0, 0, 64, 0, 64] ++ E4 proto 1 ++ E4 own 2 ++ src ++ dst
theorem C0x (w : World) (src dst rest : ByteArray) (proto own : Int) (b1 b2 : Nat) (h1 : w.cell? ⟨b1, 0, none⟩ = some (.string rest)) (h2 : w.cell? ⟨b2, 0, none⟩ = some (.string src)) (h3 : w.cell? ⟨b2, 1, none⟩ = some (.string dst))
  (h4 : w.cell? ⟨b2, 2, none⟩ = some (.int .i64 proto)) (hr : rest.size ≤ 65515) (hs : src.size = 4) (hd : dst.size = 4) (hp0 : 0 ≤ proto) (hp : proto ≤ 255) (ho0 : 0 ≤ own) (ho : own ≤ 65535) :
  Fn PR B3 97 #[.int .i64 own, .pointer (some ⟨b1, 0, none⟩), .pointer (some ⟨b2, 0, none⟩)] w (fun v w' => v = .string (A8w src dst proto rest.size own) ∧ C1 [] w w') := by
 refine Fn.pure (B5n (TW.go (κ := false) (S := []) ?_))
 unfold A86
 (have zz:=trivial;repeat((first|clear zz|with_reducible first|refine A3 ?_|refine A4 fun _=>?_|refine A5 fun _=>?_|refine D1 fun _=>?_|refine D0 (hK:=fun _=>?_)|refine D3 (hK:=fun _=>?_)|refine D2 (hK:=fun _=>?_)|refine D4 (hK:=fun _=>?_)|refine C9 (hK:=fun _=>?_));try simp(disch:=first|omega|assumption|((repeat(first|exact A1|exact uH|apply A2|apply uT));first|done|fail)|(simp;first|done|omega|fail))[h1, h2, h3, h4]))
 refine B8 G8 (fun w' hw' => d9 w' _ _) ?_
 (have zz:=trivial;repeat((first|clear zz|with_reducible first|refine A3 ?_|refine A4 fun _=>?_|refine A5 fun _=>?_|refine D1 fun _=>?_|refine D0 (hK:=fun _=>?_)|refine D3 (hK:=fun _=>?_)|refine D2 (hK:=fun _=>?_)|refine D4 (hK:=fun _=>?_)|refine C9 (hK:=fun _=>?_));try simp(disch:=first|omega|assumption|((repeat(first|exact A1|exact uH|apply A2|apply uT));first|done|fail)|(simp;first|done|omega|fail))[h1, h2, h3, h4, P0]))
 refine B8 G8 (fun w' hw' => d9 w' _ _) ?_
 (have zz:=trivial;repeat((first|clear zz|with_reducible first|refine A3 ?_|refine A4 fun _=>?_|refine A5 fun _=>?_|refine D1 fun _=>?_|refine D0 (hK:=fun _=>?_)|refine D3 (hK:=fun _=>?_)|refine D2 (hK:=fun _=>?_)|refine D4 (hK:=fun _=>?_)|refine C9 (hK:=fun _=>?_));try simp(disch:=first|omega|assumption|((repeat(first|exact A1|exact uH|apply A2|apply uT));first|done|fail)|(simp;first|done|omega|fail))[h1, h2, h3, h4, P0]))
 refine B8 G8 (fun w' hw' => d9 w' _ _) ?_
 (have zz:=trivial;repeat((first|clear zz|with_reducible first|refine A3 ?_|refine A4 fun _=>?_|refine A5 fun _=>?_|refine D1 fun _=>?_|refine D0 (hK:=fun _=>?_)|refine D3 (hK:=fun _=>?_)|refine D2 (hK:=fun _=>?_)|refine D4 (hK:=fun _=>?_)|refine C9 (hK:=fun _=>?_));try simp(disch:=first|omega|assumption|((repeat(first|exact A1|exact uH|apply A2|apply uT));first|done|fail)|(simp;first|done|omega|fail))[h1, h2, h3, h4, P0, hs, hd]))
 exact A9 rfl
def A8u (src dst rest : ByteArray) (proto : Int) : ByteArray × Nat :=
 if src.size ≠ 4 ∨ dst.size ≠ 4 ∨ proto < 0 ∨ 255 < proto then (Q8, 1) else if 65515 < rest.size then (Q8, 4) else (A8w src dst proto rest.size (B30 (A8w src dst proto rest.size 0)) ++ rest, 0)
theorem B42 {src dst : ByteArray} {proto own : Int} {n : Nat} (hs : src.size = 4) (hd : dst.size = 4) : (A8w src dst proto n own).size = 20 := by simp [A8w, hs, hd]
theorem C6N (s : ByteArray) : 0 ≤ B30 s ∧ B30 s ≤ 65535 := by
 have := B2k (A2n s (P4 s)); unfold B30 m7; omega
theorem C2U (w : World) (src dst rest : ByteArray) (proto : Int) (hrs : rest.size < 2 ^ 40) :
  Fn PR B3 53 #[.agg #[.string src, .string dst, .int .i64 proto], .string rest] w (fun v w' => v = .tuple #[.string (A8u src dst rest proto).1, .int .i64 (A8u src dst rest proto).2] ∧ C1 [] w w') := by
 refine Fn.pure (C01 (TW.go (κ := false) (S := []) ?_))
 unfold B24
 by_cases c1 : src.size = 4
 case neg =>
  have c1' : ¬ (src.size : Int) = 4 := by omega
  (have zz:=trivial;repeat((first|clear zz|with_reducible first|refine A3 ?_|refine A4 fun _=>?_|refine A5 fun _=>?_|refine D1 fun _=>?_|refine D0 (hK:=fun _=>?_)|refine D3 (hK:=fun _=>?_)|refine D2 (hK:=fun _=>?_)|refine D4 (hK:=fun _=>?_)|refine C9 (hK:=fun _=>?_));try simp(disch:=first|omega|assumption|((repeat(first|exact A1|exact uH|apply A2|apply uT));first|done|fail)|(simp;first|done|omega|fail))[c1'])); exact A9 (by simp [A8u, c1])
 by_cases c2 : dst.size = 4
 case neg =>
  have c2' : ¬ (dst.size : Int) = 4 := by omega
  (have zz:=trivial;repeat((first|clear zz|with_reducible first|refine A3 ?_|refine A4 fun _=>?_|refine A5 fun _=>?_|refine D1 fun _=>?_|refine D0 (hK:=fun _=>?_)|refine D3 (hK:=fun _=>?_)|refine D2 (hK:=fun _=>?_)|refine D4 (hK:=fun _=>?_)|refine C9 (hK:=fun _=>?_));try simp(disch:=first|omega|assumption|((repeat(first|exact A1|exact uH|apply A2|apply uT));first|done|fail)|(simp;first|done|omega|fail))[c1, c2'])); exact A9 (by simp [A8u, c2])
 by_cases c3 : proto < 0
 ·(have zz:=trivial;repeat((first|clear zz|with_reducible first|refine A3 ?_|refine A4 fun _=>?_|refine A5 fun _=>?_|refine D1 fun _=>?_|refine D0 (hK:=fun _=>?_)|refine D3 (hK:=fun _=>?_)|refine D2 (hK:=fun _=>?_)|refine D4 (hK:=fun _=>?_)|refine C9 (hK:=fun _=>?_));try simp(disch:=first|omega|assumption|((repeat(first|exact A1|exact uH|apply A2|apply uT));first|done|fail)|(simp;first|done|omega|fail))[c1, c2, c3])); exact A9 (by simp [A8u, c3])
 by_cases c4 : 255 < proto
 ·(have zz:=trivial;repeat((first|clear zz|with_reducible first|refine A3 ?_|refine A4 fun _=>?_|refine A5 fun _=>?_|refine D1 fun _=>?_|refine D0 (hK:=fun _=>?_)|refine D3 (hK:=fun _=>?_)|refine D2 (hK:=fun _=>?_)|refine D4 (hK:=fun _=>?_)|refine C9 (hK:=fun _=>?_));try simp(disch:=first|omega|assumption|((repeat(first|exact A1|exact uH|apply A2|apply uT));first|done|fail)|(simp;first|done|omega|fail))[c1, c2, c3, c4])); exact A9 (by simp [A8u, c4])
 by_cases c5 : 65515 < rest.size
 ·have c5' : 65515 < (rest.size : Int) := by omega
  (have zz:=trivial;repeat((first|clear zz|with_reducible first|refine A3 ?_|refine A4 fun _=>?_|refine A5 fun _=>?_|refine D1 fun _=>?_|refine D0 (hK:=fun _=>?_)|refine D3 (hK:=fun _=>?_)|refine D2 (hK:=fun _=>?_)|refine D4 (hK:=fun _=>?_)|refine C9 (hK:=fun _=>?_));try simp(disch:=first|omega|assumption|((repeat(first|exact A1|exact uH|apply A2|apply uT));first|done|fail)|(simp;first|done|omega|fail))[c1, c2, c3, c4, c5'])); exact A9 (by simp [A8u, c1, c2, c3, c4, c5])
 have c5' : ¬ 65515 < (rest.size : Int) := by omega
 (have zz:=trivial;repeat((first|clear zz|with_reducible first|refine A3 ?_|refine A4 fun _=>?_|refine A5 fun _=>?_|refine D1 fun _=>?_|refine D0 (hK:=fun _=>?_)|refine D3 (hK:=fun _=>?_)|refine D2 (hK:=fun _=>?_)|refine D4 (hK:=fun _=>?_)|refine C9 (hK:=fun _=>?_));try simp(disch:=first|omega|assumption|((repeat(first|exact A1|exact uH|apply A2|apply uT));first|done|fail)|(simp;first|done|omega|fail))[c1, c2, c3, c4, c5']))
 rename_i bh br
 have key : ∀ w', LW false [] w [.pt br (.cells #[.string rest] 9), .pt bh (.cells #[.string src, .string dst, .int .i64 proto] 124)] w' → ∀ own : Int, 0 ≤ own → own ≤ 65535 → _ :=
  fun w' hw' own h0 h1 => C0x w' src dst rest proto own br bh (hw'.cell1 (by (repeat constructor))) (hw'.cell (by (repeat constructor)) (by rfl)) (hw'.cell (by (repeat constructor)) (by rfl)) (hw'.cell (by (repeat constructor)) (by rfl)) (by omega) c1 c2 (by omega) (by omega) h0 h1
 refine B8 A7g (fun w' hw' => key w' hw' 0 (by omega) (by omega)) ?_
 (have zz:=trivial;repeat((first|clear zz|with_reducible first|refine A3 ?_|refine A4 fun _=>?_|refine A5 fun _=>?_|refine D1 fun _=>?_|refine D0 (hK:=fun _=>?_)|refine D3 (hK:=fun _=>?_)|refine D2 (hK:=fun _=>?_)|refine D4 (hK:=fun _=>?_)|refine C9 (hK:=fun _=>?_));try simp(disch:=first|omega|assumption|((repeat(first|exact A1|exact uH|apply A2|apply uT));first|done|fail)|(simp;first|done|omega|fail))[]))
 have hz : (A8w src dst proto rest.size 0).size = 20 := B42 c1 c2
 have hv := C6N (A8w src dst proto rest.size 0)
 refine B8 B8d (fun w' hw' => C7K w' _ (by omega)) ?_
 (have zz:=trivial;repeat((first|clear zz|with_reducible first|refine A3 ?_|refine A4 fun _=>?_|refine A5 fun _=>?_|refine D1 fun _=>?_|refine D0 (hK:=fun _=>?_)|refine D3 (hK:=fun _=>?_)|refine D2 (hK:=fun _=>?_)|refine D4 (hK:=fun _=>?_)|refine C9 (hK:=fun _=>?_));try simp(disch:=first|omega|assumption|((repeat(first|exact A1|exact uH|apply A2|apply uT));first|done|fail)|(simp;first|done|omega|fail))[]))
 refine B8 A7g (fun w' hw' => key w' hw' _ hv.1 hv.2) ?_
 have hz2 : (A8w src dst proto rest.size (B30 (A8w src dst proto rest.size 0))).size = 20 := B42 c1 c2
 (have zz:=trivial;repeat((first|clear zz|with_reducible first|refine A3 ?_|refine A4 fun _=>?_|refine A5 fun _=>?_|refine D1 fun _=>?_|refine D0 (hK:=fun _=>?_)|refine D3 (hK:=fun _=>?_)|refine D2 (hK:=fun _=>?_)|refine D4 (hK:=fun _=>?_)|refine C9 (hK:=fun _=>?_));try simp(disch:=first|omega|assumption|((repeat(first|exact A1|exact uH|apply A2|apply uT));first|done|fail)|(simp;first|done|omega|fail))[P0]))
 exact A9 (by simp [A8u, c1, c2, c3, c4, c5])
end Go.Proofs.YtpbmephflllolaaGreat
namespace Go.Proofs.YtpbmephflllolaaGreat
open Go
def A8l : List Nat → ByteArray → List ByteArray
 | [], s => [s]
 | n :: ns, s => s.extract 0 n :: A8l ns (s.extract n s.size)
theorem C7d (w : World) (v : Value) (ns : List Nat) (s : ByteArray) (hn : ns.length < 100) (hv : E3 w v ns.length (ns.map fun n : Nat => Value.int .i64 (n : Int))) (hs : ns.sum ≤ s.size) (hs2 : s.size < 2 ^ 63) :
  Fn PR B3 195 #[.string s, v] w (Rn [] w (fun v u => u = v) fun v => [.own 9 1 v (ns.length + 1) ((A8l ns s).map .string)]) := by
 refine B92 (TW.go (κ := false) (S := []) ?_)
 unfold B25
 obtain ⟨a, c, rfl, hrow⟩ := hv.form
 (have zz:=trivial;repeat((first|clear zz|with_reducible first|refine A3 ?_|refine A4 fun _=>?_|refine A5 fun _=>?_|refine D1 fun _=>?_|refine D0 (hK:=fun _=>?_)|refine D3 (hK:=fun _=>?_)|refine D2 (hK:=fun _=>?_)|refine D4 (hK:=fun _=>?_)|refine C9 (hK:=fun _=>?_));try simp(disch:=first|omega|assumption|((repeat(first|exact A1|exact uH|apply A2|apply uT));first|done|fail)|(simp;first|done|omega|fail))[]))
 refine Z9 9 1 ?_
 refine C1m (α := Value × ByteArray × List ByteArray) ns.length (fun _ x => x.1) (fun _ x => .string x.2.1) (fun i x => [.own 9 1 x.1 i (x.2.2.map .string)])
  (fun i x => A8l ns s = x.2.2 ++ A8l (ns.drop i) x.2.1 ∧ (ns.drop i).sum ≤ x.2.1.size ∧ x.2.1.size ≤ s.size) (.slice none 0 0, s, []) ⟨by simp, by simpa using hs, Nat.le_refl _⟩ ?_
 rintro i ⟨v, r, d⟩ hi ⟨h1, h2, h3⟩ L hL
 simp only at h1 h2 h3 hL ⊢
 by_cases hlt : i < ns.length
 ·obtain ⟨b, o, rfl, hr⟩ := hrow (by omega)
  have hx : ns[i]? = some ns[i] := List.getElem?_eq_getElem hlt
  have hc := hr.one hx
  rw [List.drop_eq_getElem_cons hlt] at h1 h2
  simp only [List.sum_cons, A8l] at h1 h2
  have hle : ((ns[i] : Nat) : Int) ≤ r.size := by omega
  (have zz:=trivial;repeat((first|clear zz|with_reducible first|refine A3 ?_|refine A4 fun _=>?_|refine A5 fun _=>?_|refine D1 fun _=>?_|refine D0 (hK:=fun _=>?_)|refine D3 (hK:=fun _=>?_)|refine D2 (hK:=fun _=>?_)|refine D4 (hK:=fun _=>?_)|refine C9 (hK:=fun _=>?_));try simp(disch:=first|omega|assumption|((repeat(first|exact A1|exact uH|apply A2|apply uT));first|done|fail)|(simp;first|done|omega|fail))[hlt, hc]))
  refine Y5 (by (repeat constructor)) (K3.own (by (repeat constructor))) (by decide) (by simp) (by simp) (by simp only [maxLen]; omega) (by omega) fun a' c' => ?_
  (have zz:=trivial;repeat((first|clear zz|with_reducible first|refine A3 ?_|refine A4 fun _=>?_|refine A5 fun _=>?_|refine D1 fun _=>?_|refine D0 (hK:=fun _=>?_)|refine D3 (hK:=fun _=>?_)|refine D2 (hK:=fun _=>?_)|refine D4 (hK:=fun _=>?_)|refine C9 (hK:=fun _=>?_));try simp(disch:=first|omega|assumption|((repeat(first|exact A1|exact uH|apply A2|apply uT));first|done|fail)|(simp;first|done|omega|fail))[hlt, hle]))
  have := hL hlt (.slice a' (i + 1) c', r.extract ns[i] r.size, d ++ [r.extract 0 ns[i]]) ⟨by rw [h1]; simp, by rw [ByteArray.size_extract]; omega, by rw [ByteArray.size_extract]; omega⟩
  simp only [List.map_append, List.map_cons, List.map_nil] at this
  exact Sels.tw (by (repeat' constructor)) this
 ·obtain rfl : i = ns.length := by omega
  (have zz:=trivial;repeat((first|clear zz|with_reducible first|refine A3 ?_|refine A4 fun _=>?_|refine A5 fun _=>?_|refine D1 fun _=>?_|refine D0 (hK:=fun _=>?_)|refine D3 (hK:=fun _=>?_)|refine D2 (hK:=fun _=>?_)|refine D4 (hK:=fun _=>?_)|refine C9 (hK:=fun _=>?_));try simp(disch:=first|omega|assumption|((repeat(first|exact A1|exact uH|apply A2|apply uT));first|done|fail)|(simp;first|done|omega|fail))[]))
  refine Y5 (by (repeat constructor)) (K3.own (by (repeat constructor))) (by decide) (by simp) (by simp) (by simp only [maxLen]; omega) (by omega) fun a' c' => ?_
  simp only [List.drop_length, A8l] at h1
  rw [h1]
  exact k7 _ rfl (by simp)
def A6a (s : ByteArray) : Nat := if s.size < 40 then 2 else if gv s 0 1 / 16 ≠ 6 then 3 else if s.size - 40 < gv s 4 2 then 4 else 0
def Q4 (s : ByteArray) : HeadV := if A6a s = 0 then ⟨s.extract 8 24, s.extract 24 40, gv s 6 1, s.extract 40 (40 + gv s 4 2), 0⟩ else .err (A6a s)
theorem A7U (s : ByteArray) (a b i : Nat) (hb : b ≤ s.size) (hi : i < b - a) : C3 (s.extract a b) i = C3 s (a + i) := by
 unfold C3
 rw [Array.getD_eq_getD_getElem?, Array.getD_eq_getD_getElem?, ByteArray.data_extract, Array.getElem?_extract]
 rw [if_pos (by simp only [ByteArray.size] at hb; omega)]
theorem B8U (s : ByteArray) (a b i n : Nat) (hb : b ≤ s.size) (hn : i + n ≤ b - a) : Y3 (s.extract a b) i n = Y3 s (a + i) n := by
 induction n with
 | zero => rfl
 | succ n ih => simp only [Y3]; rw [ih (by omega), A7U s a b _ hb (by omega), Nat.add_assoc]
theorem B9c {s : ByteArray} {a n : Nat} (h : a + n ≤ s.size) : gv s a n = Y3 s a n := if_pos h
theorem C0Q (s : ByteArray) (a b i n : Nat) (hb : b ≤ s.size) (hn : i + n ≤ b - a) (hab : a ≤ b) : gv (s.extract a b) i n = gv s (a + i) n := by
 rw [B9c (by rw [ByteArray.size_extract]; omega), B9c (by omega), B8U s a b i n hb hn]
theorem A72 {s : ByteArray} {a : Nat} (h : a < s.size) : gv s a 1 = C3 s a := by rw [B9c (by omega)]; simp [Y3]
theorem B16 (s : ByteArray) (a b c d : Nat) (hb : b ≤ s.size) (hd : a + d ≤ b) : (s.extract a b).extract c d = s.extract (a + c) (a + d) := by
 apply ByteArray.ext
 rw [ByteArray.data_extract, ByteArray.data_extract, ByteArray.data_extract, Array.extract_extract]
 congr 1; omega
def C39 (s : ByteArray) : Nat → List Nat → List ByteArray
 | a, [] => [s.extract a s.size]
 | a, n :: ns => s.extract a (a + n) :: C39 s (a + n) ns
theorem C6J (s : ByteArray) (ns : List Nat) : ∀ a, a + ns.sum ≤ s.size → A8l ns (s.extract a s.size) = C39 s a ns := by
 induction ns with
 | nil => intro a _; rfl
 | cons n ns ih =>
  intro a h
  simp only [List.sum_cons] at h
  simp only [A8l, C39]
  rw [B16 _ _ _ _ _ (by omega) (by omega), B16 _ _ _ _ _ (by omega) (by rw [ByteArray.size_extract]; omega), ByteArray.size_extract, Nat.add_zero]
  rw [show a + (min s.size s.size - a) = s.size from by omega, ih _ (by omega)]
theorem B8B (s : ByteArray) : s.extract 0 s.size = s := by
 apply ByteArray.ext; rw [ByteArray.data_extract]; exact Array.extract_size ..
theorem B9W {s : ByteArray} (h : 40 ≤ s.size) : A8l [4, 2, 1, 1, 16, 16] s = [s.extract 0 4, s.extract 4 6, s.extract 6 7, s.extract 7 8, s.extract 8 24, s.extract 24 40, s.extract 40 s.size] := by
 have := C6J s [4, 2, 1, 1, 16, 16] 0 (by simp; omega)
 rw [B8B] at this; rw [this]; rfl
theorem B79 (w : World) (s : ByteArray) (hs : s.size < 2 ^ 63) : Fn PR B3 146 #[.string s] w (fun v w' => v = (Q4 s).val ∧ C1 [] w w') := by
 refine Fn.pure (B7M (TW.go (κ := false) (S := []) ?_))
 unfold B0M
 by_cases c1 : s.size < 40
 ·have c1' : (s.size : Int) < 40 := by omega
  (have zz:=trivial;repeat((first|clear zz|with_reducible first|refine A3 ?_|refine A4 fun _=>?_|refine A5 fun _=>?_|refine D1 fun _=>?_|refine D0 (hK:=fun _=>?_)|refine D3 (hK:=fun _=>?_)|refine D2 (hK:=fun _=>?_)|refine D4 (hK:=fun _=>?_)|refine C9 (hK:=fun _=>?_));try simp(disch:=first|omega|assumption|((repeat(first|exact A1|exact uH|apply A2|apply uT));first|done|fail)|(simp;first|done|omega|fail))[c1'])); exact A9 (by simp [Q4, A6a, c1, HeadV.val, HeadV.err])
 have c1' : ¬ (s.size : Int) < 40 := by omega
 obtain ⟨by0, hb0, hb1⟩ := r9 (s := s) (i := 0) (by omega)
 have hg0 : gv s 0 1 = C3 s 0 := A72 (by omega)
 have e1 : ((by0.toNat : Nat) : Int).fdiv (2 ^ min 4 IntKind.u8.bits) = (gv s 0 1 / 16 : Nat) := by rw [show (2 : Int) ^ min 4 IntKind.u8.bits = 16 from rfl, Int.fdiv_eq_ediv_of_nonneg _ (by omega), hb1, hg0]; omega
 have hb0' : s[(0 : Int).toNat]? = some by0 := hb0
 by_cases c2 : gv s 0 1 / 16 = 6
 case neg =>
  have c2' : ¬ ((gv s 0 1 / 16 : Nat) : Int) = 6 := by omega
  (have zz:=trivial;repeat((first|clear zz|with_reducible first|refine A3 ?_|refine A4 fun _=>?_|refine A5 fun _=>?_|refine D1 fun _=>?_|refine D0 (hK:=fun _=>?_)|refine D3 (hK:=fun _=>?_)|refine D2 (hK:=fun _=>?_)|refine D4 (hK:=fun _=>?_)|refine C9 (hK:=fun _=>?_));try simp(disch:=first|omega|assumption|((repeat(first|exact A1|exact uH|apply A2|apply uT));first|done|fail)|(simp;first|done|omega|fail))[c1', Z4]))
  rw [e1, if_neg c2']
  (have zz:=trivial;repeat((first|clear zz|with_reducible first|refine A3 ?_|refine A4 fun _=>?_|refine A5 fun _=>?_|refine D1 fun _=>?_|refine D0 (hK:=fun _=>?_)|refine D3 (hK:=fun _=>?_)|refine D2 (hK:=fun _=>?_)|refine D4 (hK:=fun _=>?_)|refine C9 (hK:=fun _=>?_));try simp(disch:=first|omega|assumption|((repeat(first|exact A1|exact uH|apply A2|apply uT));first|done|fail)|(simp;first|done|omega|fail))[])); exact A9 (by simp [Q4, A6a, c1, c2, HeadV.val, HeadV.err])
 have c2' : ((gv s 0 1 / 16 : Nat) : Int) = 6 := by omega
 (have zz:=trivial;repeat((first|clear zz|with_reducible first|refine A3 ?_|refine A4 fun _=>?_|refine A5 fun _=>?_|refine D1 fun _=>?_|refine D0 (hK:=fun _=>?_)|refine D3 (hK:=fun _=>?_)|refine D2 (hK:=fun _=>?_)|refine D4 (hK:=fun _=>?_)|refine C9 (hK:=fun _=>?_));try simp(disch:=first|omega|assumption|((repeat(first|exact A1|exact uH|apply A2|apply uT));first|done|fail)|(simp;first|done|omega|fail))[c1', Z4]))
 rw [e1, if_pos c2']
 (have zz:=trivial;repeat((first|clear zz|with_reducible first|refine A3 ?_|refine A4 fun _=>?_|refine A5 fun _=>?_|refine D1 fun _=>?_|refine D0 (hK:=fun _=>?_)|refine D3 (hK:=fun _=>?_)|refine D2 (hK:=fun _=>?_)|refine D4 (hK:=fun _=>?_)|refine C9 (hK:=fun _=>?_));try simp(disch:=first|omega|assumption|((repeat(first|exact A1|exact uH|apply A2|apply uT));first|done|fail)|(simp;first|done|omega|fail))[]))
 rename_i bh bl
 refine G3 B8P (fun w' hw' => C7d w' _ [4, 2, 1, 1, 16, 16] s (by simp) ?_ (by simp; omega) (by omega)) ?_
 ·have := K3.own (κ := false) (S := []) (w0 := w) (e := 3) (k := 1) (q := 6) (v := .slice (some ⟨bl, 0, none⟩) 6 6) (by (repeat constructor)) w' hw'
  simpa using this
 rintro v _ rfl
 rw [B9W (by omega)]
 simp only [List.length_cons, List.length_nil, List.map_cons, List.map_nil, List.cons_append, List.nil_append]
 refine A2E (by (repeat constructor)) (by omega) fun g c hv => ?_
 subst hv
 (have zz:=trivial;repeat((first|clear zz|with_reducible first|refine A3 ?_|refine A4 fun _=>?_|refine A5 fun _=>?_|refine D1 fun _=>?_|refine D0 (hK:=fun _=>?_)|refine D3 (hK:=fun _=>?_)|refine D2 (hK:=fun _=>?_)|refine D4 (hK:=fun _=>?_)|refine C9 (hK:=fun _=>?_));try simp(disch:=first|omega|assumption|((repeat(first|exact A1|exact uH|apply A2|apply uT));first|done|fail)|(simp;first|done|omega|fail))[]))
 refine B8 U4 (fun w' _ => A3B w' _ (by simp; omega) _ _) ?_
 have hgv := A4G (s.extract 4 6) 0 2 (by omega) (by omega)
 rw [C0Q s 4 6 0 2 (by omega) (by omega) (by omega)] at hgv
 simp only [Int.natCast_zero, Int.cast_ofNat_Int] at hgv
 have hlt := f8 s 4
 rw [hgv]
 (have zz:=trivial;repeat((first|clear zz|with_reducible first|refine A3 ?_|refine A4 fun _=>?_|refine A5 fun _=>?_|refine D1 fun _=>?_|refine D0 (hK:=fun _=>?_)|refine D3 (hK:=fun _=>?_)|refine D2 (hK:=fun _=>?_)|refine D4 (hK:=fun _=>?_)|refine C9 (hK:=fun _=>?_));try simp(disch:=first|omega|assumption|((repeat(first|exact A1|exact uH|apply A2|apply uT));first|done|fail)|(simp;first|done|omega|fail))[]))
 refine B6p (fun c3 => ?_) (fun c3 => ?_)
 ·(have zz:=trivial;repeat((first|clear zz|with_reducible first|refine A3 ?_|refine A4 fun _=>?_|refine A5 fun _=>?_|refine D1 fun _=>?_|refine D0 (hK:=fun _=>?_)|refine D3 (hK:=fun _=>?_)|refine D2 (hK:=fun _=>?_)|refine D4 (hK:=fun _=>?_)|refine C9 (hK:=fun _=>?_));try simp(disch:=first|omega|assumption|((repeat(first|exact A1|exact uH|apply A2|apply uT));first|done|fail)|(simp;first|done|omega|fail))[]))
  exact A9 (by simp [Q4, A6a, c1, c2, c3, HeadV.val, HeadV.err])
 ·obtain ⟨by6, hb6, hb6'⟩ := r9 (s := s.extract 6 7) (i := 0) (by simp; omega)
  have hp : C3 (s.extract 6 7) 0 = gv s 6 1 := by rw [A7U s 6 7 0 (by omega) (by omega), A72 (by omega)]
  have hb6'' : (s.extract 6 7)[(0 : Int).toNat]? = some by6 := hb6
  have hle : ((gv s 4 2 : Nat) : Int) ≤ (s.extract 40 s.size).size := by rw [ByteArray.size_extract]; omega
  (have zz:=trivial;repeat((first|clear zz|with_reducible first|refine A3 ?_|refine A4 fun _=>?_|refine A5 fun _=>?_|refine D1 fun _=>?_|refine D0 (hK:=fun _=>?_)|refine D3 (hK:=fun _=>?_)|refine D2 (hK:=fun _=>?_)|refine D4 (hK:=fun _=>?_)|refine C9 (hK:=fun _=>?_));try simp(disch:=first|omega|assumption|((repeat(first|exact A1|exact uH|apply A2|apply uT));first|done|fail)|(simp;first|done|omega|fail))[Z4]))
  have h6 := B3B s 6
  have w6 : IntKind.i64.wrap (gv s 6 1 : Nat) = (gv s 6 1 : Nat) := V3 (by omega) (by omega)
  rw [hb6', hp]
  exact A9 (by rw [B16 s 40 s.size 0 _ (by omega) (by omega)]; simp [Q4, A6a, c1, c2, c3, HeadV.val, w6])
theorem A26 : liesAt PR PR.depth 189 (2 / PR.cellsOf 189) 0 187 1 = true := by kernel_rfl
theorem A52 (w : World) (b : Nat) (a : Option Addr) (v : Value) (q : Nat) (xs : List Value) (x n : Int) (ha : a = none ∨ a = some ⟨b, 0, none⟩) (hx0 : 0 ≤ x) (hx : x < 2 ^ 62) (hs : q < 2 ^ 39)
  (hw : LW false (C7 (Bd b 189 a v q xs)) w (Bd b 189 a v q xs) w) : Fn PR B3 94 #[.pointer (some ⟨b, 0, none⟩), .int .i64 x, .int .i64 n] w
   (Rn (C7 (Bd b 189 a v q xs)) w (fun (_ : Value) u => u = .tuple #[]) fun v' => Bd b 189 (some ⟨b, 0, none⟩) v' (q + (E4 x n).size) (xs ++ F8 (E4 x n))) := by
 refine A8U (TW.goH (κ := false) (S := C7 (Bd b 189 a v q xs)) ?_ hw)
 unfold A17
 (have zz:=trivial;repeat((first|clear zz|with_reducible first|refine A3 ?_|refine A4 fun _=>?_|refine A5 fun _=>?_|refine D1 fun _=>?_|refine D0 (hK:=fun _=>?_)|refine D3 (hK:=fun _=>?_)|refine D2 (hK:=fun _=>?_)|refine D4 (hK:=fun _=>?_)|refine C9 (hK:=fun _=>?_));try simp(disch:=first|omega|assumption|((repeat(first|exact A1|exact uH|apply A2|apply uT));first|done|fail)|(simp;first|done|omega|fail))[]))
 refine B8 G8 (fun w' _ => d9 w' _ _) ?_
 have hp : (E4 x n).size ≤ 8 := by
  by_cases h : 1 ≤ n ∧ n ≤ 8
  ·rw [C1E h.1 h.2]; omega
  ·simp [E4, h]
 refine B3C (Hc := Bd b 189 a v q xs) (Hk := []) N2 (by rfl) (fun w' hw' => A0K w' b _ a v q xs _ ha A26 (by omega) hw'.self) ?_
 rintro v' _ rfl
 (have zz:=trivial;repeat((first|clear zz|with_reducible first|refine A3 ?_|refine A4 fun _=>?_|refine A5 fun _=>?_|refine D1 fun _=>?_|refine D0 (hK:=fun _=>?_)|refine D3 (hK:=fun _=>?_)|refine D2 (hK:=fun _=>?_)|refine D4 (hK:=fun _=>?_)|refine C9 (hK:=fun _=>?_));try simp(disch:=first|omega|assumption|((repeat(first|exact A1|exact uH|apply A2|apply uT));first|done|fail)|(simp;first|done|omega|fail))[]))
 exact C0 v' rfl (by simp only [Bd]; (repeat' constructor))
def B13 (src dst rest : ByteArray) (proto : Int) : ByteArray := E4 1610612736 4 ++ E4 rest.size 2 ++ E4 proto 1 ++ E4 64 1 ++ src ++ dst ++ rest
def B3g (rest : ByteArray) : Nat → Nat | 0 => 8 | 1 => 24 | 2 => 40 | _ => 40 + rest.size
def B4V (src dst rest : ByteArray) (proto : Int) : Nat → ByteArray
 | 0 => E4 1610612736 4 ++ E4 rest.size 2 ++ E4 proto 1 ++ E4 64 1
 | 1 => E4 1610612736 4 ++ E4 rest.size 2 ++ E4 proto 1 ++ E4 64 1 ++ src
 | 2 => E4 1610612736 4 ++ E4 rest.size 2 ++ E4 proto 1 ++ E4 64 1 ++ src ++ dst
 | _ => B13 src dst rest proto
def A8M (src dst rest : ByteArray) (proto : Int) : ByteArray × Nat :=
 if src.size ≠ 16 ∨ dst.size ≠ 16 ∨ proto < 0 ∨ 255 < proto then (Q8, 1) else if 65535 < rest.size then (Q8, 4) else (B13 src dst rest proto, 0)
theorem C1J (w : World) (src dst rest : ByteArray) (proto : Int) (hrs : rest.size < 2 ^ 40) :
  Fn PR B3 52 #[.agg #[.string src, .string dst, .int .i64 proto], .string rest] w (fun v w' => v = .tuple #[.string (A8M src dst rest proto).1, .int .i64 (A8M src dst rest proto).2] ∧ C1 [] w w') := by
 refine Fn.pure (B9r (TW.go (κ := false) (S := []) ?_))
 unfold B2f
 by_cases c1 : src.size = 16
 case neg =>
  have c1' : ¬ (src.size : Int) = 16 := by omega
  (have zz:=trivial;repeat((first|clear zz|with_reducible first|refine A3 ?_|refine A4 fun _=>?_|refine A5 fun _=>?_|refine D1 fun _=>?_|refine D0 (hK:=fun _=>?_)|refine D3 (hK:=fun _=>?_)|refine D2 (hK:=fun _=>?_)|refine D4 (hK:=fun _=>?_)|refine C9 (hK:=fun _=>?_));try simp(disch:=first|omega|assumption|((repeat(first|exact A1|exact uH|apply A2|apply uT));first|done|fail)|(simp;first|done|omega|fail))[c1'])); exact A9 (by simp [A8M, c1])
 by_cases c2 : dst.size = 16
 case neg =>
  have c2' : ¬ (dst.size : Int) = 16 := by omega
  (have zz:=trivial;repeat((first|clear zz|with_reducible first|refine A3 ?_|refine A4 fun _=>?_|refine A5 fun _=>?_|refine D1 fun _=>?_|refine D0 (hK:=fun _=>?_)|refine D3 (hK:=fun _=>?_)|refine D2 (hK:=fun _=>?_)|refine D4 (hK:=fun _=>?_)|refine C9 (hK:=fun _=>?_));try simp(disch:=first|omega|assumption|((repeat(first|exact A1|exact uH|apply A2|apply uT));first|done|fail)|(simp;first|done|omega|fail))[c1, c2'])); exact A9 (by simp [A8M, c2])
 by_cases c3 : proto < 0
 ·(have zz:=trivial;repeat((first|clear zz|with_reducible first|refine A3 ?_|refine A4 fun _=>?_|refine A5 fun _=>?_|refine D1 fun _=>?_|refine D0 (hK:=fun _=>?_)|refine D3 (hK:=fun _=>?_)|refine D2 (hK:=fun _=>?_)|refine D4 (hK:=fun _=>?_)|refine C9 (hK:=fun _=>?_));try simp(disch:=first|omega|assumption|((repeat(first|exact A1|exact uH|apply A2|apply uT));first|done|fail)|(simp;first|done|omega|fail))[c1, c2, c3])); exact A9 (by simp [A8M, c3])
 by_cases c4 : 255 < proto
 ·(have zz:=trivial;repeat((first|clear zz|with_reducible first|refine A3 ?_|refine A4 fun _=>?_|refine A5 fun _=>?_|refine D1 fun _=>?_|refine D0 (hK:=fun _=>?_)|refine D3 (hK:=fun _=>?_)|refine D2 (hK:=fun _=>?_)|refine D4 (hK:=fun _=>?_)|refine C9 (hK:=fun _=>?_));try simp(disch:=first|omega|assumption|((repeat(first|exact A1|exact uH|apply A2|apply uT));first|done|fail)|(simp;first|done|omega|fail))[c1, c2, c3, c4])); exact A9 (by simp [A8M, c4])
 by_cases c5 : 65535 < rest.size
 ·have c5' : 65535 < (rest.size : Int) := by omega
  (have zz:=trivial;repeat((first|clear zz|with_reducible first|refine A3 ?_|refine A4 fun _=>?_|refine A5 fun _=>?_|refine D1 fun _=>?_|refine D0 (hK:=fun _=>?_)|refine D3 (hK:=fun _=>?_)|refine D2 (hK:=fun _=>?_)|refine D4 (hK:=fun _=>?_)|refine C9 (hK:=fun _=>?_));try simp(disch:=first|omega|assumption|((repeat(first|exact A1|exact uH|apply A2|apply uT));first|done|fail)|(simp;first|done|omega|fail))[c1, c2, c3, c4, c5'])); exact A9 (by simp [A8M, c1, c2, c3, c4, c5])
 have c5' : ¬ 65535 < (rest.size : Int) := by omega
 (have zz:=trivial;repeat((first|clear zz|with_reducible first|refine A3 ?_|refine A4 fun _=>?_|refine A5 fun _=>?_|refine D1 fun _=>?_|refine D0 (hK:=fun _=>?_)|refine D3 (hK:=fun _=>?_)|refine D2 (hK:=fun _=>?_)|refine D4 (hK:=fun _=>?_)|refine C9 (hK:=fun _=>?_));try simp(disch:=first|omega|assumption|((repeat(first|exact A1|exact uH|apply A2|apply uT));first|done|fail)|(simp;first|done|omega|fail))[c1, c2, c3, c4, c5']))
 rename_i bh bw
 refine Z9 5 1 ?_
 refine F2 W7 (fun w' _ hs => A52 w' bw none (.slice none 0 0) 0 [] 1610612736 4 (Or.inl rfl) (by omega) (by omega) (by omega) hs) (by (repeat' constructor)) ?_
 rintro v1 _ rfl
 (have zz:=trivial;repeat((first|clear zz|with_reducible first|refine A3 ?_|refine A4 fun _=>?_|refine A5 fun _=>?_|refine D1 fun _=>?_|refine D0 (hK:=fun _=>?_)|refine D3 (hK:=fun _=>?_)|refine D2 (hK:=fun _=>?_)|refine D4 (hK:=fun _=>?_)|refine C9 (hK:=fun _=>?_));try simp(disch:=first|omega|assumption|((repeat(first|exact A1|exact uH|apply A2|apply uT));first|done|fail)|(simp;first|done|omega|fail))[]))
 refine F2 W7 (fun w' _ hs => A52 w' bw _ v1 4 _ rest.size 2 (Or.inr rfl) (by omega) (by omega) (by omega) hs) (by (repeat' constructor)) ?_
 rintro v2 _ rfl
 (have zz:=trivial;repeat((first|clear zz|with_reducible first|refine A3 ?_|refine A4 fun _=>?_|refine A5 fun _=>?_|refine D1 fun _=>?_|refine D0 (hK:=fun _=>?_)|refine D3 (hK:=fun _=>?_)|refine D2 (hK:=fun _=>?_)|refine D4 (hK:=fun _=>?_)|refine C9 (hK:=fun _=>?_));try simp(disch:=first|omega|assumption|((repeat(first|exact A1|exact uH|apply A2|apply uT));first|done|fail)|(simp;first|done|omega|fail))[]))
 refine F2 W7 (fun w' _ hs => A52 w' bw _ v2 6 _ proto 1 (Or.inr rfl) (by omega) (by omega) (by omega) hs) (by (repeat' constructor)) ?_
 rintro v3 _ rfl
 (have zz:=trivial;repeat((first|clear zz|with_reducible first|refine A3 ?_|refine A4 fun _=>?_|refine A5 fun _=>?_|refine D1 fun _=>?_|refine D0 (hK:=fun _=>?_)|refine D3 (hK:=fun _=>?_)|refine D2 (hK:=fun _=>?_)|refine D4 (hK:=fun _=>?_)|refine C9 (hK:=fun _=>?_));try simp(disch:=first|omega|assumption|((repeat(first|exact A1|exact uH|apply A2|apply uT));first|done|fail)|(simp;first|done|omega|fail))[]))
 refine F2 W7 (fun w' _ hs => A52 w' bw _ v3 7 _ 64 1 (Or.inr rfl) (by omega) (by omega) (by omega) hs) (by (repeat' constructor)) ?_
 rintro v4 _ rfl
 (have zz:=trivial;repeat((first|clear zz|with_reducible first|refine A3 ?_|refine A4 fun _=>?_|refine A5 fun _=>?_|refine D1 fun _=>?_|refine D0 (hK:=fun _=>?_)|refine D3 (hK:=fun _=>?_)|refine D2 (hK:=fun _=>?_)|refine D4 (hK:=fun _=>?_)|refine C9 (hK:=fun _=>?_));try simp(disch:=first|omega|assumption|((repeat(first|exact A1|exact uH|apply A2|apply uT));first|done|fail)|(simp;first|done|omega|fail))[]))
 rename_i bl
 refine B4G (α := Value) 3 (fun i v => [.own 9 1 (.slice (some ⟨bl, 0, none⟩) 3 3) 3 [.string src, .string dst, .string rest], .pt bw (.cells #[.pointer (some ⟨bw, 0, none⟩), v] 189),
  .own 5 1 v (B3g rest i) (F8 (B4V src dst rest proto i)), .pt bh (.cells #[.string src, .string dst, .int .i64 proto] 122)]) (fun _ _ => True) v4 trivial ?_ (by simp [B3g, B4V, A2b])
 rintro i v hi _ L hL
 obtain rfl | rfl | rfl | rfl : i = 0 ∨ i = 1 ∨ i = 2 ∨ i = 3 := by omega
 ·have hL' := fun v' => hL (by omega) v' trivial
  simp only [B3g, B4V, A2b, List.append_assoc] at hL' ⊢
  (have zz:=trivial;repeat((first|clear zz|with_reducible first|refine A3 ?_|refine A4 fun _=>?_|refine A5 fun _=>?_|refine D1 fun _=>?_|refine D0 (hK:=fun _=>?_)|refine D3 (hK:=fun _=>?_)|refine D2 (hK:=fun _=>?_)|refine D4 (hK:=fun _=>?_)|refine C9 (hK:=fun _=>?_));try simp(disch:=first|omega|assumption|((repeat(first|exact A1|exact uH|apply A2|apply uT));first|done|fail)|(simp;first|done|omega|fail))[]))
  refine F2 N2 (fun w' _ hs => A0K w' bw _ _ v 8 _ src (Or.inr rfl) A26 (by omega) hs) (by (repeat' constructor)) ?_
  rintro v' _ rfl
  (have zz:=trivial;repeat((first|clear zz|with_reducible first|refine A3 ?_|refine A4 fun _=>?_|refine A5 fun _=>?_|refine D1 fun _=>?_|refine D0 (hK:=fun _=>?_)|refine D3 (hK:=fun _=>?_)|refine D2 (hK:=fun _=>?_)|refine D4 (hK:=fun _=>?_)|refine C9 (hK:=fun _=>?_));try simp(disch:=first|omega|assumption|((repeat(first|exact A1|exact uH|apply A2|apply uT));first|done|fail)|(simp;first|done|omega|fail))[c1]))
  exact Sels.tw (by (repeat' constructor)) (hL' v')
 ·have hL' := fun v' => hL (by omega) v' trivial
  simp only [B3g, B4V, A2b, List.append_assoc] at hL' ⊢
  (have zz:=trivial;repeat((first|clear zz|with_reducible first|refine A3 ?_|refine A4 fun _=>?_|refine A5 fun _=>?_|refine D1 fun _=>?_|refine D0 (hK:=fun _=>?_)|refine D3 (hK:=fun _=>?_)|refine D2 (hK:=fun _=>?_)|refine D4 (hK:=fun _=>?_)|refine C9 (hK:=fun _=>?_));try simp(disch:=first|omega|assumption|((repeat(first|exact A1|exact uH|apply A2|apply uT));first|done|fail)|(simp;first|done|omega|fail))[]))
  refine F2 N2 (fun w' _ hs => A0K w' bw _ _ v 24 _ dst (Or.inr rfl) A26 (by omega) hs) (by (repeat' constructor)) ?_
  rintro v' _ rfl
  (have zz:=trivial;repeat((first|clear zz|with_reducible first|refine A3 ?_|refine A4 fun _=>?_|refine A5 fun _=>?_|refine D1 fun _=>?_|refine D0 (hK:=fun _=>?_)|refine D3 (hK:=fun _=>?_)|refine D2 (hK:=fun _=>?_)|refine D4 (hK:=fun _=>?_)|refine C9 (hK:=fun _=>?_));try simp(disch:=first|omega|assumption|((repeat(first|exact A1|exact uH|apply A2|apply uT));first|done|fail)|(simp;first|done|omega|fail))[c2]))
  exact Sels.tw (by (repeat' constructor)) (hL' v')
 ·have hL' := fun v' => hL (by omega) v' trivial
  simp only [B3g, B4V, B13, A2b, List.append_assoc] at hL' ⊢
  (have zz:=trivial;repeat((first|clear zz|with_reducible first|refine A3 ?_|refine A4 fun _=>?_|refine A5 fun _=>?_|refine D1 fun _=>?_|refine D0 (hK:=fun _=>?_)|refine D3 (hK:=fun _=>?_)|refine D2 (hK:=fun _=>?_)|refine D4 (hK:=fun _=>?_)|refine C9 (hK:=fun _=>?_));try simp(disch:=first|omega|assumption|((repeat(first|exact A1|exact uH|apply A2|apply uT));first|done|fail)|(simp;first|done|omega|fail))[]))
  refine F2 N2 (fun w' _ hs => A0K w' bw _ _ v 40 _ rest (Or.inr rfl) A26 (by omega) hs) (by (repeat' constructor)) ?_
  rintro v' _ rfl
  (have zz:=trivial;repeat((first|clear zz|with_reducible first|refine A3 ?_|refine A4 fun _=>?_|refine A5 fun _=>?_|refine D1 fun _=>?_|refine D0 (hK:=fun _=>?_)|refine D3 (hK:=fun _=>?_)|refine D2 (hK:=fun _=>?_)|refine D4 (hK:=fun _=>?_)|refine C9 (hK:=fun _=>?_));try simp(disch:=first|omega|assumption|((repeat(first|exact A1|exact uH|apply A2|apply uT));first|done|fail)|(simp;first|done|omega|fail))[]))
  exact Sels.tw (by (repeat' constructor)) (hL' v')
 ·simp only [B3g, B4V]
  (have zz:=trivial;repeat((first|clear zz|with_reducible first|refine A3 ?_|refine A4 fun _=>?_|refine A5 fun _=>?_|refine D1 fun _=>?_|refine D0 (hK:=fun _=>?_)|refine D3 (hK:=fun _=>?_)|refine D2 (hK:=fun _=>?_)|refine D4 (hK:=fun _=>?_)|refine C9 (hK:=fun _=>?_));try simp(disch:=first|omega|assumption|((repeat(first|exact A1|exact uH|apply A2|apply uT));first|done|fail)|(simp;first|done|omega|fail))[]))
  have hz : (B13 src dst rest proto).size = 40 + rest.size := by simp [B13, c1, c2]
  refine F2 A3g (fun w' _ hs => C1c w' bw _ _ v (40 + rest.size) (F8 (B13 src dst rest proto)) (B13 src dst rest proto) hz.symm rfl (by omega) (by omega) hs) (by (repeat' constructor)) ?_
  rintro _ _ rfl
  (have zz:=trivial;repeat((first|clear zz|with_reducible first|refine A3 ?_|refine A4 fun _=>?_|refine A5 fun _=>?_|refine D1 fun _=>?_|refine D0 (hK:=fun _=>?_)|refine D3 (hK:=fun _=>?_)|refine D2 (hK:=fun _=>?_)|refine D4 (hK:=fun _=>?_)|refine C9 (hK:=fun _=>?_));try simp(disch:=first|omega|assumption|((repeat(first|exact A1|exact uH|apply A2|apply uT));first|done|fail)|(simp;first|done|omega|fail))[]))
  exact A9 (by simp [A8M, c1, c2, c3, c4, c5])
end Go.Proofs.YtpbmephflllolaaGreat
namespace Go.Proofs.YtpbmephflllolaaGreat
open Go
theorem B55 {κ : Bool} {X : Nat → Prop} {S : List Nat} {w0 : World} {H : List Res} {K : Value → WP} {g u : Value} {name : String} {args : List Value} {f : FuncId} {args' : Array Value} (hr : ∀ w, (callMethod g name args.toArray).run PR w = .ok (.enter f args') w)
  (hf : ∀ w, LW κ S w0 H w → Fn PR B3 f args' w (fun v w' => v = u ∧ C1 [] w w')) (hK : TW κ S w0 H (K u)) : TW κ S w0 H (inv PR X g name args K) := fun w hw =>
 ⟨f, args', hr w, (hf w hw).use fun v w' ⟨h1, h2⟩ hsk => by subst h1; exact hK w' (hw.ext (h2.ks fun _ => hsk))⟩
theorem B9q {P : Program} {t : TypeId} {n m : Nat} {z : Value} {ms : Array (String × TypeId)} {e : Nat} (h : TI P t (.interface ms) n m z) : EqV P (e + 1) t .nilIface .nilIface true := by
 intro w
 simp only [Op.equalIn, Sem.run_bind, h.run_und, Result.andThen_ok]; rfl
theorem B93 {P : Program} {t : TypeId} {n m : Nat} {z : Value} {ms : Array (String × TypeId)} {e : Nat} (h : TI P t (.interface ms) n m z) (u : TypeId) (v : Value) : EqV P (e + 1) t (.iface u v) .nilIface false := by
 intro w
 simp only [Op.equalIn, Sem.run_bind, h.run_und, Result.andThen_ok]; rfl
theorem B8v {t : TypeId} {op : BinOp} {x y : Operand} {g : Value} {r : Bool} {K : Value → WP} (hg : (eqGuard .eql t x y g .nilIface) = pure ()) (he : EqV PR 10000 t g .nilIface r) : A6 PR (N1 .eql t x y g .nilIface) K = K (.bool r) := by
 funext w
 refine T3 ?_ K
 have := he w
 simp [N1, hg, binOp, Op.equal, Op.maxDepth, this]
theorem A2r {x : Operand} {c : Value} {K : Value → WP} : A6 PR (N1 .eql 180 x (.const c) .nilIface .nilIface) K = K (.bool true) := B8v (op := .eql) (by cases x <;> rfl) (B9q (e := 9999) B56)
theorem A2z {x y : Operand} {K : Value → WP} {u : TypeId} {v : Value} : A6 PR (N1 .eql 180 x y (.iface u v) .nilIface) K = K (.bool false) := B8v (op := .eql) (by rfl) (B93 (e := 9999) B56 u v)
abbrev B7N : Value := .iface 246 (.agg #[])
abbrev B7l : Value := .iface 247 (.agg #[])
def s9 : List (Int × Value) := [(6, B7N), (17, B7l)]
theorem B5B (w : World) : Fn PR B3 92 #[] w (Rn [] w (fun r v => v = .map (some r)) fun r => [.pt r (w7 (Value.int .i64) s9)]) := by
 refine B4Z (TW.go (κ := false) (S := []) ?_)
 unfold A76
 refine B81 (Value.int .i64) fun r => ?_
 (have zz:=trivial;repeat((first|clear zz|with_reducible first|refine A3 ?_|refine A4 fun _=>?_|refine A5 fun _=>?_);try simp(disch:=first|omega|assumption|((repeat(first|exact A1|exact uH|apply A2|apply uT));first|done|fail)|(simp;first|done|omega|fail))[]))
 refine B19 B57 (KeyT.int H5) (k := 6) (by (repeat constructor)) ?_
 (have zz:=trivial;repeat((first|clear zz|with_reducible first|refine A3 ?_|refine A4 fun _=>?_|refine A5 fun _=>?_);try simp(disch:=first|omega|assumption|((repeat(first|exact A1|exact uH|apply A2|apply uT));first|done|fail)|(simp;first|done|omega|fail))[]))
 refine B19 B57 (KeyT.int H5) (k := 17) (by (repeat constructor)) ?_
 exact k7 r rfl (by simp [s5, s9])
def A1l (s : ByteArray) : Nat × Nat := if s.size < 20 then (0, 2) else if C3 s 12 / 16 * 4 < 20 ∨ s.size < C3 s 12 / 16 * 4 then (0, 8) else (C3 s 13, 0)
def A1k (s : ByteArray) : Nat × Nat := if s.size < 8 then (0, 2) else if gv s 4 2 < 8 ∨ s.size < gv s 4 2 then (0, 4) else (0, 0)
theorem B8j (w : World) (s : ByteArray) (hs : s.size < 2 ^ 40) : Fn PR B3 265 #[.agg #[], .string s] w (fun v w' => v = .tuple #[.int .i64 (A1l s).1, .int .i64 (A1l s).2] ∧ C1 [] w w') := by
 refine Fn.pure (B1D (TW.go (κ := false) (S := []) ?_))
 unfold A3v
 by_cases c1 : s.size < 20
 ·have c1' : (s.size : Int) < 20 := by omega
  (have zz:=trivial;repeat((first|clear zz|with_reducible first|refine A3 ?_|refine A4 fun _=>?_|refine A5 fun _=>?_);try simp(disch:=first|omega|assumption|((repeat(first|exact A1|exact uH|apply A2|apply uT));first|done|fail)|(simp;first|done|omega|fail))[c1'])); exact A9 (by simp [A1l, c1])
 have c1' : ¬ (s.size : Int) < 20 := by omega
 obtain ⟨by0, hb0, hb1⟩ := r9 (s := s) (i := 12) (by omega)
 obtain ⟨by1, hb2, hb3⟩ := r9 (s := s) (i := 13) (by omega)
 have hb0' : s[(12 : Int).toNat]? = some by0 := hb0
 have hb2' : s[(13 : Int).toNat]? = some by1 := hb2
 have hl0 := M7 s 12
 have hl1 := M7 s 13
 have e1 : ((by0.toNat : Nat) : Int).fdiv (2 ^ min 4 IntKind.u8.bits) = (C3 s 12 / 16 : Nat) := by rw [show (2 : Int) ^ min 4 IntKind.u8.bits = 16 from rfl, Int.fdiv_eq_ediv_of_nonneg _ (by omega), hb1]; omega
 have e2 : IntKind.i64.wrap (by1.toNat : Nat) = (C3 s 13 : Nat) := by rw [V3 (by omega) (by omega), hb3]
 have l1 : ∀ n : Nat, ((n * 4 : Nat) : Int) = (n : Int) * 4 := by omega
 by_cases c2 : C3 s 12 / 16 * 4 < 20
 ·have c2' : ((C3 s 12 : Nat) : Int) / 16 * 4 < 20 := by omega
  (have zz:=trivial;repeat((first|clear zz|with_reducible first|refine A3 ?_|refine A4 fun _=>?_|refine A5 fun _=>?_);try simp(disch:=first|omega|assumption|((repeat(first|exact A1|exact uH|apply A2|apply uT));first|done|fail)|(simp;first|done|omega|fail))[c1', Z4]))
  rw [e1]
  (have zz:=trivial;repeat((first|clear zz|with_reducible first|refine A3 ?_|refine A4 fun _=>?_|refine A5 fun _=>?_);try simp(disch:=first|omega|assumption|((repeat(first|exact A1|exact uH|apply A2|apply uT));first|done|fail)|(simp;first|done|omega|fail))[c2']))
  exact A9 (by simp [A1l, c1, c2])
 have c2' : ¬ ((C3 s 12 : Nat) : Int) / 16 * 4 < 20 := by omega
 by_cases c3 : s.size < C3 s 12 / 16 * 4
 ·have c3' : (s.size : Int) < ((C3 s 12 : Nat) : Int) / 16 * 4 := by omega
  (have zz:=trivial;repeat((first|clear zz|with_reducible first|refine A3 ?_|refine A4 fun _=>?_|refine A5 fun _=>?_);try simp(disch:=first|omega|assumption|((repeat(first|exact A1|exact uH|apply A2|apply uT));first|done|fail)|(simp;first|done|omega|fail))[c1', Z4]))
  rw [e1]
  (have zz:=trivial;repeat((first|clear zz|with_reducible first|refine A3 ?_|refine A4 fun _=>?_|refine A5 fun _=>?_);try simp(disch:=first|omega|assumption|((repeat(first|exact A1|exact uH|apply A2|apply uT));first|done|fail)|(simp;first|done|omega|fail))[c2', c3']))
  exact A9 (by simp [A1l, c1, c2, c3])
 have c3' : ¬ (s.size : Int) < ((C3 s 12 : Nat) : Int) / 16 * 4 := by omega
 (have zz:=trivial;repeat((first|clear zz|with_reducible first|refine A3 ?_|refine A4 fun _=>?_|refine A5 fun _=>?_);try simp(disch:=first|omega|assumption|((repeat(first|exact A1|exact uH|apply A2|apply uT));first|done|fail)|(simp;first|done|omega|fail))[c1', Z4]))
 rw [e1]
 (have zz:=trivial;repeat((first|clear zz|with_reducible first|refine A3 ?_|refine A4 fun _=>?_|refine A5 fun _=>?_);try simp(disch:=first|omega|assumption|((repeat(first|exact A1|exact uH|apply A2|apply uT));first|done|fail)|(simp;first|done|omega|fail))[c2', c3', Z4, e2]))
 exact A9 (by simp [A1l, c1, c2, c3, hb3])
def z1 : ByteArray := ByteArray.mk #[0]
def A4H (f : Int) : ByteArray × Nat := if f < 0 ∨ 255 < f then (Q8, 1) else (Q6 z1 8 ++ ByteArray.mk #[80] ++ E4 f 1 ++ Q6 z1 6, 0)
def A6e (f : Int) : ByteArray × Nat := if f ≠ 0 then (Q8, 1) else (ByteArray.mk #[0, 8, 0, 0], 0)
theorem C9E (w : World) : Fn PR B3 267 #[.string (ByteArray.mk #[0]), .int .i64 8] w (fun v w' => v = .string (Q6 z1 8) ∧ C1 [] w w') := B48 w z1 8 (by omega) (by decide)
theorem C9Q (w : World) : Fn PR B3 267 #[.string (ByteArray.mk #[0]), .int .i64 6] w (fun v w' => v = .string (Q6 z1 6) ∧ C1 [] w w') := B48 w z1 6 (by omega) (by decide)
theorem T0 (c : Nat) : (Q6 z1 c).size = c := by
 have : ∀ (l : List UInt8) (n : Nat), (Lib.repeatL l n).length = n * l.length := by
  intro l n
  induction n with
  | zero => simp [Lib.repeatL]
  | succ n ih => simp [Lib.repeatL, ih, Nat.add_mul, Nat.add_comm]
 show (Lib.repeatL z1.data.toList c).toArray.size = c
 rw [List.size_toArray, this]; simp [z1]
theorem C1H (w : World) (f : Int) : Fn PR B3 266 #[.agg #[], .int .i64 f] w (fun v w' => v = .tuple #[.string (A4H f).1, .int .i64 (A4H f).2] ∧ C1 [] w w') := by
 refine Fn.pure (B2q (TW.go (κ := false) (S := []) ?_))
 unfold A6F
 by_cases c1 : f < 0
 ·(have zz:=trivial;repeat((first|clear zz|with_reducible first|refine A3 ?_|refine A4 fun _=>?_|refine A5 fun _=>?_);try simp(disch:=first|omega|assumption|((repeat(first|exact A1|exact uH|apply A2|apply uT));first|done|fail)|(simp;first|done|omega|fail))[c1])); exact A9 (by simp [A4H, c1])
 by_cases c2 : 255 < f
 ·(have zz:=trivial;repeat((first|clear zz|with_reducible first|refine A3 ?_|refine A4 fun _=>?_|refine A5 fun _=>?_);try simp(disch:=first|omega|assumption|((repeat(first|exact A1|exact uH|apply A2|apply uT));first|done|fail)|(simp;first|done|omega|fail))[c1, c2])); exact A9 (by simp [A4H, c2])
 (have zz:=trivial;repeat((first|clear zz|with_reducible first|refine A3 ?_|refine A4 fun _=>?_|refine A5 fun _=>?_);try simp(disch:=first|omega|assumption|((repeat(first|exact A1|exact uH|apply A2|apply uT));first|done|fail)|(simp;first|done|omega|fail))[c1, c2]))
 have h8 := T0 8
 have h6 := T0 6
 refine B8 A3F (fun w' hw' => C9E w') ?_
 (have zz:=trivial;repeat((first|clear zz|with_reducible first|refine A3 ?_|refine A4 fun _=>?_|refine A5 fun _=>?_);try simp(disch:=first|omega|assumption|((repeat(first|exact A1|exact uH|apply A2|apply uT));first|done|fail)|(simp;first|done|omega|fail))[c1, c2, P0]))
 refine B8 G8 (fun w' hw' => d9 w' _ _) ?_
 (have zz:=trivial;repeat((first|clear zz|with_reducible first|refine A3 ?_|refine A4 fun _=>?_|refine A5 fun _=>?_);try simp(disch:=first|omega|assumption|((repeat(first|exact A1|exact uH|apply A2|apply uT));first|done|fail)|(simp;first|done|omega|fail))[c1, c2, P0]))
 refine B8 A3F (fun w' hw' => C9Q w') ?_
 (have zz:=trivial;repeat((first|clear zz|with_reducible first|refine A3 ?_|refine A4 fun _=>?_|refine A5 fun _=>?_);try simp(disch:=first|omega|assumption|((repeat(first|exact A1|exact uH|apply A2|apply uT));first|done|fail)|(simp;first|done|omega|fail))[c1, c2, P0]))
 exact A9 (by simp [A4H, c1, c2])
theorem B8C (w : World) (s : ByteArray) (hs : s.size < 2 ^ 40) : Fn PR B3 277 #[.agg #[], .string s] w (fun v w' => v = .tuple #[.int .i64 (A1k s).1, .int .i64 (A1k s).2] ∧ C1 [] w w') := by
 refine Fn.pure (B1F (TW.go (κ := false) (S := []) ?_))
 unfold A3u
 by_cases c1 : s.size < 8
 ·have c1' : (s.size : Int) < 8 := by omega
  (have zz:=trivial;repeat((first|clear zz|with_reducible first|refine A3 ?_|refine A4 fun _=>?_|refine A5 fun _=>?_);try simp(disch:=first|omega|assumption|((repeat(first|exact A1|exact uH|apply A2|apply uT));first|done|fail)|(simp;first|done|omega|fail))[c1'])); exact A9 (by simp [A1k, c1])
 have c1' : ¬ (s.size : Int) < 8 := by omega
 (have zz:=trivial;repeat((first|clear zz|with_reducible first|refine A3 ?_|refine A4 fun _=>?_|refine A5 fun _=>?_);try simp(disch:=first|omega|assumption|((repeat(first|exact A1|exact uH|apply A2|apply uT));first|done|fail)|(simp;first|done|omega|fail))[c1']))
 refine B8 U4 (fun w' _ => A3B w' s (by omega) _ _) ?_
 have e1 := A4G s 4 2 (by omega) (by omega)
 have e1' : A2L s 4 2 = gv s 4 2 := e1
 have hg := f8 s 4
 by_cases c2 : gv s 4 2 < 8
 ·have c2' : ((gv s 4 2 : Nat) : Int) < 8 := by omega
  (have zz:=trivial;repeat((first|clear zz|with_reducible first|refine A3 ?_|refine A4 fun _=>?_|refine A5 fun _=>?_);try simp(disch:=first|omega|assumption|((repeat(first|exact A1|exact uH|apply A2|apply uT));first|done|fail)|(simp;first|done|omega|fail))[e1', c2, c2']))
  exact A9 (by simp [A1k, c1, c2])
 have c2' : ¬ ((gv s 4 2 : Nat) : Int) < 8 := by omega
 by_cases c3 : s.size < gv s 4 2
 ·have c3' : ((s.size : Nat) : Int) < gv s 4 2 := by omega
  (have zz:=trivial;repeat((first|clear zz|with_reducible first|refine A3 ?_|refine A4 fun _=>?_|refine A5 fun _=>?_);try simp(disch:=first|omega|assumption|((repeat(first|exact A1|exact uH|apply A2|apply uT));first|done|fail)|(simp;first|done|omega|fail))[e1', c2, c2', c3, c3']))
  exact A9 (by simp [A1k, c1, c2, c3])
 have c3' : ¬ ((s.size : Nat) : Int) < gv s 4 2 := by omega
 (have zz:=trivial;repeat((first|clear zz|with_reducible first|refine A3 ?_|refine A4 fun _=>?_|refine A5 fun _=>?_);try simp(disch:=first|omega|assumption|((repeat(first|exact A1|exact uH|apply A2|apply uT));first|done|fail)|(simp;first|done|omega|fail))[e1', c2, c2', c3, c3']))
 exact A9 (by simp [A1k, c1, c2, c3])
theorem C20 (w : World) (f : Int) : Fn PR B3 278 #[.agg #[], .int .i64 f] w (fun v w' => v = .tuple #[.string (A6e f).1, .int .i64 (A6e f).2] ∧ C1 [] w w') := by
 refine Fn.pure (B2m (TW.go (κ := false) (S := []) ?_))
 unfold A6M
 by_cases c1 : f = 0
 ·(have zz:=trivial;repeat((first|clear zz|with_reducible first|refine A3 ?_|refine A4 fun _=>?_|refine A5 fun _=>?_);try simp(disch:=first|omega|assumption|((repeat(first|exact A1|exact uH|apply A2|apply uT));first|done|fail)|(simp;first|done|omega|fail))[c1])); exact A9 (by simp [A6e, c1])
 ·(have zz:=trivial;repeat((first|clear zz|with_reducible first|refine A3 ?_|refine A4 fun _=>?_|refine A5 fun _=>?_);try simp(disch:=first|omega|assumption|((repeat(first|exact A1|exact uH|apply A2|apply uT));first|done|fail)|(simp;first|done|omega|fail))[c1])); exact A9 (by simp [A6e, c1])
def A0F (number : Int) (s : ByteArray) : Nat × Nat := if number = 6 then A1l s else if number = 17 then A1k s else (0, 7)
def L5 (number : Int) (s : ByteArray) : Nat × Nat × Nat × Nat := if (A0F number s).2 ≠ 0 then (0, 0, 0, (A0F number s).2) else (gv s 0 2, gv s 2 2, (A0F number s).1, 0)
def L5.val (x : Nat × Nat × Nat × Nat) : Value := .tuple #[.agg #[.int .i64 x.1, .int .i64 x.2.1, .int .i64 x.2.2.1], .int .i64 x.2.2.2]
theorem B2p (w : World) (s : ByteArray) : (callMethod B7N "gangplank/port.parse" [Value.string s].toArray).run PR w = .ok (.enter 265 #[.agg #[], .string s]) w := by kernel_rfl
theorem B3A (w : World) (s : ByteArray) : (callMethod B7l "gangplank/port.parse" [Value.string s].toArray).run PR w = .ok (.enter 277 #[.agg #[], .string s]) w := by kernel_rfl
theorem B5m (w : World) (f : Int) : (callMethod B7N "gangplank/port.put" [Value.int .i64 f].toArray).run PR w = .ok (.enter 266 #[.agg #[], .int .i64 f]) w := by kernel_rfl
theorem B5H (w : World) (f : Int) : (callMethod B7l "gangplank/port.put" [Value.int .i64 f].toArray).run PR w = .ok (.enter 278 #[.agg #[], .int .i64 f]) w := by kernel_rfl
theorem B6v (w : World) (s : ByteArray) (hs : s.size < 2 ^ 40) (number : Int) : Fn PR B3 101 #[.int .i64 number, .string s] w (fun v w' => v = L5.val (L5 number s) ∧ C1 [] w w') := by
 refine Fn.pure (B5S (TW.go (κ := false) (S := []) ?_))
 unfold A8x
 (have zz:=trivial;repeat((first|clear zz|with_reducible first|refine A3 ?_|refine A4 fun _=>?_|refine A5 fun _=>?_);try simp(disch:=first|omega|assumption|((repeat(first|exact A1|exact uH|apply A2|apply uT));first|done|fail)|(simp;first|done|omega|fail))[]))
 refine G3 A6C (fun w' _ => B5B w') ?_
 rintro r v rfl
 (have zz:=trivial;repeat((first|clear zz|with_reducible first|refine A3 ?_|refine A4 fun _=>?_|refine A5 fun _=>?_);try simp(disch:=first|omega|assumption|((repeat(first|exact A1|exact uH|apply A2|apply uT));first|done|fail)|(simp;first|done|omega|fail))[]))
 rw [B1u B57 B56 (KeyT.int H5) (l := s9) (by (repeat constructor))]
 have l2 : ∀ {f1 : Nat} {b : Nat}, True := fun {_ _} => trivial
 have hg0 := f8 s 0
 have hg2 := f8 s 2
 have e1 : A2L s 0 2 = gv s 0 2 := A4G s 0 2 (by omega) (by omega)
 have e2 : A2L s 2 2 = gv s 2 2 := A4G s 2 2 (by omega) (by omega)
 by_cases c1 : number = 6
 ·rw [show (r7 number s9).getD .nilIface = B7N by subst c1; rfl]
  (have zz:=trivial;repeat((first|clear zz|with_reducible first|refine A3 ?_|refine A4 fun _=>?_|refine A5 fun _=>?_);try simp(disch:=first|omega|assumption|((repeat(first|exact A1|exact uH|apply A2|apply uT));first|done|fail)|(simp;first|done|omega|fail))[A2r, A2z]))
  refine B55 (fun w => B2p w s) (fun w' hw' => B8j w' s hs) ?_
  by_cases c2 : (A1l s).2 = 0
  ·(have zz:=trivial;repeat((first|clear zz|with_reducible first|refine A3 ?_|refine A4 fun _=>?_|refine A5 fun _=>?_);try simp(disch:=first|omega|assumption|((repeat(first|exact A1|exact uH|apply A2|apply uT));first|done|fail)|(simp;first|done|omega|fail))[c2]))
   refine B8 U4 (fun w' _ => A3B w' s (by omega) _ _) ?_
   (have zz:=trivial;repeat((first|clear zz|with_reducible first|refine A3 ?_|refine A4 fun _=>?_|refine A5 fun _=>?_);try simp(disch:=first|omega|assumption|((repeat(first|exact A1|exact uH|apply A2|apply uT));first|done|fail)|(simp;first|done|omega|fail))[e1]))
   refine B8 U4 (fun w' _ => A3B w' s (by omega) _ _) ?_
   (have zz:=trivial;repeat((first|clear zz|with_reducible first|refine A3 ?_|refine A4 fun _=>?_|refine A5 fun _=>?_);try simp(disch:=first|omega|assumption|((repeat(first|exact A1|exact uH|apply A2|apply uT));first|done|fail)|(simp;first|done|omega|fail))[e1, e2]))
   exact A9 (by simp [L5, A0F, L5.val, c1, c2])
  ·(have zz:=trivial;repeat((first|clear zz|with_reducible first|refine A3 ?_|refine A4 fun _=>?_|refine A5 fun _=>?_);try simp(disch:=first|omega|assumption|((repeat(first|exact A1|exact uH|apply A2|apply uT));first|done|fail)|(simp;first|done|omega|fail))[c2]))
   exact A9 (by simp [L5, A0F, L5.val, c1, c2])
 by_cases c1' : number = 17
 ·rw [show (r7 number s9).getD .nilIface = B7l by subst c1'; rfl]
  (have zz:=trivial;repeat((first|clear zz|with_reducible first|refine A3 ?_|refine A4 fun _=>?_|refine A5 fun _=>?_);try simp(disch:=first|omega|assumption|((repeat(first|exact A1|exact uH|apply A2|apply uT));first|done|fail)|(simp;first|done|omega|fail))[A2r, A2z]))
  refine B55 (fun w => B3A w s) (fun w' hw' => B8C w' s hs) ?_
  by_cases c2 : (A1k s).2 = 0
  ·(have zz:=trivial;repeat((first|clear zz|with_reducible first|refine A3 ?_|refine A4 fun _=>?_|refine A5 fun _=>?_);try simp(disch:=first|omega|assumption|((repeat(first|exact A1|exact uH|apply A2|apply uT));first|done|fail)|(simp;first|done|omega|fail))[c2]))
   refine B8 U4 (fun w' _ => A3B w' s (by omega) _ _) ?_
   (have zz:=trivial;repeat((first|clear zz|with_reducible first|refine A3 ?_|refine A4 fun _=>?_|refine A5 fun _=>?_);try simp(disch:=first|omega|assumption|((repeat(first|exact A1|exact uH|apply A2|apply uT));first|done|fail)|(simp;first|done|omega|fail))[e1]))
   refine B8 U4 (fun w' _ => A3B w' s (by omega) _ _) ?_
   (have zz:=trivial;repeat((first|clear zz|with_reducible first|refine A3 ?_|refine A4 fun _=>?_|refine A5 fun _=>?_);try simp(disch:=first|omega|assumption|((repeat(first|exact A1|exact uH|apply A2|apply uT));first|done|fail)|(simp;first|done|omega|fail))[e1, e2]))
   exact A9 (by simp [L5, A0F, L5.val, c1', c2])
  ·(have zz:=trivial;repeat((first|clear zz|with_reducible first|refine A3 ?_|refine A4 fun _=>?_|refine A5 fun _=>?_);try simp(disch:=first|omega|assumption|((repeat(first|exact A1|exact uH|apply A2|apply uT));first|done|fail)|(simp;first|done|omega|fail))[c2]))
   exact A9 (by simp [L5, A0F, L5.val, c1', c2])
 ·rw [show (r7 number s9).getD .nilIface = .nilIface by simp [r7, s9, c1, c1']]
  (have zz:=trivial;repeat((first|clear zz|with_reducible first|refine A3 ?_|refine A4 fun _=>?_|refine A5 fun _=>?_);try simp(disch:=first|omega|assumption|((repeat(first|exact A1|exact uH|apply A2|apply uT));first|done|fail)|(simp;first|done|omega|fail))[A2r, A2z]))
  exact A9 (by simp [L5, A0F, L5.val, c1, c1'])
theorem u6 (s : ByteArray) : s ++ Q8 = s := by apply ByteArray.ext; rw [ByteArray.data_append]; simp
theorem n5 (s : ByteArray) : Q8 ++ s = s := by apply ByteArray.ext; rw [ByteArray.data_append]; simp
def Y0 (x : Int) : ByteArray := if 0 ≤ x ∧ x ≤ 65535 then E4 x 2 else Q8
def G5 (x y : Int) : Bool := decide (0 ≤ x ∧ x ≤ 65535 ∧ 0 ≤ y ∧ y ≤ 65535)
theorem B7L (w : World) (x y z : Int) : Fn PR B3 93 #[.agg #[.int .i64 x, .int .i64 y, .int .i64 z]] w (fun v w' => v = .tuple #[.string (Y0 x ++ Y0 y), .bool (G5 x y)] ∧ C1 [] w w') := by
 refine Fn.pure (B5l (TW.go (κ := false) (S := []) ?_))
 unfold A81
 by_cases c1 : 0 ≤ x ∧ x ≤ 65535
 ·have c1' := c1.1; have c1'' := c1.2
  (have zz:=trivial;repeat((first|clear zz|with_reducible first|refine A3 ?_|refine A4 fun _=>?_|refine A5 fun _=>?_);try simp(disch:=first|omega|assumption|((repeat(first|exact A1|exact uH|apply A2|apply uT));first|done|fail)|(simp;first|done|omega|fail))[c1', c1'']))
  refine B8 G8 (fun w' hw' => d9 w' _ _) ?_
  by_cases c2 : 0 ≤ y ∧ y ≤ 65535
  ·have c2' := c2.1; have c2'' := c2.2
   (have zz:=trivial;repeat((first|clear zz|with_reducible first|refine A3 ?_|refine A4 fun _=>?_|refine A5 fun _=>?_);try simp(disch:=first|omega|assumption|((repeat(first|exact A1|exact uH|apply A2|apply uT));first|done|fail)|(simp;first|done|omega|fail))[c1', c1'', c2', c2'']))
   refine B8 G8 (fun w' hw' => d9 w' _ _) ?_
   (have zz:=trivial;repeat((first|clear zz|with_reducible first|refine A3 ?_|refine A4 fun _=>?_|refine A5 fun _=>?_);try simp(disch:=first|omega|assumption|((repeat(first|exact A1|exact uH|apply A2|apply uT));first|done|fail)|(simp;first|done|omega|fail))[c1', c1'', c2', c2'', P0]))
   exact A9 (by simp [u6, n5, Y0, G5, c1, c2])
  ·by_cases c3 : 0 ≤ y
   ·have c4 : ¬ y ≤ 65535 := fun h => c2 ⟨c3, h⟩
    (have zz:=trivial;repeat((first|clear zz|with_reducible first|refine A3 ?_|refine A4 fun _=>?_|refine A5 fun _=>?_);try simp(disch:=first|omega|assumption|((repeat(first|exact A1|exact uH|apply A2|apply uT));first|done|fail)|(simp;first|done|omega|fail))[c1', c1'', c3, c4]))
    exact A9 (by simp [u6, n5, Y0, G5, c1, c3, c4])
   ·(have zz:=trivial;repeat((first|clear zz|with_reducible first|refine A3 ?_|refine A4 fun _=>?_|refine A5 fun _=>?_);try simp(disch:=first|omega|assumption|((repeat(first|exact A1|exact uH|apply A2|apply uT));first|done|fail)|(simp;first|done|omega|fail))[c1', c1'', c3]))
    exact A9 (by simp [u6, n5, Y0, G5, c1, c3])
 ·have hn : Y0 x = Q8 := by simp [Y0, c1]
  have ho : G5 x y = false := by simp only [G5, decide_eq_false_iff_not]; exact fun h => c1 ⟨h.1, h.2.1⟩
  rw [hn, ho]
  have key : ∀ bx, TW false [] w [.pt bx (.cells #[.int .i64 x, .int .i64 y, .int .i64 z] 119)] = TW false [] w [.pt bx (.cells #[.int .i64 x, .int .i64 y, .int .i64 z] 119)] := fun _ => rfl
  by_cases c0 : 0 ≤ x
  ·have c0' : ¬ x ≤ 65535 := fun h => c1 ⟨c0, h⟩
   by_cases c2 : 0 ≤ y ∧ y ≤ 65535
   ·have c2' := c2.1; have c2'' := c2.2
    (have zz:=trivial;repeat((first|clear zz|with_reducible first|refine A3 ?_|refine A4 fun _=>?_|refine A5 fun _=>?_);try simp(disch:=first|omega|assumption|((repeat(first|exact A1|exact uH|apply A2|apply uT));first|done|fail)|(simp;first|done|omega|fail))[c0, c0', c2', c2'']))
    refine B8 G8 (fun w' hw' => d9 w' _ _) ?_
    (have zz:=trivial;repeat((first|clear zz|with_reducible first|refine A3 ?_|refine A4 fun _=>?_|refine A5 fun _=>?_);try simp(disch:=first|omega|assumption|((repeat(first|exact A1|exact uH|apply A2|apply uT));first|done|fail)|(simp;first|done|omega|fail))[c0, c0', c2', c2'', P0]))
    exact A9 (by simp [u6, n5, Y0, c2])
   ·by_cases c3 : 0 ≤ y
    ·have c4 : ¬ y ≤ 65535 := fun h => c2 ⟨c3, h⟩
     (have zz:=trivial;repeat((first|clear zz|with_reducible first|refine A3 ?_|refine A4 fun _=>?_|refine A5 fun _=>?_);try simp(disch:=first|omega|assumption|((repeat(first|exact A1|exact uH|apply A2|apply uT));first|done|fail)|(simp;first|done|omega|fail))[c0, c0', c3, c4]))
     exact A9 (by simp [u6, n5, Y0, c3, c4])
    ·(have zz:=trivial;repeat((first|clear zz|with_reducible first|refine A3 ?_|refine A4 fun _=>?_|refine A5 fun _=>?_);try simp(disch:=first|omega|assumption|((repeat(first|exact A1|exact uH|apply A2|apply uT));first|done|fail)|(simp;first|done|omega|fail))[c0, c0', c3]))
     exact A9 (by simp [u6, n5, Y0, c3])
  ·by_cases c2 : 0 ≤ y ∧ y ≤ 65535
   ·have c2' := c2.1; have c2'' := c2.2
    (have zz:=trivial;repeat((first|clear zz|with_reducible first|refine A3 ?_|refine A4 fun _=>?_|refine A5 fun _=>?_);try simp(disch:=first|omega|assumption|((repeat(first|exact A1|exact uH|apply A2|apply uT));first|done|fail)|(simp;first|done|omega|fail))[c0, c2', c2'']))
    refine B8 G8 (fun w' hw' => d9 w' _ _) ?_
    (have zz:=trivial;repeat((first|clear zz|with_reducible first|refine A3 ?_|refine A4 fun _=>?_|refine A5 fun _=>?_);try simp(disch:=first|omega|assumption|((repeat(first|exact A1|exact uH|apply A2|apply uT));first|done|fail)|(simp;first|done|omega|fail))[c0, c2', c2'', P0]))
    exact A9 (by simp [u6, n5, Y0, c2])
   ·by_cases c3 : 0 ≤ y
    ·have c4 : ¬ y ≤ 65535 := fun h => c2 ⟨c3, h⟩
     (have zz:=trivial;repeat((first|clear zz|with_reducible first|refine A3 ?_|refine A4 fun _=>?_|refine A5 fun _=>?_);try simp(disch:=first|omega|assumption|((repeat(first|exact A1|exact uH|apply A2|apply uT));first|done|fail)|(simp;first|done|omega|fail))[c0, c3, c4]))
     exact A9 (by simp [u6, n5, Y0, c3, c4])
    ·(have zz:=trivial;repeat((first|clear zz|with_reducible first|refine A3 ?_|refine A4 fun _=>?_|refine A5 fun _=>?_);try simp(disch:=first|omega|assumption|((repeat(first|exact A1|exact uH|apply A2|apply uT));first|done|fail)|(simp;first|done|omega|fail))[c0, c3]))
     exact A9 (by simp [u6, n5, Y0, c3])
def A28 (number f : Int) : ByteArray × Nat := if number = 6 then A4H f else if number = 17 then A6e f else (Q8, 7)
def Y4 (number x y f : Int) : ByteArray × Nat := if number ≠ 6 ∧ number ≠ 17 then (Q8, 7) else if G5 x y = false ∨ (A28 number f).2 ≠ 0 then (Q8, 1) else (E4 x 2 ++ E4 y 2 ++ (A28 number f).1, 0)
theorem B6g {x y : Int} (h : G5 x y = true) : Y0 x ++ Y0 y = E4 x 2 ++ E4 y 2 := by
 simp only [G5, decide_eq_true_eq] at h
 unfold Y0; rw [if_pos (by omega), if_pos (by omega)]
theorem A8q (w : World) (number x y f : Int) : Fn PR B3 51 #[.int .i64 number, .agg #[.int .i64 x, .int .i64 y, .int .i64 f]] w (fun v w' => v = .tuple #[.string (Y4 number x y f).1, .int .i64 (Y4 number x y f).2] ∧ C1 [] w w') := by
 refine Fn.pure (B8Z (TW.go (κ := false) (S := []) ?_))
 unfold B1a
 (have zz:=trivial;repeat((first|clear zz|with_reducible first|refine A3 ?_|refine A4 fun _=>?_|refine A5 fun _=>?_);try simp(disch:=first|omega|assumption|((repeat(first|exact A1|exact uH|apply A2|apply uT));first|done|fail)|(simp;first|done|omega|fail))[]))
 refine G3 A6C (fun w' _ => B5B w') ?_
 rintro r v rfl
 (have zz:=trivial;repeat((first|clear zz|with_reducible first|refine A3 ?_|refine A4 fun _=>?_|refine A5 fun _=>?_);try simp(disch:=first|omega|assumption|((repeat(first|exact A1|exact uH|apply A2|apply uT));first|done|fail)|(simp;first|done|omega|fail))[]))
 rw [B1u B57 B56 (KeyT.int H5) (l := s9) (by (repeat constructor))]
 by_cases c1 : number = 6
 ·rw [show (r7 number s9).getD .nilIface = B7N by subst c1; rfl]
  (have zz:=trivial;repeat((first|clear zz|with_reducible first|refine A3 ?_|refine A4 fun _=>?_|refine A5 fun _=>?_);try simp(disch:=first|omega|assumption|((repeat(first|exact A1|exact uH|apply A2|apply uT));first|done|fail)|(simp;first|done|omega|fail))[A2r, A2z]))
  refine B8 A7x (fun w' hw' => B7L w' _ _ _) ?_
  (have zz:=trivial;repeat((first|clear zz|with_reducible first|refine A3 ?_|refine A4 fun _=>?_|refine A5 fun _=>?_);try simp(disch:=first|omega|assumption|((repeat(first|exact A1|exact uH|apply A2|apply uT));first|done|fail)|(simp;first|done|omega|fail))[]))
  refine B55 (fun w => B5m w f) (fun w' hw' => C1H w' f) ?_
  cases c3 : G5 x y with
  | false => (have zz:=trivial;repeat((first|clear zz|with_reducible first|refine A3 ?_|refine A4 fun _=>?_|refine A5 fun _=>?_);try simp(disch:=first|omega|assumption|((repeat(first|exact A1|exact uH|apply A2|apply uT));first|done|fail)|(simp;first|done|omega|fail))[c3])); exact A9 (by simp [Y4, c1, c3])
  | true =>
   have hp := B6g c3
   by_cases c2 : (A4H f).2 = 0
   ·have hz : (Y0 x).size + (Y0 y).size + (A4H f).1.size < 2 ^ 30 := by
     have := congrArg ByteArray.size hp
     simp at this
     have h6 := T0 6
     have h8 := T0 8
     have : (A4H f).1.size ≤ 100 := by unfold A4H; split <;> simp [h6, h8]
     omega
    (have zz:=trivial;repeat((first|clear zz|with_reducible first|refine A3 ?_|refine A4 fun _=>?_|refine A5 fun _=>?_);try simp(disch:=first|omega|assumption|((repeat(first|exact A1|exact uH|apply A2|apply uT));first|done|fail)|(simp;first|done|omega|fail))[c2, c3, P0]))
    exact A9 (by simp [Y4, A28, c1, c2, c3, hp])
   ·(have zz:=trivial;repeat((first|clear zz|with_reducible first|refine A3 ?_|refine A4 fun _=>?_|refine A5 fun _=>?_);try simp(disch:=first|omega|assumption|((repeat(first|exact A1|exact uH|apply A2|apply uT));first|done|fail)|(simp;first|done|omega|fail))[c2, c3]))
    exact A9 (by simp [Y4, A28, c1, c2, c3])
 by_cases c1' : number = 17
 ·rw [show (r7 number s9).getD .nilIface = B7l by subst c1'; rfl]
  (have zz:=trivial;repeat((first|clear zz|with_reducible first|refine A3 ?_|refine A4 fun _=>?_|refine A5 fun _=>?_);try simp(disch:=first|omega|assumption|((repeat(first|exact A1|exact uH|apply A2|apply uT));first|done|fail)|(simp;first|done|omega|fail))[A2r, A2z]))
  refine B8 A7x (fun w' hw' => B7L w' _ _ _) ?_
  (have zz:=trivial;repeat((first|clear zz|with_reducible first|refine A3 ?_|refine A4 fun _=>?_|refine A5 fun _=>?_);try simp(disch:=first|omega|assumption|((repeat(first|exact A1|exact uH|apply A2|apply uT));first|done|fail)|(simp;first|done|omega|fail))[]))
  refine B55 (fun w => B5H w f) (fun w' hw' => C20 w' f) ?_
  cases c3 : G5 x y with
  | false => (have zz:=trivial;repeat((first|clear zz|with_reducible first|refine A3 ?_|refine A4 fun _=>?_|refine A5 fun _=>?_);try simp(disch:=first|omega|assumption|((repeat(first|exact A1|exact uH|apply A2|apply uT));first|done|fail)|(simp;first|done|omega|fail))[c3])); exact A9 (by simp [Y4, c1', c3])
  | true =>
   have hp := B6g c3
   by_cases c2 : (A6e f).2 = 0
   ·have hz : (Y0 x).size + (Y0 y).size + (A6e f).1.size < 2 ^ 30 := by
     have := congrArg ByteArray.size hp
     simp at this
     have : (A6e f).1.size ≤ 100 := by unfold A6e; split <;> simp
     omega
    (have zz:=trivial;repeat((first|clear zz|with_reducible first|refine A3 ?_|refine A4 fun _=>?_|refine A5 fun _=>?_);try simp(disch:=first|omega|assumption|((repeat(first|exact A1|exact uH|apply A2|apply uT));first|done|fail)|(simp;first|done|omega|fail))[c2, c3, P0]))
    exact A9 (by simp [Y4, A28, c1', c2, c3, hp])
   ·(have zz:=trivial;repeat((first|clear zz|with_reducible first|refine A3 ?_|refine A4 fun _=>?_|refine A5 fun _=>?_);try simp(disch:=first|omega|assumption|((repeat(first|exact A1|exact uH|apply A2|apply uT));first|done|fail)|(simp;first|done|omega|fail))[c2, c3]))
    exact A9 (by simp [Y4, A28, c1', c2, c3])
 ·rw [show (r7 number s9).getD .nilIface = .nilIface by simp [r7, s9, c1, c1']]
  (have zz:=trivial;repeat((first|clear zz|with_reducible first|refine A3 ?_|refine A4 fun _=>?_|refine A5 fun _=>?_);try simp(disch:=first|omega|assumption|((repeat(first|exact A1|exact uH|apply A2|apply uT));first|done|fail)|(simp;first|done|omega|fail))[A2r, A2z]))
  exact A9 (by simp [Y4, c1, c1'])
end Go.Proofs.YtpbmephflllolaaGreat
