/- The proof of a given statement, a part of it (Map ShIp6 ShIp4 ShSum Sum Ip4 Ip6 Port). No condition but what each lemma says. -/
import Derived.MapKept
import Derived.Test.YtjobgnabneddjaaGreatN10
set_option linter.unusedVariables false
set_option linter.unusedSimpArgs false
namespace Go.Proofs.YtjobgnabneddjaaGreat
open Go
section
variable {κ : Type} [DecidableEq κ]
def W4 (enc : κ → Value) : List (κ × Value) → Nat → List MapEntry
 | [], _ => []
 | p :: l, i => ⟨enc p.1, p.2, i⟩ :: W4 enc l (i + 1)
def s9 (enc : κ → Value) (l : List (κ × Value)) : Obj := .map (W4 enc l 0).toArray l.length
def A3p (k : κ) : List (κ × Value) → Nat → Option (Nat × Value)
 | [], _ => none
 | p :: l, i => if k = p.1 then some (i, p.2) else A3p k l (i + 1)
def p8 (k : κ) : List (κ × Value) → Option Value
 | [] => none
 | p :: l => if k = p.1 then some p.2 else p8 k l
def n7 (k : κ) (v : Value) : List (κ × Value) → List (κ × Value)
 | [] => [(k, v)]
 | p :: l => if k = p.1 then (k, v) :: l else p :: n7 k v l
theorem C29 (k k' : κ) (v : Value) (l : List (κ × Value)) : p8 k' (n7 k v l) = if k' = k then some v else p8 k' l := by
 induction l with
 | nil => simp [n7, p8]
 | cons p l ih =>
  simp only [n7]
  by_cases h : k = p.1
  ·rw [if_pos h]; simp only [p8]
   by_cases h' : k' = k
   ·rw [if_pos h', if_pos h']
   ·rw [if_neg h', if_neg h', if_neg (by rw [← h]; exact h')]
  ·rw [if_neg h]; simp only [p8, ih]
   by_cases h' : k' = p.1
   ·rw [if_pos h', if_pos h', if_neg (by rw [h']; exact fun e => h e.symm)]
   ·rw [if_neg h', if_neg h']
theorem C2y (k : κ) (l : List (κ × Value)) (i : Nat) : (A3p k l i).map (·.2) = p8 k l := by
 induction l generalizing i with
 | nil => rfl
 | cons p l ih => simp only [A3p, p8]; split <;> simp [ih]
@[simp] theorem D46 {α : Type} (enc : α → Value) (l : List (α × Value)) (i : Nat) : (W4 enc l i).length = l.length := by
 induction l generalizing i with
 | nil => rfl
 | cons p l ih => simp [W4, ih]
theorem B9L {α : Type} (enc : α → Value) (l m : List (α × Value)) (i : Nat) : W4 enc (l ++ m) i = W4 enc l i ++ W4 enc m (i + l.length) := by
 induction l generalizing i with
 | nil => simp [W4]
 | cons p l ih => simp only [List.cons_append, W4, ih, List.length_cons]; congr 3; omega
theorem C3E (k : κ) (v : Value) (l : List (κ × Value)) (j : Nat) (h : A3p k l j = none) : n7 k v l = l ++ [(k, v)] := by
 induction l generalizing j with
 | nil => rfl
 | cons p l ih =>
  simp only [A3p] at h
  split at h
  ·cases h
  ·rename_i hn; simp only [n7, if_neg hn, List.cons_append, ih _ h]
theorem C5C (enc : κ → Value) (k : κ) (v : Value) (l : List (κ × Value)) : ∀ (j n : Nat) (u : Value), A3p k l j = some (n, u) → j ≤ n ∧ n < j + l.length ∧ ((W4 enc l j)[n - j]?).map (·.key) = some (enc k) ∧
  W4 enc (n7 k v l) j = (W4 enc l j).modify (n - j) (fun e => { e with key := enc k, val := v }) := by
 induction l with
 | nil => intro j n u h; cases h
 | cons p l ih =>
  intro j n u h
  simp only [A3p] at h
  split at h
  ·rename_i hk; cases h
   refine ⟨Nat.le_refl _, by simp, by simp [W4, hk], ?_⟩
   simp only [n7, if_pos hk, W4, Nat.sub_self, List.modify_zero_cons]
  ·rename_i hn
   obtain ⟨h1, h2, h3, h4⟩ := ih _ _ _ h
   have e : n - j = n - (j + 1) + 1 := by omega
   refine ⟨by omega, by simp only [List.length_cons]; omega, by rw [e]; simpa [W4] using h3, ?_⟩
   simp only [n7, if_neg hn, W4, e, List.modify_succ_cons, h4]
structure KeyT (P : Program) (kt : TypeId) (enc : κ → Value) : Prop where
 find : ∀ k l j w, (Instr.findKey kt (enc k) (W4 enc l j)).run P w = .ok (A3p k l 0) w
 check : ∀ k e w, (Instr.checkKey e 10000 kt (enc k)).run P w = .ok () w
 stays : ∀ k, Instr.sameBits 10000 (enc k) (enc k) = true
theorem B0y {d : TypeDesc} {enc : κ → Value} (hs : ∀ a b, Instr.sameNow d (enc a) (enc b) = some (decide (a = b))) (k : κ) (l : List (κ × Value)) : ∀ j i, Instr.findNow d (enc k) (W4 enc l j) i = some (A3p k l i) := by
 induction l with
 | nil => intro j i; rfl
 | cons p l ih =>
  intro j i
  simp only [W4, Instr.findNow, hs, A3p]
  by_cases h : k = p.1
  ·simp [h]
  ·simp [h, ih]
end
theorem KeyT.int {P : Program} {kt : TypeId} {n m : Nat} {z : Value} (h : TI P kt (.int .i64) n m z) : KeyT P kt (fun a : Int => Value.int .i64 a) := by
 refine ⟨fun k l j w => ?_, fun k e w => ?_, fun k => ?_⟩
 ·exact MapKept.run_findKey h.und (B0y (fun a b => by simp [Instr.sameNow]; exact B4n a b) k l j 0)
 ·exact MapKept.run_checkKey h.und (by trivial) e 9999
 ·simp [Instr.sameBits]
theorem KeyT.string {P : Program} {kt : TypeId} {n m : Nat} {z : Value} (h : TI P kt .string n m z) : KeyT P kt Value.string := by
 refine ⟨fun k l j w => ?_, fun k e w => ?_, fun k => ?_⟩
 ·exact MapKept.run_findKey h.und (B0y (fun a b => by simp only [Instr.sameNow, C3n]) k l j 0)
 ·exact MapKept.run_checkKey h.und (by trivial) e 9999
 ·simp only [Instr.sameBits, C3n, decide_true]
section
variable {κ : Type} [DecidableEq κ] {enc : κ → Value} {σ : Bool} {P : Program} {X : Nat → Prop} {S : List Nat} {w0 : World} {H H' : List Res} {K : Value → WP} {K0 : WP} {t kt et : TypeId} {n m n2 m2 : Nat} {z z2 : Value} {d : TypeDesc}
theorem C0Y {α : Type} (enc : α → Value) (hK : ∀ r, TW σ S w0 (.pt r (s9 enc []) :: H) (K (.map (some r)))) : TW σ S w0 H (B3 P X (Instr.makeMap t none) K) := fun w hw => by
 have : (Instr.makeMap t none).run P w = .ok (.map (some (sz w))) (w.alloc (s9 enc [])) := by simp [Instr.makeMap, run_newObj, s9, W4, sz]
 rw [W6 this (Sk.alloc X w _ (Or.inl rfl))]
 exact hK _ _ (hw.new rfl (Or.inl rfl))
theorem B2f (hm : TI P t (.map kt et) n m z) (he : TI P et d n2 m2 z2) (hk : KeyT P kt enc) {r : Nat} {l : List (κ × Value)} {k : κ} (hr : Res.pt r (s9 enc l) ∈ H) :
  TW σ S w0 H (A6 P (Instr.lookup t (.map (some r)) (enc k) false) K) = TW σ S w0 H (K ((p8 k l).getD z2)) := TW.congr fun w hw => by
 have hb : w.heap[r]? = some (.map (W4 enc l 0).toArray l.length) := hw.pt hr
 refine T1 ?_ K
 have h1 : (getObj r).run P w = .ok (.map (W4 enc l 0).toArray l.length) w := MapKept.run_getObj_map hb
 simp only [Instr.lookup, Sem.run_bind, hm.run_und, Result.andThen_ok, h1, Sem.run_pure, hk.check, hk.find]
 rw [← C2y k l 0]
 cases A3p k l 0 with
 | none => simp [he.run_zero]
 | some p => simp
theorem B2m (hm : TI P t (.map kt et) n m z) (hk : KeyT P kt enc) {r : Nat} {l : List (κ × Value)} {k : κ} {v : Value} (hu : Up (.pt r (s9 enc l)) (.pt r (s9 enc (n7 k v l))) H H') (hK : TW σ S w0 H' K0) :
  TW σ S w0 H (C3 P X (Instr.mapUpdate t (.map (some r)) (enc k) v) K0) := fun w hw => by
 have hmem : Res.pt r (s9 enc l) ∈ H := by obtain ⟨A, B, rfl, _⟩ := hu.parts; simp
 have hb0 := hw.pt hmem
 have hb : w.heap[r]? = some (.map (W4 enc l 0).toArray l.length) := hb0
 have h1 : (getObj r).run P w = .ok (.map (W4 enc l 0).toArray l.length) w := MapKept.run_getObj_map hb
 have hrun : (Instr.mapUpdate t (.map (some r)) (enc k) v).run P w = .ok () (World.putb w r (s9 enc (n7 k v l))) := by
  simp only [Instr.mapUpdate, Sem.run_bind, hm.run_und, Result.andThen_ok, h1, hk.check, hk.find]
  cases hf : A3p k l 0 with
  | none =>
   have e := C3E k v l 0 hf
   simp [s9, e, B9L, W4, World.putb, MapKept.run_setObj_map _ hb]
  | some p =>
   obtain ⟨i, u⟩ := p
   obtain ⟨_, h2, h3, h4⟩ := C5C enc k v l 0 i u hf
   have hl : (n7 k v l).length = l.length := by
    have := congrArg List.length h4; simpa using this
   simp only [Nat.sub_zero] at h3 h4
   simp [s9, h4, hl, World.putb, MapKept.run_setObj_map _ hb, Instr.keyThatStays, h3, hk.stays]
 have hks : KS σ [r] w (World.putb w r (s9 enc (n7 k v l))) := by
  refine ((D2.refl [r] w).putb _ (Or.inl (by simp))).ks fun _ => ?_
  have h2 : ∀ (q : Nat) x, (∀ c T, x ≠ Obj.map c T) → w.heap[q]? = some x → (World.putb w r (s9 enc (n7 k v l))).heap[q]? = some x := fun q x hx e => by
   have : r ≠ q := by rintro rfl; rw [hb] at e; cases e; exact hx _ _ rfl
   exact (q8 (w := w) (o := s9 enc (n7 k v l)) this).trans e
  exact ⟨by simp [World.putb], fun q d => h2 q _ (by simp), fun q lo _ => h2 q _ (by simp), rfl, rfl⟩
 have hsk : Sk X w (World.putb w r (s9 enc (n7 k v l))) := by
  have h2 : ∀ (q : Nat) x, (∀ c T, x ≠ Obj.map c T) → w.heap[q]? = some x → (World.putb w r (s9 enc (n7 k v l))).heap[q]? = some x := fun q x hx e => by
   have : r ≠ q := by rintro rfl; rw [hb] at e; cases e; exact hx _ _ rfl
   exact (q8 (w := w) (o := s9 enc (n7 k v l)) this).trans e
  exact ⟨by simp [World.putb], fun q d => h2 q _ (by simp), fun q lo _ => h2 q _ (by simp), rfl, rfl⟩
 rw [C32 hrun hsk]
 refine hK _ (hw.up hu ⟨hks, ?_, ?_, by simp⟩)
 ·simp only [List.mem_singleton, forall_eq, Res.holds]; exact ⟨T0 (L0 hb0), rfl⟩
 ·simp only [List.mem_singleton, forall_eq, Res.foot]; exact ⟨Or.inl (by simp), by have := L0 hb0; simpa using this⟩
end
end Go.Proofs.YtjobgnabneddjaaGreat
namespace Go.Proofs.YtjobgnabneddjaaGreat
open Go
def B4b (X : Nat → Prop) (t0 t1 : Value) (R : Value → WP) : WP :=
 B3 PR X (Instr.box 224 t0) fun t2 =>
 jn (n := 2) (fun t4 t5 =>
 B3 PR X (Instr.alloc 305 true (.tuple #[])) fun t6 =>
 B5 PR X 172 [t6, (.int .i64 1610612736), (.int .i64 4)] fun t34 =>
 A0 PR (A8 .len #[9] 0 [t1]) fun t36 =>
 B5 PR X 172 [t6, t36, (.int .i64 2)] fun t37 =>
 A0 PR (Instr.fieldAt 224 t2 2) fun t38 =>
 A6 PR (Instr.loadAt 3 t38) fun t39 =>
 B5 PR X 172 [t6, t39, (.int .i64 1)] fun t40 =>
 B5 PR X 172 [t6, (.int .i64 64), (.int .i64 1)] fun t41 =>
 jn (n := 1) (fun t49 =>
 A0 PR (Instr.fieldAt 305 t6 0) fun t57 =>
 B5 PR X 174 [t57] fun t58 =>
 R (.tuple #[t58, (.int .i64 0)])) fun J1 =>
 A0 PR (Instr.fieldAt 224 t2 0) fun t42 =>
 A6 PR (Instr.loadAt 9 t42) fun t43 =>
 A0 PR (Instr.fieldAt 224 t2 1) fun t44 =>
 A6 PR (Instr.loadAt 9 t44) fun t45 =>
 B3 PR X (Instr.buildSlice 51 3 #[(0, t43), (1, t45), (2, t1)]) fun t47 =>
 A0 PR (A8 .len #[51] 0 [t47]) fun t48 =>
 lp (n := 1) (fun L2 t49_1 =>
 A0 PR (binOp .lss 3 t49_1 t48) fun t50 =>
 jn (n := 0) (
 jn (n := 0) (
 A0 PR (binOp .add 3 t49_1 (.int .i64 1)) fun t56 =>
 L2 t56) fun J3 =>
 A0 PR (Instr.indexAt 51 t47 t49_1) fun t51 =>
 A6 PR (Instr.loadAt 9 t51) fun t52 =>
 A0 PR (Instr.fieldAt 305 t6 0) fun t53 =>
 B5 PR X 173 [t53, t52] fun t55 =>
 J3) fun J4 =>
 C6 t50 (
 J4) (
 J1 t49_1)) (.int .i64 0)) fun J5 =>
 A0 PR (Instr.fieldAt 224 t2 0) fun t10 =>
 A6 PR (Instr.loadAt 9 t10) fun t11 =>
 A0 PR (A8 .len #[9] 0 [t11]) fun t12 =>
 A0 PR (binOp .neq 3 t12 (.int .i64 16)) fun t13 =>
 gj t13 false (fun J => A0 PR (Instr.fieldAt 224 t2 1) J) fun t15 =>
 gj t13 false (fun J => A6 PR (Instr.loadAt 9 t15) J) fun t16 =>
 gj t13 false (fun J => A0 PR (A8 .len #[9] 0 [t16]) J) fun t17 =>
 gj t13 false (fun J => A0 PR (binOp .neq 3 t17 (.int .i64 16)) J) fun t18 =>
 A0 PR (do pure (if ← asBool t13 then (.bool true) else t18)) fun t19 =>
 gj t19 false (fun J => A0 PR (Instr.fieldAt 224 t2 2) J) fun t21 =>
 gj t19 false (fun J => A6 PR (Instr.loadAt 3 t21) J) fun t22 =>
 gj t19 false (fun J => A0 PR (binOp .lss 3 t22 (.int .i64 0)) J) fun t23 =>
 A0 PR (do pure (if ← asBool t19 then (.bool true) else t23)) fun t24 =>
 gj t24 false (fun J => A0 PR (Instr.fieldAt 224 t2 2) J) fun t26 =>
 gj t24 false (fun J => A6 PR (Instr.loadAt 3 t26) J) fun t27 =>
 gj t24 false (fun J => A0 PR (binOp .gtr 3 t27 (.int .i64 255)) J) fun t28 =>
 A0 PR (do pure (if ← asBool t24 then (.bool true) else t28)) fun t29 =>
 C6 t29 (
 R (.tuple #[(.string (ByteArray.mk #[])), (.int .i64 1)])) (
 A0 PR (A8 .len #[9] 0 [t1]) fun t32 =>
 A0 PR (binOp .gtr 3 t32 (.int .i64 65535)) fun t33 =>
 C6 t33 (
 R (.tuple #[(.string (ByteArray.mk #[])), (.int .i64 4)])) (
 J5 (.string (ByteArray.mk #[])) (.int .i64 0)))
theorem B9e : A9 PR 125 := A7 Tryz.func125 (by kernel_rfl) rfl
theorem C0q {X : Nat → Prop} {t0 t1 : Value} {R : Value → WP} {w : World} (h : B4b X t0 t1 R w) : Fn PR X 125 #[t0, t1] w R := C8 (args := [t0, t1]) mixed Tryz.func125 (by kernel_rfl) h
def B06 (X : Nat → Prop) (t0 : Value) (R : Value → WP) : WP :=
 B3 PR X (Instr.alloc 224 true (.tuple #[])) fun t2 =>
 jn (n := 2) (fun t3 t4 =>
 jn (n := 2) (fun t3_1 t4_1 =>
 B3 PR X (Instr.buildSlice 37 6 #[(0, (.int .i64 4)), (1, (.int .i64 2)), (2, (.int .i64 1)), (3, (.int .i64 1)), (4, (.int .i64 16)), (5, (.int .i64 16))]) fun t19 =>
 B5 PR X 198 [t0, t19] fun t20 =>
 A0 PR (Instr.indexAt 51 t20 (.int .i64 1)) fun t23 =>
 A6 PR (Instr.loadAt 9 t23) fun t24 =>
 B5 PR X 145 [t24, (.int .i64 0), (.int .i64 2)] fun t25 =>
 A0 PR (Instr.extract t25 0) fun t26 =>
 A0 PR (Instr.extract t25 1) fun t27 =>
 A0 PR (Instr.indexAt 51 t20 (.int .i64 6)) fun t29 =>
 A6 PR (Instr.loadAt 9 t29) fun t30 =>
 jn (n := 2) (fun t3_2 t4_2 =>
 drw <|
 A0 PR (Instr.indexAt 51 t20 (.int .i64 4)) fun t38 =>
 A6 PR (Instr.loadAt 9 t38) fun t39 =>
 A0 PR (Instr.indexAt 51 t20 (.int .i64 5)) fun t41 =>
 A6 PR (Instr.loadAt 9 t41) fun t42 =>
 A0 PR (Instr.indexAt 51 t20 (.int .i64 2)) fun t44 =>
 A6 PR (Instr.loadAt 9 t44) fun t45 =>
 A0 PR (Instr.index 9 t45 (.int .i64 0)) fun t46 =>
 A0 PR (convert 5 3 t46) fun t47 =>
 A0 PR (Instr.build 224 #[(0, t39), (1, t42), (2, t47)]) fun t48 =>
 A0 PR (Instr.sliceAt 9 t30 none (some t26) none) fun t51 =>
 C3 PR X (Instr.storeAt 224 t2 t48) <|
 A6 PR (F5 [.c 224 t2, .v t51, .v (.int .i64 0)]) R) fun J1 =>
 A0 PR (A8 .len #[9] 0 [t30]) fun t33 =>
 A0 PR (convert 3 89 t33) fun t34 =>
 A0 PR (binOp .gtr 89 t26 t34) fun t35 =>
 C6 t35 (
 A0 PR (Instr.build 224 #[]) fun t36 =>
 C3 PR X (Instr.storeAt 224 t2 t36) <|
 A6 PR (F5 [.c 224 t2, .v (.string (ByteArray.mk #[])), .v (.int .i64 4)]) R) (
 J1 t3_1 t4_1)) fun J2 =>
 A0 PR (Instr.index 9 t0 (.int .i64 0)) fun t14 =>
 A0 PR (binOp .shr 5 t14 (.int .u64 4)) fun t15 =>
 A0 PR (binOp .neq 5 t15 (.int .u8 6)) fun t16 =>
 C6 t16 (
 A0 PR (Instr.build 224 #[]) fun t17 =>
 C3 PR X (Instr.storeAt 224 t2 t17) <|
 A6 PR (F5 [.c 224 t2, .v (.string (ByteArray.mk #[])), .v (.int .i64 3)]) R) (
 J2 t3 t4)) fun J3 =>
 A0 PR (A8 .len #[9] 0 [t0]) fun t10 =>
 A0 PR (binOp .lss 3 t10 (.int .i64 40)) fun t11 =>
 C6 t11 (
 A0 PR (Instr.build 224 #[]) fun t12 =>
 C3 PR X (Instr.storeAt 224 t2 t12) <|
 A6 PR (F5 [.c 224 t2, .v (.string (ByteArray.mk #[])), .v (.int .i64 2)]) R) (
 J3 (.string (ByteArray.mk #[])) (.int .i64 0))
theorem B6y : A9 PR 142 := A7 Tryz.func142 (by kernel_rfl) rfl
theorem B79 {X : Nat → Prop} {t0 : Value} {R : Value → WP} {w : World} (h : B06 X t0 R w) : Fn PR X 142 #[t0] w R := C8 (args := [t0]) mixed Tryz.func142 (by kernel_rfl) h
def A1r (X : Nat → Prop) (t0 t1 t2 : Value) (R : Value → WP) : WP :=
 drw <|
 A0 PR (B8 t0) fun t7 =>
 A0 PR (Instr.fieldAt 305 t7 0) fun t8 =>
 A0 PR (convert 3 89 t1) fun t10 =>
 B5 PR X 176 [t10, t2] fun t12 =>
 B5 PR X 173 [t8, t12] fun t13 =>
 R (.tuple #[])
theorem V7 : A9 PR 172 := A7 Tryz.func172 (by kernel_rfl) rfl
theorem A87 {X : Nat → Prop} {t0 t1 t2 : Value} {R : Value → WP} {w : World} (h : A1r X t0 t1 t2 R w) : Fn PR X 172 #[t0, t1, t2] w R := C8 (args := [t0, t1, t2]) mixed Tryz.func172 (by kernel_rfl) h
def B4K (X : Nat → Prop) (t0 t1 : Value) (R : Value → WP) : WP :=
 jn (n := 3) (fun t5 t0_1 t10 =>
 B3 PR X (Instr.buildSlice 51 1 #[(0, t0_1)]) fun t26 =>
 B3 PR X (A8 .append #[51, 51] 51 [t5, t26]) fun t27 =>
 R t27) fun J1 =>
 A0 PR (A8 .len #[37] 0 [t1]) fun t9 =>
 lp (n := 3) (fun L2 t5_1 t0_2 t10_1 =>
 A0 PR (binOp .lss 3 t10_1 t9) fun t11 =>
 jn (n := 0) (
 jn (n := 2) (fun t5_2 t0_3 =>
 A0 PR (binOp .add 3 t10_1 (.int .i64 1)) fun t23 =>
 L2 t5_2 t0_3 t23) fun J3 =>
 A0 PR (Instr.indexAt 37 t1 t10_1) fun t12 =>
 A6 PR (Instr.loadAt 3 t12) fun t13 =>
 A0 PR (Instr.sliceAt 9 t0_2 none (some t13) none) fun t17 =>
 B3 PR X (Instr.buildSlice 51 1 #[(0, t17)]) fun t18 =>
 B3 PR X (A8 .append #[51, 51] 51 [t5_1, t18]) fun t19 =>
 A0 PR (Instr.sliceAt 9 t0_2 (some t13) none none) fun t22 =>
 J3 t19 t22) fun J4 =>
 C6 t11 (
 J4) (
 J1 t5_1 t0_2 t10_1)) (.slice none 0 0) t0 (.int .i64 0)
theorem B9q : A9 PR 198 := A7 Tryz.func198 (by kernel_rfl) rfl
theorem C1v {X : Nat → Prop} {t0 t1 : Value} {R : Value → WP} {w : World} (h : B4K X t0 t1 R w) : Fn PR X 198 #[t0, t1] w R := C8 (args := [t0, t1]) mixed Tryz.func198 (by kernel_rfl) h
end Go.Proofs.YtjobgnabneddjaaGreat
namespace Go.Proofs.YtjobgnabneddjaaGreat
open Go
def B4V (X : Nat → Prop) (t0 t1 : Value) (R : Value → WP) : WP :=
 B3 PR X (Instr.box 226 t0) fun t2 =>
 B3 PR X (Instr.box 9 t1) fun t3 =>
 jn (n := 2) (fun t4 t5 =>
 A0 PR (Instr.makeFunc (.func 175) #[] #[t3, t2]) fun t32 =>
 drw <|
 A6 PR (Instr.loadAt 9 t3) fun t38 =>
 L8 PR X t32 [(.int .i64 0)] fun t35 =>
 watch PR [(none, (Instr.loadAt 9 t3), t38)] <|
 B5 PR X 177 [t35] fun t36 =>
 watch PR [(none, (Instr.loadAt 9 t3), t38)] <|
 L8 PR X t32 [t36] fun t37 =>
 watch PR [(none, (Instr.loadAt 9 t3), t38)] <|
 A0 PR (binOp .add 9 t37 t38) fun t39 =>
 R (.tuple #[t39, (.int .i64 0)])) fun J1 =>
 A0 PR (Instr.fieldAt 226 t2 0) fun t8 =>
 A6 PR (Instr.loadAt 9 t8) fun t9 =>
 A0 PR (A8 .len #[9] 0 [t9]) fun t10 =>
 A0 PR (binOp .neq 3 t10 (.int .i64 4)) fun t11 =>
 gj t11 false (fun J => A0 PR (Instr.fieldAt 226 t2 1) J) fun t13 =>
 gj t11 false (fun J => A6 PR (Instr.loadAt 9 t13) J) fun t14 =>
 gj t11 false (fun J => A0 PR (A8 .len #[9] 0 [t14]) J) fun t15 =>
 gj t11 false (fun J => A0 PR (binOp .neq 3 t15 (.int .i64 4)) J) fun t16 =>
 A0 PR (do pure (if ← asBool t11 then (.bool true) else t16)) fun t17 =>
 gj t17 false (fun J => A0 PR (Instr.fieldAt 226 t2 2) J) fun t19 =>
 gj t17 false (fun J => A6 PR (Instr.loadAt 3 t19) J) fun t20 =>
 gj t17 false (fun J => A0 PR (binOp .lss 3 t20 (.int .i64 0)) J) fun t21 =>
 A0 PR (do pure (if ← asBool t17 then (.bool true) else t21)) fun t22 =>
 gj t22 false (fun J => A0 PR (Instr.fieldAt 226 t2 2) J) fun t24 =>
 gj t22 false (fun J => A6 PR (Instr.loadAt 3 t24) J) fun t25 =>
 gj t22 false (fun J => A0 PR (binOp .gtr 3 t25 (.int .i64 255)) J) fun t26 =>
 A0 PR (do pure (if ← asBool t22 then (.bool true) else t26)) fun t27 =>
 C6 t27 (
 R (.tuple #[(.string (ByteArray.mk #[])), (.int .i64 1)])) (
 A6 PR (Instr.loadAt 9 t3) fun t29 =>
 A0 PR (A8 .len #[9] 0 [t29]) fun t30 =>
 A0 PR (binOp .gtr 3 t30 (.int .i64 65515)) fun t31 =>
 C6 t31 (
 R (.tuple #[(.string (ByteArray.mk #[])), (.int .i64 4)])) (
 J1 (.string (ByteArray.mk #[])) (.int .i64 0)))
theorem B9C : A9 PR 126 := A7 Tryz.func126 (by kernel_rfl) rfl
theorem C0d {X : Nat → Prop} {t0 t1 : Value} {R : Value → WP} {w : World} (h : B4V X t0 t1 R w) : Fn PR X 126 #[t0, t1] w R := C8 (args := [t0, t1]) mixed Tryz.func126 (by kernel_rfl) h
def B0V (X : Nat → Prop) (t0 : Value) (R : Value → WP) : WP :=
 B3 PR X (Instr.box 9 t0) fun t1 =>
 B3 PR X (Instr.alloc 226 true (.tuple #[])) fun t2 =>
 A0 PR (Instr.makeFunc (.func 190) #[] #[t1]) fun t9 =>
 B3 PR X (Instr.alloc 180 true (.tuple #[])) fun t5 =>
 C3 PR X (Instr.storeAt 180 t5 t9) <|
 drw <|
 kt (n := 2) (fun t6 t7 =>
 A0 PR (Instr.makeFunc (.func 192) #[] #[t1]) fun t16 =>
 A0 PR (Instr.build 330 #[(0, t16), (1, (.int .i64 2))]) fun t17 =>
 A0 PR (Instr.makeFunc (.func 193) #[] #[t5]) fun t18 =>
 A0 PR (Instr.build 330 #[(0, t18), (1, (.int .i64 3))]) fun t19 =>
 A0 PR (Instr.makeFunc (.func 194) #[] #[t6, t1, t7]) fun t20 =>
 A0 PR (Instr.build 330 #[(0, t20), (1, (.int .i64 4))]) fun t21 =>
 A0 PR (Instr.makeFunc (.func 195) #[] #[t1, t6]) fun t22 =>
 A0 PR (Instr.build 330 #[(0, t22), (1, (.int .i64 5))]) fun t23 =>
 A0 PR (Instr.makeFunc (.func 197) #[] #[t5]) fun t24 =>
 A0 PR (Instr.build 330 #[(0, t24), (1, (.int .i64 6))]) fun t25 =>
 B3 PR X (Instr.buildSlice 375 5 #[(0, t17), (1, t19), (2, t21), (3, t23), (4, t25)]) fun t26 =>
 B5 PR X 191 [t26] fun t27 =>
 jn (n := 2) (fun t3 t4 =>
 drw <|
 A6 PR (Instr.loadAt 9 t1) fun t32 =>
 A0 PR (Instr.sliceAt 9 t32 (some (.int .i64 12)) (some (.int .i64 16)) none) fun t33 =>
 A6 PR (Instr.loadAt 9 t1) fun t34 =>
 A0 PR (Instr.sliceAt 9 t34 (some (.int .i64 16)) (some (.int .i64 20)) none) fun t35 =>
 A6 PR (Instr.loadAt 180 t5) fun t36 =>
 A6 PR (Instr.loadAt 9 t1) fun t39 =>
 A6 PR (Instr.loadAt 3 t6) fun t40 =>
 A6 PR (Instr.loadAt 3 t7) fun t41 =>
 A0 PR (Instr.sliceAt 9 t39 (some t40) (some t41) none) fun t42 =>
 L8 PR X t36 [(.int .i64 9), (.int .i64 1)] fun t37 =>
 watch PR [(none, (Instr.loadAt 3 t7), t41), (none, (Instr.loadAt 3 t6), t40), (none, (Instr.loadAt 9 t1), t39), (none, (Instr.loadAt 9 t1), t34), (none, (Instr.loadAt 9 t1), t32)] <|
 A0 PR (Instr.build 226 #[(0, t33), (1, t35), (2, t37)]) fun t38 =>
 C3 PR X (Instr.storeAt 226 t2 t38) <|
 watch PR [(none, (Instr.loadAt 3 t7), t41), (none, (Instr.loadAt 3 t6), t40), (none, (Instr.loadAt 9 t1), t39)] <|
 A6 PR (F5 [.c 226 t2, .v t42, .v (.int .i64 0)]) R) fun J1 =>
 A0 PR (binOp .neq 27 t27 (.int .i64 0)) fun t29 =>
 C6 t29 (
 A0 PR (Instr.build 226 #[]) fun t30 =>
 C3 PR X (Instr.storeAt 226 t2 t30) <|
 A6 PR (F5 [.c 226 t2, .v (.string (ByteArray.mk #[])), .v t27]) R) (
 J1 (.string (ByteArray.mk #[])) (.int .i64 0))) fun C2 =>
 A6 PR (Instr.loadAt 180 t5) fun t10_1 =>
 A6 PR (Instr.loadAt 180 t5) fun t14_1 =>
 both (L8 PR X t10_1 [(.int .i64 0), (.int .i64 1)] fun t11_5 =>
 watch PR [(none, (Instr.loadAt 180 t5), t14_1)] <|
 A0 PR (binOp .and 3 t11_5 (.int .i64 15)) fun t12_5 =>
 A0 PR (binOp .mul 3 t12_5 (.int .i64 4)) fun t13_5 =>
 both (L8 PR X t14_1 [(.int .i64 2), (.int .i64 2)] fun t15_11 =>
 both (B3 PR X (Instr.alloc 3 true (.tuple #[])) fun t6_9 =>
 B3 PR X (Instr.alloc 3 true (.tuple #[])) fun t7_9 =>
 C3 PR X (Instr.storeAt 3 t6_9 t13_5) <|
 C3 PR X (Instr.storeAt 3 t7_9 t15_11) <|
 C2 t6_9 t7_9) (both (B3 PR X (Instr.alloc 3 true (.tuple #[])) fun t7_8 =>
 B3 PR X (Instr.alloc 3 true (.tuple #[])) fun t6_8 =>
 C3 PR X (Instr.storeAt 3 t6_8 t13_5) <|
 C3 PR X (Instr.storeAt 3 t7_8 t15_11) <|
 C2 t6_8 t7_8) ((fun _ => True)))) (both (B3 PR X (Instr.alloc 3 true (.tuple #[])) fun t6_7 =>
 watch PR [(none, (Instr.loadAt 180 t5), t14_1)] <|
 both (L8 PR X t14_1 [(.int .i64 2), (.int .i64 2)] fun t15_10 =>
 B3 PR X (Instr.alloc 3 true (.tuple #[])) fun t7_7 =>
 C3 PR X (Instr.storeAt 3 t6_7 t13_5) <|
 C3 PR X (Instr.storeAt 3 t7_7 t15_10) <|
 C2 t6_7 t7_7) (both (B3 PR X (Instr.alloc 3 true (.tuple #[])) fun t7_6 =>
 watch PR [(none, (Instr.loadAt 180 t5), t14_1)] <|
 L8 PR X t14_1 [(.int .i64 2), (.int .i64 2)] fun t15_9 =>
 C3 PR X (Instr.storeAt 3 t6_7 t13_5) <|
 C3 PR X (Instr.storeAt 3 t7_6 t15_9) <|
 C2 t6_7 t7_6) ((fun _ => True)))) (both (B3 PR X (Instr.alloc 3 true (.tuple #[])) fun t7_5 =>
 watch PR [(none, (Instr.loadAt 180 t5), t14_1)] <|
 both (L8 PR X t14_1 [(.int .i64 2), (.int .i64 2)] fun t15_8 =>
 B3 PR X (Instr.alloc 3 true (.tuple #[])) fun t6_6 =>
 C3 PR X (Instr.storeAt 3 t6_6 t13_5) <|
 C3 PR X (Instr.storeAt 3 t7_5 t15_8) <|
 C2 t6_6 t7_5) (both (B3 PR X (Instr.alloc 3 true (.tuple #[])) fun t6_5 =>
 watch PR [(none, (Instr.loadAt 180 t5), t14_1)] <|
 L8 PR X t14_1 [(.int .i64 2), (.int .i64 2)] fun t15_7 =>
 C3 PR X (Instr.storeAt 3 t6_5 t13_5) <|
 C3 PR X (Instr.storeAt 3 t7_5 t15_7) <|
 C2 t6_5 t7_5) ((fun _ => True)))) ((fun _ => True))))) (both (B3 PR X (Instr.alloc 3 true (.tuple #[])) fun t6_4 =>
 watch PR [(none, (Instr.loadAt 180 t5), t14_1), (none, (Instr.loadAt 180 t5), t10_1)] <|
 both (L8 PR X t10_1 [(.int .i64 0), (.int .i64 1)] fun t11_4 =>
 watch PR [(none, (Instr.loadAt 180 t5), t14_1)] <|
 A0 PR (binOp .and 3 t11_4 (.int .i64 15)) fun t12_4 =>
 A0 PR (binOp .mul 3 t12_4 (.int .i64 4)) fun t13_4 =>
 both (L8 PR X t14_1 [(.int .i64 2), (.int .i64 2)] fun t15_6 =>
 B3 PR X (Instr.alloc 3 true (.tuple #[])) fun t7_4 =>
 C3 PR X (Instr.storeAt 3 t6_4 t13_4) <|
 C3 PR X (Instr.storeAt 3 t7_4 t15_6) <|
 C2 t6_4 t7_4) (both (B3 PR X (Instr.alloc 3 true (.tuple #[])) fun t7_3 =>
 watch PR [(none, (Instr.loadAt 180 t5), t14_1)] <|
 L8 PR X t14_1 [(.int .i64 2), (.int .i64 2)] fun t15_5 =>
 C3 PR X (Instr.storeAt 3 t6_4 t13_4) <|
 C3 PR X (Instr.storeAt 3 t7_3 t15_5) <|
 C2 t6_4 t7_3) ((fun _ => True)))) (both (B3 PR X (Instr.alloc 3 true (.tuple #[])) fun t7_2 =>
 watch PR [(none, (Instr.loadAt 180 t5), t14_1), (none, (Instr.loadAt 180 t5), t10_1)] <|
 L8 PR X t10_1 [(.int .i64 0), (.int .i64 1)] fun t11_3 =>
 watch PR [(none, (Instr.loadAt 180 t5), t14_1)] <|
 A0 PR (binOp .and 3 t11_3 (.int .i64 15)) fun t12_3 =>
 A0 PR (binOp .mul 3 t12_3 (.int .i64 4)) fun t13_3 =>
 L8 PR X t14_1 [(.int .i64 2), (.int .i64 2)] fun t15_4 =>
 C3 PR X (Instr.storeAt 3 t6_4 t13_3) <|
 C3 PR X (Instr.storeAt 3 t7_2 t15_4) <|
 C2 t6_4 t7_2) ((fun _ => True)))) (both (B3 PR X (Instr.alloc 3 true (.tuple #[])) fun t7_1 =>
 watch PR [(none, (Instr.loadAt 180 t5), t14_1), (none, (Instr.loadAt 180 t5), t10_1)] <|
 both (L8 PR X t10_1 [(.int .i64 0), (.int .i64 1)] fun t11_2 =>
 watch PR [(none, (Instr.loadAt 180 t5), t14_1)] <|
 A0 PR (binOp .and 3 t11_2 (.int .i64 15)) fun t12_2 =>
 A0 PR (binOp .mul 3 t12_2 (.int .i64 4)) fun t13_2 =>
 both (L8 PR X t14_1 [(.int .i64 2), (.int .i64 2)] fun t15_3 =>
 B3 PR X (Instr.alloc 3 true (.tuple #[])) fun t6_3 =>
 C3 PR X (Instr.storeAt 3 t6_3 t13_2) <|
 C3 PR X (Instr.storeAt 3 t7_1 t15_3) <|
 C2 t6_3 t7_1) (both (B3 PR X (Instr.alloc 3 true (.tuple #[])) fun t6_2 =>
 watch PR [(none, (Instr.loadAt 180 t5), t14_1)] <|
 L8 PR X t14_1 [(.int .i64 2), (.int .i64 2)] fun t15_2 =>
 C3 PR X (Instr.storeAt 3 t6_2 t13_2) <|
 C3 PR X (Instr.storeAt 3 t7_1 t15_2) <|
 C2 t6_2 t7_1) ((fun _ => True)))) (both (B3 PR X (Instr.alloc 3 true (.tuple #[])) fun t6_1 =>
 watch PR [(none, (Instr.loadAt 180 t5), t14_1), (none, (Instr.loadAt 180 t5), t10_1)] <|
 L8 PR X t10_1 [(.int .i64 0), (.int .i64 1)] fun t11_1 =>
 watch PR [(none, (Instr.loadAt 180 t5), t14_1)] <|
 A0 PR (binOp .and 3 t11_1 (.int .i64 15)) fun t12_1 =>
 A0 PR (binOp .mul 3 t12_1 (.int .i64 4)) fun t13_1 =>
 L8 PR X t14_1 [(.int .i64 2), (.int .i64 2)] fun t15_1 =>
 C3 PR X (Instr.storeAt 3 t6_1 t13_1) <|
 C3 PR X (Instr.storeAt 3 t7_1 t15_1) <|
 C2 t6_1 t7_1) ((fun _ => True)))) ((fun _ => True))))
theorem B6U : A9 PR 139 := A7 Tryz.func139 (by kernel_rfl) rfl
theorem B7f {X : Nat → Prop} {t0 : Value} {R : Value → WP} {w : World} (h : B0V X t0 R w) : Fn PR X 139 #[t0] w R := C8 (args := [t0]) mixed Tryz.func139 (by kernel_rfl) h
def A9W (X : Nat → Prop) (t0 t1 t2 : Value) (R : Value → WP) : WP :=
 drw <|
 A6 PR (Instr.loadAt 9 t1) fun t5 =>
 A0 PR (A8 .len #[9] 0 [t5]) fun t6 =>
 A0 PR (binOp .add 3 (.int .i64 20) t6) fun t7 =>
 A0 PR (convert 3 89 t7) fun t8 =>
 A0 PR (Instr.fieldAt 226 t2 2) fun t12 =>
 A6 PR (Instr.loadAt 3 t12) fun t13 =>
 A0 PR (convert 3 89 t13) fun t14 =>
 A0 PR (convert 3 89 t0) fun t18 =>
 A0 PR (Instr.fieldAt 226 t2 0) fun t21 =>
 A6 PR (Instr.loadAt 9 t21) fun t22 =>
 A0 PR (Instr.fieldAt 226 t2 1) fun t24 =>
 A6 PR (Instr.loadAt 9 t24) fun t25 =>
 B5 PR X 176 [t8, (.int .i64 2)] fun t9 =>
 watch PR [(none, (Instr.loadAt 9 t24), t25), (none, (Instr.loadAt 9 t21), t22), (none, (Instr.loadAt 3 t12), t13)] <|
 A0 PR (binOp .add 9 (.string (ByteArray.mk #[69, 0])) t9) fun t10 =>
 A0 PR (binOp .add 9 t10 (.string (ByteArray.mk #[0, 0, 64, 0, 64]))) fun t11 =>
 B5 PR X 176 [t14, (.int .i64 1)] fun t15 =>
 watch PR [(none, (Instr.loadAt 9 t24), t25), (none, (Instr.loadAt 9 t21), t22)] <|
 A0 PR (binOp .add 9 t11 t15) fun t16 =>
 B5 PR X 176 [t18, (.int .i64 2)] fun t19 =>
 watch PR [(none, (Instr.loadAt 9 t24), t25), (none, (Instr.loadAt 9 t21), t22)] <|
 A0 PR (binOp .add 9 t16 t19) fun t20 =>
 A0 PR (binOp .add 9 t20 t22) fun t23 =>
 A0 PR (binOp .add 9 t23 t25) fun t26 =>
 R t26
theorem A7s : A9 PR 175 := A7 Tryz.func175 (by kernel_rfl) rfl
theorem B6d {X : Nat → Prop} {t0 t1 t2 : Value} {R : Value → WP} {w : World} (h : A9W X t0 t1 t2 R w) : Fn PR X 175 #[t0, t1, t2] w R := C8 (args := [t0, t1, t2]) mixed Tryz.func175 (by kernel_rfl) h
def A5Z (X : Nat → Prop) (t0 t1 t2 : Value) (R : Value → WP) : WP :=
 A6 PR (Instr.loadAt 9 t2) fun t9 =>
 B5 PR X 145 [t9, t0, t1] fun t12 =>
 A0 PR (Instr.extract t12 0) fun t13 =>
 A0 PR (Instr.extract t12 1) fun t14 =>
 A0 PR (convert 89 3 t13) fun t16 =>
 R t16
theorem n9 : A9 PR 190 := A7 Tryz.func190 (by kernel_rfl) rfl
theorem B4C {X : Nat → Prop} {t0 t1 t2 : Value} {R : Value → WP} {w : World} (h : A5Z X t0 t1 t2 R w) : Fn PR X 190 #[t0, t1, t2] w R := C8 (args := [t0, t1, t2]) mixed Tryz.func190 (by kernel_rfl) h
def B1J (X : Nat → Prop) (t0 : Value) (R : Value → WP) : WP :=
 jn (n := 2) (fun t3 t8 =>
 R t3) fun J1 =>
 A0 PR (A8 .len #[375] 0 [t0]) fun t7 =>
 lp (n := 2) (fun L2 t3_1 t8_1 =>
 A0 PR (binOp .lss 3 t8_1 t7) fun t9 =>
 jn (n := 0) (
 jn (n := 1) (fun t3_2 =>
 A0 PR (binOp .add 3 t8_1 (.int .i64 1)) fun t17 =>
 L2 t3_2 t17) fun J3 =>
 A0 PR (Instr.indexAt 375 t0 t8_1) fun t10 =>
 A6 PR (Instr.loadAt 330 t10) fun t11 =>
 B3 PR X (Instr.alloc 330 true (.tuple #[])) fun t5 =>
 C3 PR X (Instr.storeAt 330 t5 t11) <|
 A0 PR (Instr.fieldAt 330 t5 0) fun t12 =>
 A6 PR (Instr.loadAt 24 t12) fun t13 =>
 L8 PR X t13 [] fun t14 =>
 C6 t14 (
 A0 PR (Instr.fieldAt 330 t5 1) fun t15 =>
 A6 PR (Instr.loadAt 27 t15) fun t16 =>
 J1 t16 t8_1) (
 J3 t3_1)) fun J4 =>
 C6 t9 (
 J4) (
 J1 t3_1 t8_1)) (.int .i64 0) (.int .i64 0)
theorem B6N : A9 PR 191 := A7 Tryz.func191 (by kernel_rfl) rfl
theorem B73 {X : Nat → Prop} {t0 : Value} {R : Value → WP} {w : World} (h : B1J X t0 R w) : Fn PR X 191 #[t0] w R := C8 (args := [t0]) mixed Tryz.func191 (by kernel_rfl) h
def A5m (X : Nat → Prop) (t0 : Value) (R : Value → WP) : WP :=
 A6 PR (Instr.loadAt 9 t0) fun t2 =>
 A0 PR (A8 .len #[9] 0 [t2]) fun t3 =>
 A0 PR (binOp .lss 3 t3 (.int .i64 20)) fun t4 =>
 R t4
theorem B3E : A9 PR 192 := A7 Tryz.func192 (by kernel_rfl) rfl
theorem B3l {X : Nat → Prop} {t0 : Value} {R : Value → WP} {w : World} (h : A5m X t0 R w) : Fn PR X 192 #[t0] w R := C8 (args := [t0]) mixed Tryz.func192 (by kernel_rfl) h
def A53 (X : Nat → Prop) (t0 : Value) (R : Value → WP) : WP :=
 A6 PR (Instr.loadAt 180 t0) fun t2 =>
 L8 PR X t2 [(.int .i64 0), (.int .i64 1)] fun t3 =>
 A0 PR (binOp .shr 3 t3 (.int .u64 4)) fun t4 =>
 A0 PR (binOp .neq 3 t4 (.int .i64 4)) fun t5 =>
 R t5
theorem B2k : A9 PR 193 := A7 Tryz.func193 (by kernel_rfl) rfl
theorem B37 {X : Nat → Prop} {t0 : Value} {R : Value → WP} {w : World} (h : A53 X t0 R w) : Fn PR X 193 #[t0] w R := C8 (args := [t0]) mixed Tryz.func193 (by kernel_rfl) h
def A5s (X : Nat → Prop) (t0 t1 t2 : Value) (R : Value → WP) : WP :=
 A6 PR (Instr.loadAt 3 t0) fun t4 =>
 A0 PR (binOp .lss 3 t4 (.int .i64 20)) fun t5 =>
 gj t5 false (fun J => A6 PR (Instr.loadAt 3 t0) J) fun t7 =>
 gj t5 false (fun J => A6 PR (Instr.loadAt 9 t1) J) fun t8 =>
 gj t5 false (fun J => A0 PR (A8 .len #[9] 0 [t8]) J) fun t9 =>
 gj t5 false (fun J => A0 PR (binOp .gtr 3 t7 t9) J) fun t10 =>
 A0 PR (do pure (if ← asBool t5 then (.bool true) else t10)) fun t11 =>
 gj t11 false (fun J => A6 PR (Instr.loadAt 3 t2) J) fun t13 =>
 gj t11 false (fun J => A6 PR (Instr.loadAt 3 t0) J) fun t14 =>
 gj t11 false (fun J => A0 PR (binOp .lss 3 t13 t14) J) fun t15 =>
 A0 PR (do pure (if ← asBool t11 then (.bool true) else t15)) fun t16 =>
 gj t16 false (fun J => A6 PR (Instr.loadAt 3 t2) J) fun t18 =>
 gj t16 false (fun J => A6 PR (Instr.loadAt 9 t1) J) fun t19 =>
 gj t16 false (fun J => A0 PR (A8 .len #[9] 0 [t19]) J) fun t20 =>
 gj t16 false (fun J => A0 PR (binOp .gtr 3 t18 t20) J) fun t21 =>
 A0 PR (do pure (if ← asBool t16 then (.bool true) else t21)) fun t22 =>
 R t22
theorem B3B : A9 PR 194 := A7 Tryz.func194 (by kernel_rfl) rfl
theorem B3k {X : Nat → Prop} {t0 t1 t2 : Value} {R : Value → WP} {w : World} (h : A5s X t0 t1 t2 R w) : Fn PR X 194 #[t0, t1, t2] w R := C8 (args := [t0, t1, t2]) mixed Tryz.func194 (by kernel_rfl) h
def A50 (X : Nat → Prop) (t0 t1 : Value) (R : Value → WP) : WP :=
 A6 PR (Instr.loadAt 9 t0) fun t3 =>
 A6 PR (Instr.loadAt 3 t1) fun t4 =>
 A0 PR (Instr.sliceAt 9 t3 none (some t4) none) fun t5 =>
 B5 PR X 196 [t5] fun t6 =>
 A0 PR (Op.unary .not t6) fun t7 =>
 R t7
theorem B3F : A9 PR 195 := A7 Tryz.func195 (by kernel_rfl) rfl
theorem B4E {X : Nat → Prop} {t0 t1 : Value} {R : Value → WP} {w : World} (h : A50 X t0 t1 R w) : Fn PR X 195 #[t0, t1] w R := C8 (args := [t0, t1]) mixed Tryz.func195 (by kernel_rfl) h
def A5e (X : Nat → Prop) (t0 : Value) (R : Value → WP) : WP :=
 A6 PR (Instr.loadAt 180 t0) fun t2 =>
 L8 PR X t2 [(.int .i64 6), (.int .i64 2)] fun t3 =>
 A0 PR (binOp .and 3 t3 (.int .i64 16383)) fun t4 =>
 A0 PR (binOp .neq 3 t4 (.int .i64 0)) fun t5 =>
 R t5
theorem B24 : A9 PR 197 := A7 Tryz.func197 (by kernel_rfl) rfl
theorem B3p {X : Nat → Prop} {t0 : Value} {R : Value → WP} {w : World} (h : A5e X t0 R w) : Fn PR X 197 #[t0] w R := C8 (args := [t0]) mixed Tryz.func197 (by kernel_rfl) h
end Go.Proofs.YtjobgnabneddjaaGreat
namespace Go.Proofs.YtjobgnabneddjaaGreat
open Go
def B4m (X : Nat → Prop) (t0 : Value) (R : Value → WP) : WP :=
 B5 PR X 233 [t0] fun t4 =>
 A0 PR (binOp .sub 3 (.int .i64 65535) t4) fun t5 =>
 R t5
theorem B9U : A9 PR 177 := A7 Tryz.func177 (by kernel_rfl) rfl
theorem C15 {X : Nat → Prop} {t0 : Value} {R : Value → WP} {w : World} (h : B4m X t0 R w) : Fn PR X 177 #[t0] w R := C8 (args := [t0]) mixed Tryz.func177 (by kernel_rfl) h
def B2G (X : Nat → Prop) (t0 : Value) (R : Value → WP) : WP :=
 B5 PR X 233 [t0] fun t4 =>
 A0 PR (binOp .eql 3 t4 (.int .i64 65535)) fun t5 =>
 R t5
theorem B7v : A9 PR 196 := A7 Tryz.func196 (by kernel_rfl) rfl
theorem B9A {X : Nat → Prop} {t0 : Value} {R : Value → WP} {w : World} (h : B2G X t0 R w) : Fn PR X 196 #[t0] w R := C8 (args := [t0]) mixed Tryz.func196 (by kernel_rfl) h
def B2P (X : Nat → Prop) (t0 : Value) (R : Value → WP) : WP :=
 B3 PR X (Instr.alloc 89 true (.tuple #[])) fun t3 =>
 jn (n := 0) (
 jn (n := 0) (
 A6 PR (Instr.loadAt 89 t3) fun t18 =>
 A0 PR (convert 89 3 t18) fun t19 =>
 n0 (R t19)) fun J1 =>
 lp (n := 0) (fun L2 =>
 jn (n := 0) (
 A6 PR (Instr.loadAt 89 t3) fun t13 =>
 A0 PR (binOp .shr 89 t13 (.int .u64 16)) fun t14 =>
 A6 PR (Instr.loadAt 89 t3) fun t15 =>
 A0 PR (binOp .and 89 t15 (.int .u64 65535)) fun t16 =>
 A0 PR (binOp .add 89 t14 t16) fun t17 =>
 C3 PR X (Instr.storeAt 89 t3 t17) <|
 L2) fun J3 =>
 A6 PR (Instr.loadAt 89 t3) fun t11 =>
 A0 PR (binOp .leq 89 t11 (.int .u64 65535)) fun t12 =>
 C6 t12 (
 J1) (
 J3)) ) fun J4 =>
 B5 PR X 265 [t0] fun t6 =>
 rng (N := 1) PR X (fun t7 K5 =>
 bgn <|
 A6 PR (Instr.loadAt 89 t3) fun t8 =>
 A0 PR (binOp .add 89 t8 t7) fun t10 =>
 C3 PR (fun _ => False) (Instr.storeAt 89 t3 t10) <|
 K5 none) t6 (fun j => match j with | none => (J4) | some (.exit i) => (match Nat.beq i 0 with | true => (J4) | false => (H5)) | some .ret => (n0 (R (.int .i64 0))) | some _ => H5)
theorem B0M : A9 PR 233 := A7 Tryz.func233 (by kernel_rfl) rfl
theorem B9Z {X : Nat → Prop} {t0 : Value} {R : Value → WP} {w : World} (h : B2P X t0 R w) : Fn PR X 233 #[t0] w R := C8 (args := [t0]) mixed Tryz.func233 (by kernel_rfl) h
def B1S (X : Nat → Prop) (t0 : Value) (R : Value → WP) : WP :=
 B3 PR X (Instr.box 9 t0) fun t1 =>
 A0 PR (Instr.makeFunc (.func 285) #[] #[t1]) fun t3 =>
 R t3
theorem B6P : A9 PR 265 := A7 Tryz.func265 (by kernel_rfl) rfl
theorem B83 {X : Nat → Prop} {t0 : Value} {R : Value → WP} {w : World} (h : B1S X t0 R w) : Fn PR X 265 #[t0] w R := C8 (args := [t0]) mixed Tryz.func265 (by kernel_rfl) h
def A5k (X : Nat → Prop) (t0 t1 : Value) (R : Value → WP) : WP :=
 jn (n := 0) (
 lp (n := 1) (fun L1 t3 =>
 jn (n := 0) (
 jn (n := 0) (
 A0 PR (binOp .add 3 t3 (.int .i64 2)) fun t17 =>
 L1 t17) fun J2 =>
 A6 PR (Instr.loadAt 9 t1) fun t19 =>
 B5 PR X 145 [t19, t3, (.int .i64 2)] fun t21 =>
 A0 PR (Instr.extract t21 0) fun t22 =>
 A0 PR (Instr.extract t21 1) fun t23 =>
 L8 PR X t0 [t22] fun t26 =>
 A0 PR (Op.unary .not t26) fun t27 =>
 C6 t27 (
 R (.tuple #[])) (
 J2)) fun J3 =>
 A6 PR (Instr.loadAt 9 t1) fun t13 =>
 A0 PR (A8 .len #[9] 0 [t13]) fun t14 =>
 A0 PR (binOp .lss 3 t3 t14) fun t15 =>
 C6 t15 (
 J3) (
 R (.tuple #[]))) (.int .i64 0)) fun J4 =>
 A6 PR (Instr.loadAt 9 t1) fun t6 =>
 A0 PR (A8 .len #[9] 0 [t6]) fun t7 =>
 A0 PR (binOp .rem 3 t7 (.int .i64 2)) fun t8 =>
 A0 PR (binOp .eql 3 t8 (.int .i64 1)) fun t9 =>
 C6 t9 (
 A6 PR (Instr.loadAt 9 t1) fun t10 =>
 A0 PR (binOp .add 9 t10 (.string (ByteArray.mk #[0]))) fun t11 =>
 C3 PR X (Instr.storeAt 9 t1 t11) <|
 J4) (
 J4)
theorem B2u : A9 PR 285 := A7 Tryz.func285 (by kernel_rfl) rfl
theorem B4D {X : Nat → Prop} {t0 t1 : Value} {R : Value → WP} {w : World} (h : A5k X t0 t1 R w) : Fn PR X 285 #[t0, t1] w R := C8 (args := [t0, t1]) mixed Tryz.func285 (by kernel_rfl) h
theorem B3x {X : Nat → Prop} {t0 t1 : Value} {K : Value → WP} {w : World} (h : Fn PR X 285 #[t0, t1] w K) : A1v PR X 285 [t0, t1] K w := ⟨B2u, h⟩
end Go.Proofs.YtjobgnabneddjaaGreat
namespace Go.Proofs.YtjobgnabneddjaaGreat
open Go
abbrev C20 (b : Nat) : Value := .func (.func 285) #[] #[.pointer (some ⟨b, 0, none⟩)]
theorem C6K (w : World) (s : ByteArray) : Fn PR C0 265 #[.string s] w (Rn [] w (fun b v => v = C20 b) fun b => [.pt b (.cells #[.string s] 9)]) := by
 refine B83 (TW.go (κ := false) (S := []) ?_)
 unfold B1S
 (have zz:=trivial;repeat((first|clear zz|with_reducible first|refine A3 ?_|refine A5 fun _=>?_|refine A4 fun _=>?_);try simp(disch:=first|omega|assumption|((repeat(first|exact A1|exact uH|apply A2|apply uT));first|done|fail)|(simp;first|done|omega|fail))[]))
 rename_i b
 exact m7 b rfl (by simp)
def B7D (s : ByteArray) (i : Nat) : List Value := [.int .u64 (u3 s (2 * i) 2 : Nat)]
def W8 (s : ByteArray) : Nat := (s.size + 1) / 2
def pad (s : ByteArray) : ByteArray := if s.size % 2 = 1 then s ++ ByteArray.mk #[0] else s
theorem C4x (s : ByteArray) : (pad s).size = 2 * W8 s := by
 unfold pad W8; split
 ·rw [ByteArray.size_append, show (ByteArray.mk #[0]).size = 1 from rfl]; omega
 ·omega
theorem B6q (s t : ByteArray) (i : Nat) : G3 (s ++ t) i = if i < s.size then G3 s i else G3 t (i - s.size) := by
 unfold G3
 rw [ByteArray.data_append, Array.getD_eq_getD_getElem?, Array.getElem?_append, Array.getD_eq_getD_getElem?, Array.getD_eq_getD_getElem?]
 simp only [ByteArray.size]
 split <;> rfl
theorem C0z (s : ByteArray) (i : Nat) : G3 (pad s) i = G3 s i := by
 unfold pad; split
 ·rw [B6q]; split
  ·rfl
  ·rename_i h
   have h1 : G3 s i = 0 := by unfold G3; rw [Array.getD_eq_getD_getElem?, Array.getElem?_eq_none (by simp only [ByteArray.size] at h; omega)]; rfl
   rw [h1]; unfold G3
   by_cases h2 : i - s.size = 0
   ·rw [h2]; rfl
   ·rw [Array.getD_eq_getD_getElem?, Array.getElem?_eq_none (by simp; omega)]; rfl
 ·rfl
theorem C8C (s : ByteArray) (a n : Nat) : u3 (pad s) a n = u3 s a n := by
 induction n with
 | zero => rfl
 | succ n ih => simp only [u3, ih, C0z]
theorem C41 (b : Nat) (s : ByteArray) (hs : s.size < 2 ^ 60) : A5y (C20 b) [.pt b (.cells #[.string s] 9)] (fun _ _ => True) ((List.range (W8 s)).map (B7D s)) := by
 refine ⟨_, _, _, rfl, fun l J E hJ hE stJ stE hy w0 h0 => ?_⟩
 refine B3x (B4D (TW.at (κ := true) ?_ (hJ _ _ _ h0).1))
 unfold A5k
 have hp := C4x s
 have hnw : W8 s ≤ s.size := by unfold W8; omega
 have key : ∀ Lp : WP, TW true (B6 [Res.pt b (.cells #[.string s] 9)]) w0 [.pt b (.cells #[.string (pad s)] 9)] Lp → (if s.size % 2 = 1 then TW true (B6 [Res.pt b (.cells #[.string s] 9)]) w0 [.pt b (.cells #[.string (s ++ ByteArray.mk #[0])] 9)] Lp else TW true (B6 [Res.pt b (.cells #[.string s] 9)]) w0 [.pt b (.cells #[.string s] 9)] Lp) := by
  intro Lp h; unfold pad at h; split <;> simp_all
 have hrem : ((s.size : Int).tmod 2 = 1) = (s.size % 2 = 1) := by
  rw [Int.tmod_eq_emod_of_nonneg (by omega)]; exact propext (by omega)
 have hadd : s.size + (ByteArray.mk #[0]).size ≤ 9223372036854775807 := by rw [show (ByteArray.mk #[0]).size = 1 from rfl]; omega
 (have zz:=trivial;repeat((first|clear zz|with_reducible first|refine A3 ?_|refine A5 fun _=>?_|refine A4 fun _=>?_);try simp(disch:=first|omega|assumption|((repeat(first|exact A1|exact uH|apply A2|apply uT));first|done|fail)|(simp;first|done|omega|fail))[A37, W7, hrem]))
 refine key _ ?_
 clear key
 refine C6w (fun i => i) (fun _ => [.pt b (.cells #[.string (pad s)] 9)]) (fun i => i ≤ W8 s) (fun i => W8 s - i) (fun i : Nat => .int .i64 (2 * (i : Int))) 0 hJ stJ h0 (Nat.zero_le _) fun i a hi hJi _ L hL => ?_
 by_cases hlt : i < W8 s
 ·have h2 : 2 * (i : Int) < (pad s).size := by omega
  (have zz:=trivial;repeat((first|clear zz|with_reducible first|refine A3 ?_|refine A5 fun _=>?_|refine A4 fun _=>?_);try simp(disch:=first|omega|assumption|((repeat(first|exact A1|exact uH|apply A2|apply uT));first|done|fail)|(simp;first|done|omega|fail))[h2]))
  refine C4 T5 (fun w' _ => A3W w' (pad s) (by omega) _ _) ?_
  have hg : A27 (pad s) (2 * (i : Int)) 2 = true := by simp only [A27, decide_eq_true_eq]; omega
  have hv : A6P (pad s) (2 * (i : Int)) 2 = (u3 s (2 * i) 2 : Nat) := by
   unfold A6P; rw [if_pos hg, C8C]; congr 2
  rw [hv, hg]
  (have zz:=trivial;repeat((first|clear zz|with_reducible first|refine A3 ?_|refine A5 fun _=>?_|refine A4 fun _=>?_);try simp(disch:=first|omega|assumption|((repeat(first|exact A1|exact uH|apply A2|apply uT));first|done|fail)|(simp;first|done|omega|fail))[]))
  refine A8D hJ hE stJ hy hJi (by simpa using hlt) (by simp [B7D]) (fun w3 h => ?_) (fun w3 h => ?_)
  ·(have zz:=trivial;repeat((first|clear zz|with_reducible first|refine A3 ?_|refine A5 fun _=>?_|refine A4 fun _=>?_);try simp(disch:=first|omega|assumption|((repeat(first|exact A1|exact uH|apply A2|apply uT));first|done|fail)|(simp;first|done|omega|fail))[]))
   intro w' hw'
   have := hL (i + 1) w' hlt (by omega) (stJ _ _ _ _ _ h hw')
   simpa [Int.mul_add] using this
  ·(have zz:=trivial;repeat((first|clear zz|with_reducible first|refine A3 ?_|refine A5 fun _=>?_|refine A4 fun _=>?_);try simp(disch:=first|omega|assumption|((repeat(first|exact A1|exact uH|apply A2|apply uT));first|done|fail)|(simp;first|done|omega|fail))[]))
   exact A4z stE h
 ·have h2 : ¬ 2 * (i : Int) < (pad s).size := by omega
  obtain rfl : i = W8 s := by omega
  (have zz:=trivial;repeat((first|clear zz|with_reducible first|refine A3 ?_|refine A5 fun _=>?_|refine A4 fun _=>?_);try simp(disch:=first|omega|assumption|((repeat(first|exact A1|exact uH|apply A2|apply uT));first|done|fail)|(simp;first|done|omega|fail))[h2]))
  exact A4v stJ (by simpa using hJi)
def A8x (s : ByteArray) : Nat → Nat
 | 0 => 0
 | i + 1 => A8x s i + u3 s (2 * i) 2
def fld (n : Nat) : Nat := if n = 0 then 0 else (n - 1) % 65535 + 1
def A0s (s : ByteArray) : Nat := fld (A8x s (W8 s))
theorem C4z (n : Nat) : fld (n / 65536 + n % 65536) = fld n := by
 unfold fld
 have h := Nat.div_add_mod n 65536
 by_cases h0 : n = 0
 ·subst h0; rfl
 ·rw [if_neg (by omega), if_neg h0]; omega
theorem C3p {n : Nat} (h : n ≤ 65535) : fld n = n := by unfold fld; split <;> omega
theorem C2H (n : Nat) : fld n ≤ 65535 := by unfold fld; split <;> omega
theorem B9x (s : ByteArray) (i : Nat) : A8x s i ≤ i * 65535 := by
 induction i with
 | zero => simp [A8x]
 | succ i ih => have := B0s s (2 * i) 2; simp only [A8x]; omega
theorem C6J (n : Nat) (h : n < 2 ^ 64) : IntKind.u64.wrap ((n % 2 ^ IntKind.u64.bits &&& 65535 % 2 ^ IntKind.u64.bits : Nat) : Int) = ((n % 65536 : Nat) : Int) := by
 rw [show (2 : Nat) ^ IntKind.u64.bits = 2 ^ 64 from rfl, Nat.mod_eq_of_lt h, show 65535 % 2 ^ 64 = 2 ^ 16 - 1 from rfl, Nat.and_two_pow_sub_one_eq_mod]
 exact A2g (by omega) (by omega)
theorem C0S (w : World) (s : ByteArray) (hs : s.size < 2 ^ 40) : Fn PR C0 233 #[.string s] w (fun v w' => v = .int .i64 (A0s s : Nat) ∧ D2 [] w w') := by
 refine Fn.pure (B9Z (TW.go (κ := false) (S := []) ?_))
 unfold B2P
 (have zz:=trivial;repeat((first|clear zz|with_reducible first|refine A3 ?_|refine A5 fun _=>?_|refine A4 fun _=>?_);try simp(disch:=first|omega|assumption|((repeat(first|exact A1|exact uH|apply A2|apply uT));first|done|fail)|(simp;first|done|omega|fail))[]))
 rename_i bn
 refine G4 B6P (fun w' _ => C6K w' s) ?_
 rintro b v rfl
 have hnw : W8 s ≤ 2 ^ 39 := by unfold W8; omega
 refine A4H (C41 b s (by omega)) (by simp [B7D]) (fun _ (_ : Unit) => True) (fun i _ => [.pt bn (.cells #[.int .u64 ((A8x s i : Nat) : Int)] 89)]) (fun _ (_ : Unit) => False) (fun _ => []) () trivial ?_ ?_ ?_ ?_
 ·intros; trivial
 ·rintro i hi _ F _ K' hK _
  have hi' : i < W8 s := by simpa using hi
  have h1 := B9x s i
  have h2 := B0s s (2 * i) 2
  simp only [List.getElem_map, List.getElem_range, B7D, VF.app]
  (have zz:=trivial;repeat((first|clear zz|with_reducible first|refine A3 ?_|refine A5 fun _=>?_|refine A4 fun _=>?_);try simp(disch:=first|omega|assumption|((repeat(first|exact A1|exact uH|apply A2|apply uT));first|done|fail)|(simp;first|done|omega|fail))[]))
  refine TW.eqH ?_ (hK () trivial)
  simp [A8x]
 ·rintro _ _
  (have zz:=trivial;repeat((first|clear zz|with_reducible first|refine A3 ?_|refine A5 fun _=>?_|refine A4 fun _=>?_);try simp(disch:=first|omega|assumption|((repeat(first|exact A1|exact uH|apply A2|apply uT));first|done|fail)|(simp;first|done|omega|fail))[]))
  refine D1S (fun n : Nat => [.pt bn (.cells #[.int .u64 (n : Int)] 89)]) (fun n => fld n = A0s s ∧ n < 2 ^ 63) (fun n => n) _ ⟨by simp [A0s], by have := B9x s (W8 s); simp; omega⟩ ?_
  rintro n ⟨h1, h2⟩ L hL
  by_cases h3 : n ≤ 65535
  ·have h4 : (n : Int) ≤ 65535 := by omega
   (have zz:=trivial;repeat((first|clear zz|with_reducible first|refine A3 ?_|refine A5 fun _=>?_|refine A4 fun _=>?_);try simp(disch:=first|omega|assumption|((repeat(first|exact A1|exact uH|apply A2|apply uT));first|done|fail)|(simp;first|done|omega|fail))[h4]))
   rw [C3p h3] at h1
   exact B0 (by rw [h1])
  ·have h4 : ¬ (n : Int) ≤ 65535 := by omega
   have e1 : (n : Int).fdiv (2 ^ min 16 IntKind.u64.bits) = (n / 65536 : Nat) := by rw [show (2 : Int) ^ min 16 IntKind.u64.bits = 65536 from rfl, Int.fdiv_eq_ediv_of_nonneg _ (by omega)]; omega
   (have zz:=trivial;repeat((first|clear zz|with_reducible first|refine A3 ?_|refine A5 fun _=>?_|refine A4 fun _=>?_);try simp(disch:=first|omega|assumption|((repeat(first|exact A1|exact uH|apply A2|apply uT));first|done|fail)|(simp;first|done|omega|fail))[h4]))
   refine TW.eqH ?_ (hL (n / 65536 + n % 65536) ⟨by rw [C4z]; exact h1, by omega⟩ (by omega))
   rw [e1, C6J n (by omega), A2g (by omega) (by omega)]; simp
 ·rintro _ _ h; exact h.elim
def B4p (s : ByteArray) : Int := 65535 - A0s s
theorem C85 (w : World) (s : ByteArray) (hs : s.size < 2 ^ 40) : Fn PR C0 177 #[.string s] w (fun v w' => v = .int .i64 (B4p s) ∧ D2 [] w w') := by
 refine Fn.pure (C15 (TW.go (κ := false) (S := []) ?_))
 unfold B4m
 refine C4 B0M (fun w' _ => C0S w' s hs) ?_
 have := C2H (A8x s (W8 s))
 have h2 : ((A0s s : Nat) : Int) ≤ 65535 := by unfold A0s; omega
 (have zz:=trivial;repeat((first|clear zz|with_reducible first|refine A3 ?_|refine A5 fun _=>?_|refine A4 fun _=>?_);try simp(disch:=first|omega|assumption|((repeat(first|exact A1|exact uH|apply A2|apply uT));first|done|fail)|(simp;first|done|omega|fail))[]))
 exact B0 rfl
theorem C64 (w : World) (s : ByteArray) (hs : s.size < 2 ^ 40) : Fn PR C0 196 #[.string s] w (fun v w' => v = .bool (decide (A0s s = 65535)) ∧ D2 [] w w') := by
 refine Fn.pure (B9A (TW.go (κ := false) (S := []) ?_))
 unfold B2G
 refine C4 B0M (fun w' _ => C0S w' s hs) ?_
 (have zz:=trivial;repeat((first|clear zz|with_reducible first|refine A3 ?_|refine A5 fun _=>?_|refine A4 fun _=>?_);try simp(disch:=first|omega|assumption|((repeat(first|exact A1|exact uH|apply A2|apply uT));first|done|fail)|(simp;first|done|omega|fail))[]))
 exact B0 (by simp; omega)
end Go.Proofs.YtjobgnabneddjaaGreat
namespace Go.Proofs.YtjobgnabneddjaaGreat
open Go
def gv (s : ByteArray) (a n : Nat) : Nat := if a + n ≤ s.size then u3 s a n else 0
theorem A7F (s : ByteArray) (a n : Nat) (h1 : 1 ≤ n) (h8 : n ≤ 8) : A6P s a n = gv s a n := by
 unfold A6P gv
 by_cases h : a + n ≤ s.size
 ·rw [if_pos (by simp only [A27, decide_eq_true_eq]; omega), if_pos h]; simp
 ·rw [if_neg (by simp only [A27, decide_eq_true_eq]; omega), if_neg h]; rfl
theorem B3q (s : ByteArray) (a : Nat) : gv s a 1 < 256 := by
 unfold gv; split
 ·exact B0s s a 1
 ·omega
theorem A3A (s : ByteArray) (a : Nat) : gv s a 2 < 65536 := by
 unfold gv; split
 ·exact B0s s a 2
 ·omega
theorem A4e (w : World) (s : ByteArray) (hs : s.size < 2 ^ 63) (b a n : Nat) (h1 : 1 ≤ n) (h2 : n ≤ 2) (hc : w.cell? ⟨b, 0, none⟩ = some (.string s)) :
  Fn PR C0 190 #[.int .i64 (a : Int), .int .i64 (n : Int), .pointer (some ⟨b, 0, none⟩)] w (fun v w' => v = .int .i64 (gv s a n : Nat) ∧ D2 [] w w') := by
 refine Fn.pure (B4C (TW.go (κ := false) (S := []) ?_))
 unfold A5Z
 (have zz:=trivial;repeat((first|clear zz|with_reducible first|refine A3 ?_|refine A5 fun _=>?_|refine A4 fun _=>?_|refine E2 fun _=>?_|refine D9 (hK:=fun _=>?_)|refine E4 (hK:=fun _=>?_)|refine E1 (hK:=fun _=>?_)|refine E0 (hK:=fun _=>?_)|refine E3 (hK:=fun _=>?_));try simp(disch:=first|omega|assumption|((repeat(first|exact A1|exact uH|apply A2|apply uT));first|done|fail)|(simp;first|done|omega|fail))[hc]))
 refine C4 T5 (fun w' _ => A3W w' s (by omega) _ _) ?_
 rw [A7F s a n h1 (by omega)]
 have hlt : gv s a n < 65536 := by
  obtain rfl | rfl : n = 1 ∨ n = 2 := by omega
  ·have := B3q s a; omega
  ·exact A3A s a
 (have zz:=trivial;repeat((first|clear zz|with_reducible first|refine A3 ?_|refine A5 fun _=>?_|refine A4 fun _=>?_|refine E2 fun _=>?_|refine D9 (hK:=fun _=>?_)|refine E4 (hK:=fun _=>?_)|refine E1 (hK:=fun _=>?_)|refine E0 (hK:=fun _=>?_)|refine E3 (hK:=fun _=>?_));try simp(disch:=first|omega|assumption|((repeat(first|exact A1|exact uH|apply A2|apply uT));first|done|fail)|(simp;first|done|omega|fail))[]))
 exact B0 rfl
theorem C7w (w : World) (s : ByteArray) (hs : s.size < 2 ^ 63) (b : Nat) (hc : w.cell? ⟨b, 0, none⟩ = some (.string s)) :
  Fn PR C0 190 #[.int .i64 0, .int .i64 1, .pointer (some ⟨b, 0, none⟩)] w (fun v w' => v = .int .i64 (gv s 0 1 : Nat) ∧ D2 [] w w') := A4e w s hs b 0 1 (by omega) (by omega) hc
theorem C7g (w : World) (s : ByteArray) (hs : s.size < 2 ^ 63) (b : Nat) (hc : w.cell? ⟨b, 0, none⟩ = some (.string s)) :
  Fn PR C0 190 #[.int .i64 2, .int .i64 2, .pointer (some ⟨b, 0, none⟩)] w (fun v w' => v = .int .i64 (gv s 2 2 : Nat) ∧ D2 [] w w') := A4e w s hs b 2 2 (by omega) (by omega) hc
theorem C8D (w : World) (s : ByteArray) (hs : s.size < 2 ^ 63) (b : Nat) (hc : w.cell? ⟨b, 0, none⟩ = some (.string s)) :
  Fn PR C0 190 #[.int .i64 9, .int .i64 1, .pointer (some ⟨b, 0, none⟩)] w (fun v w' => v = .int .i64 (gv s 9 1 : Nat) ∧ D2 [] w w') := A4e w s hs b 9 1 (by omega) (by omega) hc
def B7C (x : Value × Int × Bool) : List Value := [x.1, .int .i64 x.2.1]
def A5A (l : List (Value × Int × Bool)) : Int := match l.find? (·.2.2) with | some x => x.2.1 | none => 0
theorem B9a {l : List (Value × Int × Bool)} (h : ∀ i (hi : i < l.length), l[i].2.2 = false) : A5A l = 0 := by
 have : l.find? (·.2.2) = none := by
  rw [List.find?_eq_none]; intro x hx; obtain ⟨i, hi, rfl⟩ := List.getElem_of_mem hx; simp [h i hi]
 simp [A5A, this]
theorem B9E {l : List (Value × Int × Bool)} {i : Nat} (hi : i < l.length) (hp : l[i].2.2 = true) (h : ∀ j (hj : j < i), (l[j]'(by omega)).2.2 = false) : A5A l = l[i].2.1 := by
 have : l.find? (·.2.2) = some l[i] := by
  rw [List.find?_eq_some_iff_getElem]
  exact ⟨hp, i, hi, rfl, fun j hj => by simp [h j hj]⟩
 simp [A5A, this]
theorem C6E (w : World) (v : Value) (l : List (Value × Int × Bool)) (hl : l.length < 1000) (hv : F9 w v l.length (l.flatMap B7C))
  (hg : ∀ i (hi : i < l.length), (∀ j (hj : j < i), (l[j]'(by omega)).2.2 = false) → ∃ f cap, l[i].1 = .func (.func f) #[] cap ∧ A9 PR f ∧ ∀ w', KS false [] w w' → Fn PR C0 f cap w' (fun v w'' => v = .bool l[i].2.2 ∧ D2 [] w' w'')) :
  Fn PR C0 191 #[v] w (fun u w' => u = .int .i64 (A5A l) ∧ D2 [] w w') := by
 refine Fn.pure (B73 (TW.go (κ := false) (S := []) ?_))
 unfold B1J
 obtain ⟨a, c, rfl, hrow⟩ := hv.form
 (have zz:=trivial;repeat((first|clear zz|with_reducible first|refine A3 ?_|refine A5 fun _=>?_|refine A4 fun _=>?_|refine E2 fun _=>?_|refine D9 (hK:=fun _=>?_)|refine E4 (hK:=fun _=>?_)|refine E1 (hK:=fun _=>?_)|refine E0 (hK:=fun _=>?_)|refine E3 (hK:=fun _=>?_));try simp(disch:=first|omega|assumption|((repeat(first|exact A1|exact uH|apply A2|apply uT));first|done|fail)|(simp;first|done|omega|fail))[]))
 refine w7 (α := Unit) l.length (fun _ _ => .int .i64 0) (fun _ _ => []) (fun i _ => ∀ j (hj : j < i), ∀ (h : j < l.length), l[j].2.2 = false) () (by intro j hj; omega) ?_
 rintro i _ hi hpre L hL
 by_cases hlt : i < l.length
 ·obtain ⟨b, o, rfl, hr⟩ := hrow (by omega)
  have hx : l[i]? = some l[i] := List.getElem?_eq_getElem hlt
  have hrn := hr.at (f := B7C) (k := 2) (fun _ => rfl) hx
  have hpre' : ∀ j (hj : j < i), (l[j]'(by omega)).2.2 = false := fun j hj => hpre j hj (by omega)
  obtain ⟨f, cap, he, hent, hcall⟩ := hg i hlt hpre'
  rw [B7C, he] at hrn
  (have zz:=trivial;repeat((first|clear zz|with_reducible first|refine A3 ?_|refine A5 fun _=>?_|refine A4 fun _=>?_|refine E2 fun _=>?_|refine D9 (hK:=fun _=>?_)|refine E4 (hK:=fun _=>?_)|refine E1 (hK:=fun _=>?_)|refine E0 (hK:=fun _=>?_)|refine E3 (hK:=fun _=>?_));try simp(disch:=first|omega|assumption|((repeat(first|exact A1|exact uH|apply A2|apply uT));first|done|fail)|(simp;first|done|omega|fail))[hlt, hrn]))
  refine B5P hent (φ := fun v => v = .bool l[i].2.2) (fun w' hw' => by simpa using hcall w' hw'.ks) ?_
  rintro _ rfl
  cases hb : l[i].2.2 with
  | true =>
   (have zz:=trivial;repeat((first|clear zz|with_reducible first|refine A3 ?_|refine A5 fun _=>?_|refine A4 fun _=>?_|refine E2 fun _=>?_|refine D9 (hK:=fun _=>?_)|refine E4 (hK:=fun _=>?_)|refine E1 (hK:=fun _=>?_)|refine E0 (hK:=fun _=>?_)|refine E3 (hK:=fun _=>?_));try simp(disch:=first|omega|assumption|((repeat(first|exact A1|exact uH|apply A2|apply uT));first|done|fail)|(simp;first|done|omega|fail))[]))
   exact B0 (by rw [B9E hlt hb hpre'])
  | false =>
   (have zz:=trivial;repeat((first|clear zz|with_reducible first|refine A3 ?_|refine A5 fun _=>?_|refine A4 fun _=>?_|refine E2 fun _=>?_|refine D9 (hK:=fun _=>?_)|refine E4 (hK:=fun _=>?_)|refine E1 (hK:=fun _=>?_)|refine E0 (hK:=fun _=>?_)|refine E3 (hK:=fun _=>?_));try simp(disch:=first|omega|assumption|((repeat(first|exact A1|exact uH|apply A2|apply uT));first|done|fail)|(simp;first|done|omega|fail))[]))
   refine Sels.tw .nil (hL hlt () ?_)
   intro j hj h
   by_cases hji : j = i
   ·subst hji; exact hb
   ·exact hpre j (by omega) h
 ·obtain rfl : i = l.length := by omega
  (have zz:=trivial;repeat((first|clear zz|with_reducible first|refine A3 ?_|refine A5 fun _=>?_|refine A4 fun _=>?_|refine E2 fun _=>?_|refine D9 (hK:=fun _=>?_)|refine E4 (hK:=fun _=>?_)|refine E1 (hK:=fun _=>?_)|refine E0 (hK:=fun _=>?_)|refine E3 (hK:=fun _=>?_));try simp(disch:=first|omega|assumption|((repeat(first|exact A1|exact uH|apply A2|apply uT));first|done|fail)|(simp;first|done|omega|fail))[]))
  exact B0 (by rw [B9a fun j hj => hpre j hj hj])
structure HeadV where
 src : ByteArray
 dst : ByteArray
 proto : Nat
 rest : ByteArray
 e : Nat
abbrev H4 : ByteArray := ByteArray.mk #[]
def HeadV.err (e : Nat) : HeadV := ⟨H4, H4, 0, H4, e⟩
def HeadV.val (h : HeadV) : Value := .tuple #[.agg #[.string h.src, .string h.dst, .int .i64 h.proto], .string h.rest, .int .i64 h.e]
def N6 (s : ByteArray) : Nat := gv s 0 1 % 16 * 4
def B22 (s : ByteArray) : Nat := if s.size < 20 then 2 else if gv s 0 1 / 16 ≠ 4 then 3 else if N6 s < 20 ∨ s.size < N6 s ∨ gv s 2 2 < N6 s ∨ s.size < gv s 2 2 then 4
 else if A0s (s.extract 0 (N6 s)) ≠ 65535 then 5 else if gv s 6 2 % 16384 ≠ 0 then 6 else 0
def A0z (s : ByteArray) : HeadV := if B22 s = 0 then ⟨s.extract 12 16, s.extract 16 20, gv s 9 1, s.extract (N6 s) (gv s 2 2), 0⟩ else .err (B22 s)
theorem D06 (n : Nat) (h : n < 256) : IntKind.i64.wrap ((n % 2 ^ IntKind.i64.bits &&& 15 % 2 ^ IntKind.i64.bits : Nat) : Int) = ((n % 16 : Nat) : Int) := by
 rw [show (2 : Nat) ^ IntKind.i64.bits = 2 ^ 64 from rfl, Nat.mod_eq_of_lt (by omega), show 15 % 2 ^ 64 = 2 ^ 4 - 1 from rfl, Nat.and_two_pow_sub_one_eq_mod]
 exact d9 (by omega) (by omega)
theorem D1Y (n : Nat) (h : n < 65536) : IntKind.i64.wrap ((n % 2 ^ IntKind.i64.bits &&& 16383 % 2 ^ IntKind.i64.bits : Nat) : Int) = ((n % 16384 : Nat) : Int) := by
 rw [show (2 : Nat) ^ IntKind.i64.bits = 2 ^ 64 from rfl, Nat.mod_eq_of_lt (by omega), show 16383 % 2 ^ 64 = 2 ^ 14 - 1 from rfl, Nat.and_two_pow_sub_one_eq_mod]
 exact d9 (by omega) (by omega)
section
variable (w : World) (s : ByteArray) (hs : s.size < 2 ^ 63) (b1 b5 b6 b7 : Nat) (h1 : w.cell? ⟨b1, 0, none⟩ = some (.string s)) (h5 : w.cell? ⟨b5, 0, none⟩ = some (.func (.func 190) #[] #[.pointer (some ⟨b1, 0, none⟩)]))
 (h6 : w.cell? ⟨b6, 0, none⟩ = some (.int .i64 (N6 s : Nat))) (h7 : w.cell? ⟨b7, 0, none⟩ = some (.int .i64 (gv s 2 2 : Nat)))
include h1
theorem D1C : Fn PR C0 192 #[.pointer (some ⟨b1, 0, none⟩)] w (fun v w' => v = .bool (decide (s.size < 20)) ∧ D2 [] w w') := by
 refine Fn.pure (B3l (TW.go (κ := false) (S := []) ?_))
 unfold A5m
 (have zz:=trivial;repeat((first|clear zz|with_reducible first|refine A3 ?_|refine A5 fun _=>?_|refine A4 fun _=>?_|refine E2 fun _=>?_|refine D9 (hK:=fun _=>?_)|refine E4 (hK:=fun _=>?_)|refine E1 (hK:=fun _=>?_)|refine E0 (hK:=fun _=>?_)|refine E3 (hK:=fun _=>?_));try simp(disch:=first|omega|assumption|((repeat(first|exact A1|exact uH|apply A2|apply uT));first|done|fail)|(simp;first|done|omega|fail))[h1]))
 exact B0 (by simp; omega)
include hs h5
theorem D1G : Fn PR C0 193 #[.pointer (some ⟨b5, 0, none⟩)] w (fun v w' => v = .bool (decide (gv s 0 1 / 16 ≠ 4)) ∧ D2 [] w w') := by
 refine Fn.pure (B37 (TW.go (κ := false) (S := []) ?_))
 unfold A53
 (have zz:=trivial;repeat((first|clear zz|with_reducible first|refine A3 ?_|refine A5 fun _=>?_|refine A4 fun _=>?_|refine E2 fun _=>?_|refine D9 (hK:=fun _=>?_)|refine E4 (hK:=fun _=>?_)|refine E1 (hK:=fun _=>?_)|refine E0 (hK:=fun _=>?_)|refine E3 (hK:=fun _=>?_));try simp(disch:=first|omega|assumption|((repeat(first|exact A1|exact uH|apply A2|apply uT));first|done|fail)|(simp;first|done|omega|fail))[h1, h5]))
 refine C4 n9 (fun w' hw' => A4e w' s hs b1 0 1 (by omega) (by omega) (hw'.ks.cell (by simp) h1)) ?_
 have e1 : ((gv s 0 1 : Nat) : Int).fdiv (2 ^ min 4 IntKind.i64.bits) = (gv s 0 1 / 16 : Nat) := by rw [show (2 : Int) ^ min 4 IntKind.i64.bits = 16 from rfl, Int.fdiv_eq_ediv_of_nonneg _ (by omega)]; omega
 (have zz:=trivial;repeat((first|clear zz|with_reducible first|refine A3 ?_|refine A5 fun _=>?_|refine A4 fun _=>?_|refine E2 fun _=>?_|refine D9 (hK:=fun _=>?_)|refine E4 (hK:=fun _=>?_)|refine E1 (hK:=fun _=>?_)|refine E0 (hK:=fun _=>?_)|refine E3 (hK:=fun _=>?_));try simp(disch:=first|omega|assumption|((repeat(first|exact A1|exact uH|apply A2|apply uT));first|done|fail)|(simp;first|done|omega|fail))[]))
 rw [e1]
 exact B0 (by simp; omega)
theorem D0A : Fn PR C0 197 #[.pointer (some ⟨b5, 0, none⟩)] w (fun v w' => v = .bool (decide (gv s 6 2 % 16384 ≠ 0)) ∧ D2 [] w w') := by
 refine Fn.pure (B3p (TW.go (κ := false) (S := []) ?_))
 unfold A5e
 (have zz:=trivial;repeat((first|clear zz|with_reducible first|refine A3 ?_|refine A5 fun _=>?_|refine A4 fun _=>?_|refine E2 fun _=>?_|refine D9 (hK:=fun _=>?_)|refine E4 (hK:=fun _=>?_)|refine E1 (hK:=fun _=>?_)|refine E0 (hK:=fun _=>?_)|refine E3 (hK:=fun _=>?_));try simp(disch:=first|omega|assumption|((repeat(first|exact A1|exact uH|apply A2|apply uT));first|done|fail)|(simp;first|done|omega|fail))[h1, h5]))
 refine C4 n9 (fun w' hw' => A4e w' s hs b1 6 2 (by omega) (by omega) (hw'.ks.cell (by simp) h1)) ?_
 have := A3A s 6
 (have zz:=trivial;repeat((first|clear zz|with_reducible first|refine A3 ?_|refine A5 fun _=>?_|refine A4 fun _=>?_|refine E2 fun _=>?_|refine D9 (hK:=fun _=>?_)|refine E4 (hK:=fun _=>?_)|refine E1 (hK:=fun _=>?_)|refine E0 (hK:=fun _=>?_)|refine E3 (hK:=fun _=>?_));try simp(disch:=first|omega|assumption|((repeat(first|exact A1|exact uH|apply A2|apply uT));first|done|fail)|(simp;first|done|omega|fail))[]))
 rw [D1Y _ this]
 exact B0 (by simp; omega)
omit h5
include h6
omit hs in
theorem D2J (hl : N6 s ≤ s.size) : Fn PR C0 195 #[.pointer (some ⟨b1, 0, none⟩), .pointer (some ⟨b6, 0, none⟩)] w (fun v w' => v = .bool (decide (A0s (s.extract 0 (N6 s)) ≠ 65535)) ∧ D2 [] w w') := by
 refine Fn.pure (B4E (TW.go (κ := false) (S := []) ?_))
 unfold A50
 have hl' : ((N6 s : Nat) : Int) ≤ s.size := by omega
 have hl60 : N6 s ≤ 60 := by unfold N6; omega
 (have zz:=trivial;repeat((first|clear zz|with_reducible first|refine A3 ?_|refine A5 fun _=>?_|refine A4 fun _=>?_|refine E2 fun _=>?_|refine D9 (hK:=fun _=>?_)|refine E4 (hK:=fun _=>?_)|refine E1 (hK:=fun _=>?_)|refine E0 (hK:=fun _=>?_)|refine E3 (hK:=fun _=>?_));try simp(disch:=first|omega|assumption|((repeat(first|exact A1|exact uH|apply A2|apply uT));first|done|fail)|(simp;first|done|omega|fail))[h1, h6]))
 refine C4 B7v (fun w' hw' => C64 w' _ (by simp [ByteArray.size_extract]; omega)) ?_
 (have zz:=trivial;repeat((first|clear zz|with_reducible first|refine A3 ?_|refine A5 fun _=>?_|refine A4 fun _=>?_|refine E2 fun _=>?_|refine D9 (hK:=fun _=>?_)|refine E4 (hK:=fun _=>?_)|refine E1 (hK:=fun _=>?_)|refine E0 (hK:=fun _=>?_)|refine E3 (hK:=fun _=>?_));try simp(disch:=first|omega|assumption|((repeat(first|exact A1|exact uH|apply A2|apply uT));first|done|fail)|(simp;first|done|omega|fail))[]))
 exact B0 (by simp)
include h7
theorem D2V : Fn PR C0 194 #[.pointer (some ⟨b6, 0, none⟩), .pointer (some ⟨b1, 0, none⟩), .pointer (some ⟨b7, 0, none⟩)] w
  (fun v w' => v = .bool (decide (N6 s < 20 ∨ s.size < N6 s ∨ gv s 2 2 < N6 s ∨ s.size < gv s 2 2)) ∧ D2 [] w w') := by
 have hs_ := hs
 refine Fn.pure (B3k (TW.go (κ := false) (S := []) ?_))
 unfold A5s
 by_cases g1 : N6 s < 20
 ·have g1' : ((N6 s : Nat) : Int) < 20 := by omega
  (have zz:=trivial;repeat((first|clear zz|with_reducible first|refine A3 ?_|refine A5 fun _=>?_|refine A4 fun _=>?_|refine E2 fun _=>?_|refine D9 (hK:=fun _=>?_)|refine E4 (hK:=fun _=>?_)|refine E1 (hK:=fun _=>?_)|refine E0 (hK:=fun _=>?_)|refine E3 (hK:=fun _=>?_));try simp(disch:=first|omega|assumption|((repeat(first|exact A1|exact uH|apply A2|apply uT));first|done|fail)|(simp;first|done|omega|fail))[h1, h6, h7, g1, g1']))
  exact B0 (by simp [g1])
 have g1' : ¬ ((N6 s : Nat) : Int) < 20 := by omega
 by_cases g2 : s.size < N6 s
 ·have g2' : ((s.size : Nat) : Int) < N6 s := by omega
  (have zz:=trivial;repeat((first|clear zz|with_reducible first|refine A3 ?_|refine A5 fun _=>?_|refine A4 fun _=>?_|refine E2 fun _=>?_|refine D9 (hK:=fun _=>?_)|refine E4 (hK:=fun _=>?_)|refine E1 (hK:=fun _=>?_)|refine E0 (hK:=fun _=>?_)|refine E3 (hK:=fun _=>?_));try simp(disch:=first|omega|assumption|((repeat(first|exact A1|exact uH|apply A2|apply uT));first|done|fail)|(simp;first|done|omega|fail))[h1, h6, h7, g1, g1', g2, g2']))
  exact B0 (by simp [g2])
 have g2' : ¬ ((s.size : Nat) : Int) < N6 s := by omega
 by_cases g3 : gv s 2 2 < N6 s
 ·have g3' : ((gv s 2 2 : Nat) : Int) < N6 s := by omega
  (have zz:=trivial;repeat((first|clear zz|with_reducible first|refine A3 ?_|refine A5 fun _=>?_|refine A4 fun _=>?_|refine E2 fun _=>?_|refine D9 (hK:=fun _=>?_)|refine E4 (hK:=fun _=>?_)|refine E1 (hK:=fun _=>?_)|refine E0 (hK:=fun _=>?_)|refine E3 (hK:=fun _=>?_));try simp(disch:=first|omega|assumption|((repeat(first|exact A1|exact uH|apply A2|apply uT));first|done|fail)|(simp;first|done|omega|fail))[h1, h6, h7, g1, g1', g2, g2', g3, g3']))
  exact B0 (by simp [g3])
 have g3' : ¬ ((gv s 2 2 : Nat) : Int) < N6 s := by omega
 (have zz:=trivial;repeat((first|clear zz|with_reducible first|refine A3 ?_|refine A5 fun _=>?_|refine A4 fun _=>?_|refine E2 fun _=>?_|refine D9 (hK:=fun _=>?_)|refine E4 (hK:=fun _=>?_)|refine E1 (hK:=fun _=>?_)|refine E0 (hK:=fun _=>?_)|refine E3 (hK:=fun _=>?_));try simp(disch:=first|omega|assumption|((repeat(first|exact A1|exact uH|apply A2|apply uT));first|done|fail)|(simp;first|done|omega|fail))[h1, h6, h7, g1, g1', g2, g2', g3, g3']))
 exact B0 (by simp [g1, g2, g3])
end
theorem B89 (w : World) (s : ByteArray) (hs : s.size < 2 ^ 63) : Fn PR C0 139 #[.string s] w (fun v w' => v = (A0z s).val ∧ D2 [] w w') := by
 refine Fn.pure (B7f (TW.go (κ := false) (S := []) ?_))
 unfold B0V
 (have zz:=trivial;repeat((first|clear zz|with_reducible first|refine A3 ?_|refine A5 fun _=>?_|refine A4 fun _=>?_|refine E2 fun _=>?_|refine D9 (hK:=fun _=>?_)|refine E4 (hK:=fun _=>?_)|refine E1 (hK:=fun _=>?_)|refine E0 (hK:=fun _=>?_)|refine E3 (hK:=fun _=>?_));try simp(disch:=first|omega|assumption|((repeat(first|exact A1|exact uH|apply A2|apply uT));first|done|fail)|(simp;first|done|omega|fail))[]))
 rename_i b1 b2 b5
 refine C1D (α := Nat × Nat) (fun _ => True) (fun x => [.pt x.1 (.cells #[.int .i64 (N6 s : Nat)] 3), .pt x.2 (.cells #[.int .i64 (gv s 2 2 : Nat)] 3),
  .pt b5 (.cells #[.func (.func 190) #[] #[.pointer (some ⟨b1, 0, none⟩)]] 180), .pt b2 (.cells #[.string H4, .string H4, .int .i64 0] 226), .pt b1 (.cells #[.string s] 9)])
  (fun x => .pointer (some ⟨x.1, 0, none⟩)) (fun x => .pointer (some ⟨x.2, 0, none⟩)) ?_ ?_
 ·rintro ⟨b6, b7⟩ _
  simp only
  (have zz:=trivial;repeat((first|clear zz|with_reducible first|refine A3 ?_|refine A5 fun _=>?_|refine A4 fun _=>?_|refine E2 fun _=>?_|refine D9 (hK:=fun _=>?_)|refine E4 (hK:=fun _=>?_)|refine E1 (hK:=fun _=>?_)|refine E0 (hK:=fun _=>?_)|refine E3 (hK:=fun _=>?_));try simp(disch:=first|omega|assumption|((repeat(first|exact A1|exact uH|apply A2|apply uT));first|done|fail)|(simp;first|done|omega|fail))[]))
  rename_i bl
  refine C4 (u := .int .i64 (B22 s : Nat)) B6N (fun w' hw' => ?_) ?_
  ·have h1 := hw'.cell1 (b := b1) (by (repeat constructor))
   have h5 := hw'.cell1 (b := b5) (by (repeat constructor))
   have h6 := hw'.cell1 (b := b6) (by (repeat constructor))
   have h7 := hw'.cell1 (b := b7) (by (repeat constructor))
   have hk : ∀ {w2 : World} {b : Nat} {v : Value}, KS false [] w' w2 → w'.cell? ⟨b, 0, none⟩ = some v → w2.cell? ⟨b, 0, none⟩ = some v := fun h e => h.cell (by simp) e
   have hE : A5A [(.func (.func 192) #[] #[.pointer (some ⟨b1, 0, none⟩)], 2, decide (s.size < 20)), (.func (.func 193) #[] #[.pointer (some ⟨b5, 0, none⟩)], 3, decide (gv s 0 1 / 16 ≠ 4)),
    (.func (.func 194) #[] #[.pointer (some ⟨b6, 0, none⟩), .pointer (some ⟨b1, 0, none⟩), .pointer (some ⟨b7, 0, none⟩)], 4, decide (N6 s < 20 ∨ s.size < N6 s ∨ gv s 2 2 < N6 s ∨ s.size < gv s 2 2)),
    (.func (.func 195) #[] #[.pointer (some ⟨b1, 0, none⟩), .pointer (some ⟨b6, 0, none⟩)], 5, decide (A0s (s.extract 0 (N6 s)) ≠ 65535)), (.func (.func 197) #[] #[.pointer (some ⟨b5, 0, none⟩)], 6, decide (gv s 6 2 % 16384 ≠ 0))] = (B22 s : Nat) := by
    unfold A5A B22
    by_cases c1 : s.size < 20
    ·simp [c1]
    by_cases c2 : gv s 0 1 / 16 ≠ 4
    ·simp [c1, c2]
    by_cases c3 : N6 s < 20 ∨ s.size < N6 s ∨ gv s 2 2 < N6 s ∨ s.size < gv s 2 2
    ·simp [c1, c2, c3]
    by_cases c4 : A0s (s.extract 0 (N6 s)) ≠ 65535
    ·simp [c1, c2, c3, c4]
    by_cases c5 : gv s 6 2 % 16384 ≠ 0
    ·simp [c1, c2, c3, c4, c5]
    ·simp [c1, c2, c3, c4, c5]
   rw [← hE]
   refine C6E w' _ _ (by simp) ?_ ?_
   ·have := N9.own (κ := false) (S := []) (w0 := w) (e := 330) (k := 2) (q := 5) (v := .slice (some ⟨bl, 0, none⟩) 5 5) (by (repeat constructor)) w' hw'
    simpa [B7C] using this
   ·intro i hi hpre
    have hi' : i = 0 ∨ i = 1 ∨ i = 2 ∨ i = 3 ∨ i = 4 := by simp at hi; omega
    rcases hi' with rfl | rfl | rfl | rfl | rfl
    ·exact ⟨_, _, rfl, B3E, fun w2 h => D1C w2 s b1 (hk h h1)⟩
    ·exact ⟨_, _, rfl, B2k, fun w2 h => D1G w2 s hs b1 b5 (hk h h1) (hk h h5)⟩
    ·exact ⟨_, _, rfl, B3B, fun w2 h => D2V w2 s hs b1 b6 b7 (hk h h1) (hk h h6) (hk h h7)⟩
    ·have h2 := hpre 2 (by omega)
     simp only [List.getElem_cons_succ, List.getElem_cons_zero, decide_eq_false_iff_not] at h2
     exact ⟨_, _, rfl, B3F, fun w2 h => D2J w2 s b1 b6 (hk h h1) (hk h h6) (by omega)⟩
    ·exact ⟨_, _, rfl, B24, fun w2 h => D0A w2 s hs b1 b5 (hk h h1) (hk h h5)⟩
  ·by_cases he : B22 s = 0
   ·have hE := he
    unfold B22 at hE
    by_cases c1 : s.size < 20
    ·simp [c1] at hE
    by_cases c2 : gv s 0 1 / 16 ≠ 4
    ·simp [c1, c2] at hE
    by_cases c3 : N6 s < 20 ∨ s.size < N6 s ∨ gv s 2 2 < N6 s ∨ s.size < gv s 2 2
    ·simp [c1, c2, c3] at hE
    clear hE
    have hg91 := B3q s 9
    (have zz:=trivial;repeat((first|clear zz|with_reducible first|refine A3 ?_|refine A5 fun _=>?_|refine A4 fun _=>?_|refine E2 fun _=>?_|refine D9 (hK:=fun _=>?_)|refine E4 (hK:=fun _=>?_)|refine E1 (hK:=fun _=>?_)|refine E0 (hK:=fun _=>?_)|refine E3 (hK:=fun _=>?_));try simp(disch:=first|omega|assumption|((repeat(first|exact A1|exact uH|apply A2|apply uT));first|done|fail)|(simp;first|done|omega|fail))[he]))
    refine C4 n9 (fun w' hw' => C8D w' s hs b1 (hw'.cell1 (by (repeat constructor)))) ?_
    (have zz:=trivial;repeat((first|clear zz|with_reducible first|refine A3 ?_|refine A5 fun _=>?_|refine A4 fun _=>?_|refine E2 fun _=>?_|refine D9 (hK:=fun _=>?_)|refine E4 (hK:=fun _=>?_)|refine E1 (hK:=fun _=>?_)|refine E0 (hK:=fun _=>?_)|refine E3 (hK:=fun _=>?_));try simp(disch:=first|omega|assumption|((repeat(first|exact A1|exact uH|apply A2|apply uT));first|done|fail)|(simp;first|done|omega|fail))[]))
    exact B0 (by simp [A0z, he, HeadV.val])
   ·(have zz:=trivial;repeat((first|clear zz|with_reducible first|refine A3 ?_|refine A5 fun _=>?_|refine A4 fun _=>?_|refine E2 fun _=>?_|refine D9 (hK:=fun _=>?_)|refine E4 (hK:=fun _=>?_)|refine E1 (hK:=fun _=>?_)|refine E0 (hK:=fun _=>?_)|refine E3 (hK:=fun _=>?_));try simp(disch:=first|omega|assumption|((repeat(first|exact A1|exact uH|apply A2|apply uT));first|done|fail)|(simp;first|done|omega|fail))[he]))
    exact B0 (by simp [A0z, he, HeadV.val, HeadV.err])
 ·intro J hJ
  have hl := B3q s 0
  have e15 := D06 _ hl
  have em : ((gv s 0 1 : Nat) : Int) % 16 * 4 = (N6 s : Nat) := by simp [N6]
  have hJ' := fun b6 b7 => hJ (b6, b7) trivial
  simp only at hJ'
  clear hJ
  iterate 16 all_goals (try (first
   | exact fun _ _ => trivial
   | with_reducible refine And.intro ?_ ?_
   | (with_reducible apply C4 n9); (first | with_reducible exact fun w' hw' => C7w w' s hs b1 (hw'.cell1 (by ((repeat (first | exact A1 | exact Up.here | exact Sel.here | apply A2 | apply Up.there | apply Sel.there)); first | done | fail))) | with_reducible exact fun w' hw' => C7g w' s hs b1 (hw'.cell1 (by ((repeat (first | exact A1 | exact Up.here | exact Sel.here | apply A2 | apply Up.there | apply Sel.there)); first | done | fail))))
   | with_reducible refine A4 fun _ => ?_
   | simp(disch:=first|omega|assumption|((repeat(first|exact A1|exact uH|apply A2|apply uT));first|done|fail)|(simp;first|done|omega|fail))[e15, em]
   | with_reducible exact Sels.tw (by ((repeat (first | exact Sels.nil | (apply Sels.cons; · ((repeat (first | exact A1 | exact Up.here | exact Sel.here | apply A2 | apply Up.there | apply Sel.there)); first | done | fail)))); first | done | fail)) (hJ' _ _)))
  all_goals trace_state
def A8n (src dst : ByteArray) (proto : Int) (n : Nat) (own : Int) : ByteArray :=
 ByteArray.mk #[69, 0] ++ G0 (20 + n) 2 ++ ByteArray.mk #[0, 0, 64, 0, 64] ++ G0 proto 1 ++ G0 own 2 ++ src ++ dst
theorem C0r (w : World) (src dst rest : ByteArray) (proto own : Int) (b1 b2 : Nat) (h1 : w.cell? ⟨b1, 0, none⟩ = some (.string rest)) (h2 : w.cell? ⟨b2, 0, none⟩ = some (.string src)) (h3 : w.cell? ⟨b2, 1, none⟩ = some (.string dst))
  (h4 : w.cell? ⟨b2, 2, none⟩ = some (.int .i64 proto)) (hr : rest.size ≤ 65515) (hs : src.size = 4) (hd : dst.size = 4) (hp0 : 0 ≤ proto) (hp : proto ≤ 255) (ho0 : 0 ≤ own) (ho : own ≤ 65535) :
  Fn PR C0 175 #[.int .i64 own, .pointer (some ⟨b1, 0, none⟩), .pointer (some ⟨b2, 0, none⟩)] w (fun v w' => v = .string (A8n src dst proto rest.size own) ∧ D2 [] w w') := by
 refine Fn.pure (B6d (TW.go (κ := false) (S := []) ?_))
 unfold A9W
 (have zz:=trivial;repeat((first|clear zz|with_reducible first|refine A3 ?_|refine A5 fun _=>?_|refine A4 fun _=>?_|refine E2 fun _=>?_|refine D9 (hK:=fun _=>?_)|refine E4 (hK:=fun _=>?_)|refine E1 (hK:=fun _=>?_)|refine E0 (hK:=fun _=>?_)|refine E3 (hK:=fun _=>?_));try simp(disch:=first|omega|assumption|((repeat(first|exact A1|exact uH|apply A2|apply uT));first|done|fail)|(simp;first|done|omega|fail))[h1, h2, h3, h4]))
 refine C4 J0 (fun w' hw' => Z4 w' _ _) ?_
 (have zz:=trivial;repeat((first|clear zz|with_reducible first|refine A3 ?_|refine A5 fun _=>?_|refine A4 fun _=>?_|refine E2 fun _=>?_|refine D9 (hK:=fun _=>?_)|refine E4 (hK:=fun _=>?_)|refine E1 (hK:=fun _=>?_)|refine E0 (hK:=fun _=>?_)|refine E3 (hK:=fun _=>?_));try simp(disch:=first|omega|assumption|((repeat(first|exact A1|exact uH|apply A2|apply uT));first|done|fail)|(simp;first|done|omega|fail))[h1, h2, h3, h4, W7]))
 refine C4 J0 (fun w' hw' => Z4 w' _ _) ?_
 (have zz:=trivial;repeat((first|clear zz|with_reducible first|refine A3 ?_|refine A5 fun _=>?_|refine A4 fun _=>?_|refine E2 fun _=>?_|refine D9 (hK:=fun _=>?_)|refine E4 (hK:=fun _=>?_)|refine E1 (hK:=fun _=>?_)|refine E0 (hK:=fun _=>?_)|refine E3 (hK:=fun _=>?_));try simp(disch:=first|omega|assumption|((repeat(first|exact A1|exact uH|apply A2|apply uT));first|done|fail)|(simp;first|done|omega|fail))[h1, h2, h3, h4, W7]))
 refine C4 J0 (fun w' hw' => Z4 w' _ _) ?_
 (have zz:=trivial;repeat((first|clear zz|with_reducible first|refine A3 ?_|refine A5 fun _=>?_|refine A4 fun _=>?_|refine E2 fun _=>?_|refine D9 (hK:=fun _=>?_)|refine E4 (hK:=fun _=>?_)|refine E1 (hK:=fun _=>?_)|refine E0 (hK:=fun _=>?_)|refine E3 (hK:=fun _=>?_));try simp(disch:=first|omega|assumption|((repeat(first|exact A1|exact uH|apply A2|apply uT));first|done|fail)|(simp;first|done|omega|fail))[h1, h2, h3, h4, W7, hs, hd]))
 exact B0 rfl
def A8P (src dst rest : ByteArray) (proto : Int) : ByteArray × Nat :=
 if src.size ≠ 4 ∨ dst.size ≠ 4 ∨ proto < 0 ∨ 255 < proto then (H4, 1) else if 65515 < rest.size then (H4, 4) else (A8n src dst proto rest.size (B4p (A8n src dst proto rest.size 0)) ++ rest, 0)
theorem B5m {src dst : ByteArray} {proto own : Int} {n : Nat} (hs : src.size = 4) (hd : dst.size = 4) : (A8n src dst proto n own).size = 20 := by simp [A8n, hs, hd]
theorem C7p (s : ByteArray) : 0 ≤ B4p s ∧ B4p s ≤ 65535 := by
 have := C2H (A8x s (W8 s)); unfold B4p A0s; omega
theorem C2a (w : World) (src dst rest : ByteArray) (proto : Int) (hrs : rest.size < 2 ^ 40) :
  Fn PR C0 126 #[.agg #[.string src, .string dst, .int .i64 proto], .string rest] w (fun v w' => v = .tuple #[.string (A8P src dst rest proto).1, .int .i64 (A8P src dst rest proto).2] ∧ D2 [] w w') := by
 refine Fn.pure (C0d (TW.go (κ := false) (S := []) ?_))
 unfold B4V
 by_cases c1 : src.size = 4
 case neg =>
  have c1' : ¬ (src.size : Int) = 4 := by omega
  (have zz:=trivial;repeat((first|clear zz|with_reducible first|refine A3 ?_|refine A5 fun _=>?_|refine A4 fun _=>?_|refine E2 fun _=>?_|refine D9 (hK:=fun _=>?_)|refine E4 (hK:=fun _=>?_)|refine E1 (hK:=fun _=>?_)|refine E0 (hK:=fun _=>?_)|refine E3 (hK:=fun _=>?_));try simp(disch:=first|omega|assumption|((repeat(first|exact A1|exact uH|apply A2|apply uT));first|done|fail)|(simp;first|done|omega|fail))[c1'])); exact B0 (by simp [A8P, c1])
 by_cases c2 : dst.size = 4
 case neg =>
  have c2' : ¬ (dst.size : Int) = 4 := by omega
  (have zz:=trivial;repeat((first|clear zz|with_reducible first|refine A3 ?_|refine A5 fun _=>?_|refine A4 fun _=>?_|refine E2 fun _=>?_|refine D9 (hK:=fun _=>?_)|refine E4 (hK:=fun _=>?_)|refine E1 (hK:=fun _=>?_)|refine E0 (hK:=fun _=>?_)|refine E3 (hK:=fun _=>?_));try simp(disch:=first|omega|assumption|((repeat(first|exact A1|exact uH|apply A2|apply uT));first|done|fail)|(simp;first|done|omega|fail))[c1, c2'])); exact B0 (by simp [A8P, c2])
 by_cases c3 : proto < 0
 ·(have zz:=trivial;repeat((first|clear zz|with_reducible first|refine A3 ?_|refine A5 fun _=>?_|refine A4 fun _=>?_|refine E2 fun _=>?_|refine D9 (hK:=fun _=>?_)|refine E4 (hK:=fun _=>?_)|refine E1 (hK:=fun _=>?_)|refine E0 (hK:=fun _=>?_)|refine E3 (hK:=fun _=>?_));try simp(disch:=first|omega|assumption|((repeat(first|exact A1|exact uH|apply A2|apply uT));first|done|fail)|(simp;first|done|omega|fail))[c1, c2, c3])); exact B0 (by simp [A8P, c3])
 by_cases c4 : 255 < proto
 ·(have zz:=trivial;repeat((first|clear zz|with_reducible first|refine A3 ?_|refine A5 fun _=>?_|refine A4 fun _=>?_|refine E2 fun _=>?_|refine D9 (hK:=fun _=>?_)|refine E4 (hK:=fun _=>?_)|refine E1 (hK:=fun _=>?_)|refine E0 (hK:=fun _=>?_)|refine E3 (hK:=fun _=>?_));try simp(disch:=first|omega|assumption|((repeat(first|exact A1|exact uH|apply A2|apply uT));first|done|fail)|(simp;first|done|omega|fail))[c1, c2, c3, c4])); exact B0 (by simp [A8P, c4])
 by_cases c5 : 65515 < rest.size
 ·have c5' : 65515 < (rest.size : Int) := by omega
  (have zz:=trivial;repeat((first|clear zz|with_reducible first|refine A3 ?_|refine A5 fun _=>?_|refine A4 fun _=>?_|refine E2 fun _=>?_|refine D9 (hK:=fun _=>?_)|refine E4 (hK:=fun _=>?_)|refine E1 (hK:=fun _=>?_)|refine E0 (hK:=fun _=>?_)|refine E3 (hK:=fun _=>?_));try simp(disch:=first|omega|assumption|((repeat(first|exact A1|exact uH|apply A2|apply uT));first|done|fail)|(simp;first|done|omega|fail))[c1, c2, c3, c4, c5'])); exact B0 (by simp [A8P, c1, c2, c3, c4, c5])
 have c5' : ¬ 65515 < (rest.size : Int) := by omega
 (have zz:=trivial;repeat((first|clear zz|with_reducible first|refine A3 ?_|refine A5 fun _=>?_|refine A4 fun _=>?_|refine E2 fun _=>?_|refine D9 (hK:=fun _=>?_)|refine E4 (hK:=fun _=>?_)|refine E1 (hK:=fun _=>?_)|refine E0 (hK:=fun _=>?_)|refine E3 (hK:=fun _=>?_));try simp(disch:=first|omega|assumption|((repeat(first|exact A1|exact uH|apply A2|apply uT));first|done|fail)|(simp;first|done|omega|fail))[c1, c2, c3, c4, c5']))
 rename_i bh br
 have key : ∀ w', LW false [] w [.pt br (.cells #[.string rest] 9), .pt bh (.cells #[.string src, .string dst, .int .i64 proto] 226)] w' → ∀ own : Int, 0 ≤ own → own ≤ 65535 → _ :=
  fun w' hw' own h0 h1 => C0r w' src dst rest proto own br bh (hw'.cell1 (by (repeat constructor))) (hw'.cell (by (repeat constructor)) (by rfl)) (hw'.cell (by (repeat constructor)) (by rfl)) (hw'.cell (by (repeat constructor)) (by rfl)) (by omega) c1 c2 (by omega) (by omega) h0 h1
 refine C4 A7s (fun w' hw' => key w' hw' 0 (by omega) (by omega)) ?_
 (have zz:=trivial;repeat((first|clear zz|with_reducible first|refine A3 ?_|refine A5 fun _=>?_|refine A4 fun _=>?_|refine E2 fun _=>?_|refine D9 (hK:=fun _=>?_)|refine E4 (hK:=fun _=>?_)|refine E1 (hK:=fun _=>?_)|refine E0 (hK:=fun _=>?_)|refine E3 (hK:=fun _=>?_));try simp(disch:=first|omega|assumption|((repeat(first|exact A1|exact uH|apply A2|apply uT));first|done|fail)|(simp;first|done|omega|fail))[]))
 have hz : (A8n src dst proto rest.size 0).size = 20 := B5m c1 c2
 have hv := C7p (A8n src dst proto rest.size 0)
 refine C4 B9U (fun w' hw' => C85 w' _ (by omega)) ?_
 (have zz:=trivial;repeat((first|clear zz|with_reducible first|refine A3 ?_|refine A5 fun _=>?_|refine A4 fun _=>?_|refine E2 fun _=>?_|refine D9 (hK:=fun _=>?_)|refine E4 (hK:=fun _=>?_)|refine E1 (hK:=fun _=>?_)|refine E0 (hK:=fun _=>?_)|refine E3 (hK:=fun _=>?_));try simp(disch:=first|omega|assumption|((repeat(first|exact A1|exact uH|apply A2|apply uT));first|done|fail)|(simp;first|done|omega|fail))[]))
 refine C4 A7s (fun w' hw' => key w' hw' _ hv.1 hv.2) ?_
 have hz2 : (A8n src dst proto rest.size (B4p (A8n src dst proto rest.size 0))).size = 20 := B5m c1 c2
 (have zz:=trivial;repeat((first|clear zz|with_reducible first|refine A3 ?_|refine A5 fun _=>?_|refine A4 fun _=>?_|refine E2 fun _=>?_|refine D9 (hK:=fun _=>?_)|refine E4 (hK:=fun _=>?_)|refine E1 (hK:=fun _=>?_)|refine E0 (hK:=fun _=>?_)|refine E3 (hK:=fun _=>?_));try simp(disch:=first|omega|assumption|((repeat(first|exact A1|exact uH|apply A2|apply uT));first|done|fail)|(simp;first|done|omega|fail))[W7]))
 exact B0 (by simp [A8P, c1, c2, c3, c4, c5])
end Go.Proofs.YtjobgnabneddjaaGreat
namespace Go.Proofs.YtjobgnabneddjaaGreat
open Go
def A8p : List Nat → ByteArray → List ByteArray
 | [], s => [s]
 | n :: ns, s => s.extract 0 n :: A8p ns (s.extract n s.size)
theorem C9H (w : World) (v : Value) (ns : List Nat) (s : ByteArray) (hn : ns.length < 100) (hv : F9 w v ns.length (ns.map fun n : Nat => Value.int .i64 (n : Int))) (hs : ns.sum ≤ s.size) (hs2 : s.size < 2 ^ 63) :
  Fn PR C0 198 #[.string s, v] w (Rn [] w (fun v u => u = v) fun v => [.own 9 1 v (ns.length + 1) ((A8p ns s).map .string)]) := by
 refine C1v (TW.go (κ := false) (S := []) ?_)
 unfold B4K
 obtain ⟨a, c, rfl, hrow⟩ := hv.form
 (have zz:=trivial;repeat((first|clear zz|with_reducible first|refine A3 ?_|refine A5 fun _=>?_|refine A4 fun _=>?_|refine E2 fun _=>?_|refine D9 (hK:=fun _=>?_)|refine E4 (hK:=fun _=>?_)|refine E1 (hK:=fun _=>?_)|refine E0 (hK:=fun _=>?_)|refine E3 (hK:=fun _=>?_));try simp(disch:=first|omega|assumption|((repeat(first|exact A1|exact uH|apply A2|apply uT));first|done|fail)|(simp;first|done|omega|fail))[]))
 refine l3 9 1 ?_
 refine C9f (α := Value × ByteArray × List ByteArray) ns.length (fun _ x => x.1) (fun _ x => .string x.2.1) (fun i x => [.own 9 1 x.1 i (x.2.2.map .string)])
  (fun i x => A8p ns s = x.2.2 ++ A8p (ns.drop i) x.2.1 ∧ (ns.drop i).sum ≤ x.2.1.size ∧ x.2.1.size ≤ s.size) (.slice none 0 0, s, []) ⟨by simp, by simpa using hs, Nat.le_refl _⟩ ?_
 rintro i ⟨v, r, d⟩ hi ⟨h1, h2, h3⟩ L hL
 simp only at h1 h2 h3 hL ⊢
 by_cases hlt : i < ns.length
 ·obtain ⟨b, o, rfl, hr⟩ := hrow (by omega)
  have hx : ns[i]? = some ns[i] := List.getElem?_eq_getElem hlt
  have hc := hr.one hx
  rw [List.drop_eq_getElem_cons hlt] at h1 h2
  simp only [List.sum_cons, A8p] at h1 h2
  have hle : ((ns[i] : Nat) : Int) ≤ r.size := by omega
  (have zz:=trivial;repeat((first|clear zz|with_reducible first|refine A3 ?_|refine A5 fun _=>?_|refine A4 fun _=>?_|refine E2 fun _=>?_|refine D9 (hK:=fun _=>?_)|refine E4 (hK:=fun _=>?_)|refine E1 (hK:=fun _=>?_)|refine E0 (hK:=fun _=>?_)|refine E3 (hK:=fun _=>?_));try simp(disch:=first|omega|assumption|((repeat(first|exact A1|exact uH|apply A2|apply uT));first|done|fail)|(simp;first|done|omega|fail))[hlt, hc]))
  refine A1W (by (repeat constructor)) (N9.own (by (repeat constructor))) (by decide) (by simp) (by simp) (by simp only [maxLen]; omega) (by omega) fun a' c' => ?_
  (have zz:=trivial;repeat((first|clear zz|with_reducible first|refine A3 ?_|refine A5 fun _=>?_|refine A4 fun _=>?_|refine E2 fun _=>?_|refine D9 (hK:=fun _=>?_)|refine E4 (hK:=fun _=>?_)|refine E1 (hK:=fun _=>?_)|refine E0 (hK:=fun _=>?_)|refine E3 (hK:=fun _=>?_));try simp(disch:=first|omega|assumption|((repeat(first|exact A1|exact uH|apply A2|apply uT));first|done|fail)|(simp;first|done|omega|fail))[hlt, hle]))
  have := hL hlt (.slice a' (i + 1) c', r.extract ns[i] r.size, d ++ [r.extract 0 ns[i]]) ⟨by rw [h1]; simp, by rw [ByteArray.size_extract]; omega, by rw [ByteArray.size_extract]; omega⟩
  simp only [List.map_append, List.map_cons, List.map_nil] at this
  exact Sels.tw (by (repeat' constructor)) this
 ·obtain rfl : i = ns.length := by omega
  (have zz:=trivial;repeat((first|clear zz|with_reducible first|refine A3 ?_|refine A5 fun _=>?_|refine A4 fun _=>?_|refine E2 fun _=>?_|refine D9 (hK:=fun _=>?_)|refine E4 (hK:=fun _=>?_)|refine E1 (hK:=fun _=>?_)|refine E0 (hK:=fun _=>?_)|refine E3 (hK:=fun _=>?_));try simp(disch:=first|omega|assumption|((repeat(first|exact A1|exact uH|apply A2|apply uT));first|done|fail)|(simp;first|done|omega|fail))[]))
  refine A1W (by (repeat constructor)) (N9.own (by (repeat constructor))) (by decide) (by simp) (by simp) (by simp only [maxLen]; omega) (by omega) fun a' c' => ?_
  simp only [List.drop_length, A8p] at h1
  rw [h1]
  exact m7 _ rfl (by simp)
def B5Q (s : ByteArray) : Nat := if s.size < 40 then 2 else if gv s 0 1 / 16 ≠ 6 then 3 else if s.size - 40 < gv s 4 2 then 4 else 0
def u5 (s : ByteArray) : HeadV := if B5Q s = 0 then ⟨s.extract 8 24, s.extract 24 40, gv s 6 1, s.extract 40 (40 + gv s 4 2), 0⟩ else .err (B5Q s)
theorem A7y (s : ByteArray) (a b i : Nat) (hb : b ≤ s.size) (hi : i < b - a) : G3 (s.extract a b) i = G3 s (a + i) := by
 unfold G3
 rw [Array.getD_eq_getD_getElem?, Array.getD_eq_getD_getElem?, ByteArray.data_extract, Array.getElem?_extract]
 rw [if_pos (by simp only [ByteArray.size] at hb; omega)]
theorem B9g (s : ByteArray) (a b i n : Nat) (hb : b ≤ s.size) (hn : i + n ≤ b - a) : u3 (s.extract a b) i n = u3 s (a + i) n := by
 induction n with
 | zero => rfl
 | succ n ih => simp only [u3]; rw [ih (by omega), A7y s a b _ hb (by omega), Nat.add_assoc]
theorem C05 {s : ByteArray} {a n : Nat} (h : a + n ≤ s.size) : gv s a n = u3 s a n := if_pos h
theorem C0u (s : ByteArray) (a b i n : Nat) (hb : b ≤ s.size) (hn : i + n ≤ b - a) (hab : a ≤ b) : gv (s.extract a b) i n = gv s (a + i) n := by
 rw [C05 (by rw [ByteArray.size_extract]; omega), C05 (by omega), B9g s a b i n hb hn]
theorem C3J {s : ByteArray} {a : Nat} (h : a < s.size) : gv s a 1 = G3 s a := by rw [C05 (by omega)]; simp [u3]
theorem B21 (s : ByteArray) (a b c d : Nat) (hb : b ≤ s.size) (hd : a + d ≤ b) : (s.extract a b).extract c d = s.extract (a + c) (a + d) := by
 apply ByteArray.ext
 rw [ByteArray.data_extract, ByteArray.data_extract, ByteArray.data_extract, Array.extract_extract]
 congr 1; omega
def C6L (s : ByteArray) : Nat → List Nat → List ByteArray
 | a, [] => [s.extract a s.size]
 | a, n :: ns => s.extract a (a + n) :: C6L s (a + n) ns
theorem C8M (s : ByteArray) (ns : List Nat) : ∀ a, a + ns.sum ≤ s.size → A8p ns (s.extract a s.size) = C6L s a ns := by
 induction ns with
 | nil => intro a _; rfl
 | cons n ns ih =>
  intro a h
  simp only [List.sum_cons] at h
  simp only [A8p, C6L]
  rw [B21 _ _ _ _ _ (by omega) (by omega), B21 _ _ _ _ _ (by omega) (by rw [ByteArray.size_extract]; omega), ByteArray.size_extract, Nat.add_zero]
  rw [show a + (min s.size s.size - a) = s.size from by omega, ih _ (by omega)]
theorem B9k (s : ByteArray) : s.extract 0 s.size = s := by
 apply ByteArray.ext; rw [ByteArray.data_extract]; exact Array.extract_size ..
theorem C1j {s : ByteArray} (h : 40 ≤ s.size) : A8p [4, 2, 1, 1, 16, 16] s = [s.extract 0 4, s.extract 4 6, s.extract 6 7, s.extract 7 8, s.extract 8 24, s.extract 24 40, s.extract 40 s.size] := by
 have := C8M s [4, 2, 1, 1, 16, 16] 0 (by simp; omega)
 rw [B9k] at this; rw [this]; rfl
theorem B9c (w : World) (s : ByteArray) (hs : s.size < 2 ^ 63) : Fn PR C0 142 #[.string s] w (fun v w' => v = (u5 s).val ∧ D2 [] w w') := by
 refine Fn.pure (B79 (TW.go (κ := false) (S := []) ?_))
 unfold B06
 by_cases c1 : s.size < 40
 ·have c1' : (s.size : Int) < 40 := by omega
  (have zz:=trivial;repeat((first|clear zz|with_reducible first|refine A3 ?_|refine A5 fun _=>?_|refine A4 fun _=>?_|refine E2 fun _=>?_|refine D9 (hK:=fun _=>?_)|refine E4 (hK:=fun _=>?_)|refine E1 (hK:=fun _=>?_)|refine E0 (hK:=fun _=>?_)|refine E3 (hK:=fun _=>?_));try simp(disch:=first|omega|assumption|((repeat(first|exact A1|exact uH|apply A2|apply uT));first|done|fail)|(simp;first|done|omega|fail))[c1'])); exact B0 (by simp [u5, B5Q, c1, HeadV.val, HeadV.err])
 have c1' : ¬ (s.size : Int) < 40 := by omega
 obtain ⟨by0, hb0, hb1⟩ := A0u (s := s) (i := 0) (by omega)
 have hg0 : gv s 0 1 = G3 s 0 := C3J (by omega)
 have e1 : ((by0.toNat : Nat) : Int).fdiv (2 ^ min 4 IntKind.u8.bits) = (gv s 0 1 / 16 : Nat) := by rw [show (2 : Int) ^ min 4 IntKind.u8.bits = 16 from rfl, Int.fdiv_eq_ediv_of_nonneg _ (by omega), hb1, hg0]; omega
 have hb0' : s[(0 : Int).toNat]? = some by0 := hb0
 by_cases c2 : gv s 0 1 / 16 = 6
 case neg =>
  have c2' : ¬ ((gv s 0 1 / 16 : Nat) : Int) = 6 := by omega
  (have zz:=trivial;repeat((first|clear zz|with_reducible first|refine A3 ?_|refine A5 fun _=>?_|refine A4 fun _=>?_|refine E2 fun _=>?_|refine D9 (hK:=fun _=>?_)|refine E4 (hK:=fun _=>?_)|refine E1 (hK:=fun _=>?_)|refine E0 (hK:=fun _=>?_)|refine E3 (hK:=fun _=>?_));try simp(disch:=first|omega|assumption|((repeat(first|exact A1|exact uH|apply A2|apply uT));first|done|fail)|(simp;first|done|omega|fail))[c1', g6]))
  rw [e1, if_neg c2']
  (have zz:=trivial;repeat((first|clear zz|with_reducible first|refine A3 ?_|refine A5 fun _=>?_|refine A4 fun _=>?_|refine E2 fun _=>?_|refine D9 (hK:=fun _=>?_)|refine E4 (hK:=fun _=>?_)|refine E1 (hK:=fun _=>?_)|refine E0 (hK:=fun _=>?_)|refine E3 (hK:=fun _=>?_));try simp(disch:=first|omega|assumption|((repeat(first|exact A1|exact uH|apply A2|apply uT));first|done|fail)|(simp;first|done|omega|fail))[])); exact B0 (by simp [u5, B5Q, c1, c2, HeadV.val, HeadV.err])
 have c2' : ((gv s 0 1 / 16 : Nat) : Int) = 6 := by omega
 (have zz:=trivial;repeat((first|clear zz|with_reducible first|refine A3 ?_|refine A5 fun _=>?_|refine A4 fun _=>?_|refine E2 fun _=>?_|refine D9 (hK:=fun _=>?_)|refine E4 (hK:=fun _=>?_)|refine E1 (hK:=fun _=>?_)|refine E0 (hK:=fun _=>?_)|refine E3 (hK:=fun _=>?_));try simp(disch:=first|omega|assumption|((repeat(first|exact A1|exact uH|apply A2|apply uT));first|done|fail)|(simp;first|done|omega|fail))[c1', g6]))
 rw [e1, if_pos c2']
 (have zz:=trivial;repeat((first|clear zz|with_reducible first|refine A3 ?_|refine A5 fun _=>?_|refine A4 fun _=>?_|refine E2 fun _=>?_|refine D9 (hK:=fun _=>?_)|refine E4 (hK:=fun _=>?_)|refine E1 (hK:=fun _=>?_)|refine E0 (hK:=fun _=>?_)|refine E3 (hK:=fun _=>?_));try simp(disch:=first|omega|assumption|((repeat(first|exact A1|exact uH|apply A2|apply uT));first|done|fail)|(simp;first|done|omega|fail))[]))
 rename_i bh bl
 refine G4 B9q (fun w' hw' => C9H w' _ [4, 2, 1, 1, 16, 16] s (by simp) ?_ (by simp; omega) (by omega)) ?_
 ·have := N9.own (κ := false) (S := []) (w0 := w) (e := 3) (k := 1) (q := 6) (v := .slice (some ⟨bl, 0, none⟩) 6 6) (by (repeat constructor)) w' hw'
  simpa using this
 rintro v _ rfl
 rw [C1j (by omega)]
 simp only [List.length_cons, List.length_nil, List.map_cons, List.map_nil, List.cons_append, List.nil_append]
 refine g4 (by (repeat constructor)) (by omega) fun g c hv => ?_
 subst hv
 (have zz:=trivial;repeat((first|clear zz|with_reducible first|refine A3 ?_|refine A5 fun _=>?_|refine A4 fun _=>?_|refine E2 fun _=>?_|refine D9 (hK:=fun _=>?_)|refine E4 (hK:=fun _=>?_)|refine E1 (hK:=fun _=>?_)|refine E0 (hK:=fun _=>?_)|refine E3 (hK:=fun _=>?_));try simp(disch:=first|omega|assumption|((repeat(first|exact A1|exact uH|apply A2|apply uT));first|done|fail)|(simp;first|done|omega|fail))[]))
 refine C4 T5 (fun w' _ => A3W w' _ (by simp; omega) _ _) ?_
 have hgv := A7F (s.extract 4 6) 0 2 (by omega) (by omega)
 rw [C0u s 4 6 0 2 (by omega) (by omega) (by omega)] at hgv
 simp only [Int.natCast_zero, Int.cast_ofNat_Int] at hgv
 have hlt := A3A s 4
 rw [hgv]
 (have zz:=trivial;repeat((first|clear zz|with_reducible first|refine A3 ?_|refine A5 fun _=>?_|refine A4 fun _=>?_|refine E2 fun _=>?_|refine D9 (hK:=fun _=>?_)|refine E4 (hK:=fun _=>?_)|refine E1 (hK:=fun _=>?_)|refine E0 (hK:=fun _=>?_)|refine E3 (hK:=fun _=>?_));try simp(disch:=first|omega|assumption|((repeat(first|exact A1|exact uH|apply A2|apply uT));first|done|fail)|(simp;first|done|omega|fail))[]))
 refine B7J (fun c3 => ?_) (fun c3 => ?_)
 ·(have zz:=trivial;repeat((first|clear zz|with_reducible first|refine A3 ?_|refine A5 fun _=>?_|refine A4 fun _=>?_|refine E2 fun _=>?_|refine D9 (hK:=fun _=>?_)|refine E4 (hK:=fun _=>?_)|refine E1 (hK:=fun _=>?_)|refine E0 (hK:=fun _=>?_)|refine E3 (hK:=fun _=>?_));try simp(disch:=first|omega|assumption|((repeat(first|exact A1|exact uH|apply A2|apply uT));first|done|fail)|(simp;first|done|omega|fail))[]))
  exact B0 (by simp [u5, B5Q, c1, c2, c3, HeadV.val, HeadV.err])
 ·obtain ⟨by6, hb6, hb6'⟩ := A0u (s := s.extract 6 7) (i := 0) (by simp; omega)
  have hp : G3 (s.extract 6 7) 0 = gv s 6 1 := by rw [A7y s 6 7 0 (by omega) (by omega), C3J (by omega)]
  have hb6'' : (s.extract 6 7)[(0 : Int).toNat]? = some by6 := hb6
  have hle : ((gv s 4 2 : Nat) : Int) ≤ (s.extract 40 s.size).size := by rw [ByteArray.size_extract]; omega
  (have zz:=trivial;repeat((first|clear zz|with_reducible first|refine A3 ?_|refine A5 fun _=>?_|refine A4 fun _=>?_|refine E2 fun _=>?_|refine D9 (hK:=fun _=>?_)|refine E4 (hK:=fun _=>?_)|refine E1 (hK:=fun _=>?_)|refine E0 (hK:=fun _=>?_)|refine E3 (hK:=fun _=>?_));try simp(disch:=first|omega|assumption|((repeat(first|exact A1|exact uH|apply A2|apply uT));first|done|fail)|(simp;first|done|omega|fail))[g6]))
  have h6 := B3q s 6
  have w6 : IntKind.i64.wrap (gv s 6 1 : Nat) = (gv s 6 1 : Nat) := d9 (by omega) (by omega)
  rw [hb6', hp]
  exact B0 (by rw [B21 s 40 s.size 0 _ (by omega) (by omega)]; simp [u5, B5Q, c1, c2, c3, HeadV.val, w6])
theorem A23 : liesAt PR PR.depth 305 (2 / PR.cellsOf 305) 0 303 1 = true := by kernel_rfl
theorem A5r (w : World) (b : Nat) (a : Option Addr) (v : Value) (q : Nat) (xs : List Value) (x n : Int) (ha : a = none ∨ a = some ⟨b, 0, none⟩) (hx0 : 0 ≤ x) (hx : x < 2 ^ 62) (hs : q < 2 ^ 39)
  (hw : LW false (B6 (Bd b 305 a v q xs)) w (Bd b 305 a v q xs) w) : Fn PR C0 172 #[.pointer (some ⟨b, 0, none⟩), .int .i64 x, .int .i64 n] w
   (Rn (B6 (Bd b 305 a v q xs)) w (fun (_ : Value) u => u = .tuple #[]) fun v' => Bd b 305 (some ⟨b, 0, none⟩) v' (q + (G0 x n).size) (xs ++ G2 (G0 x n))) := by
 refine A87 (TW.goH (κ := false) (S := B6 (Bd b 305 a v q xs)) ?_ hw)
 unfold A1r
 (have zz:=trivial;repeat((first|clear zz|with_reducible first|refine A3 ?_|refine A5 fun _=>?_|refine A4 fun _=>?_|refine E2 fun _=>?_|refine D9 (hK:=fun _=>?_)|refine E4 (hK:=fun _=>?_)|refine E1 (hK:=fun _=>?_)|refine E0 (hK:=fun _=>?_)|refine E3 (hK:=fun _=>?_));try simp(disch:=first|omega|assumption|((repeat(first|exact A1|exact uH|apply A2|apply uT));first|done|fail)|(simp;first|done|omega|fail))[]))
 refine C4 J0 (fun w' _ => Z4 w' _ _) ?_
 have hp : (G0 x n).size ≤ 8 := by
  by_cases h : 1 ≤ n ∧ n ≤ 8
  ·rw [C3C h.1 h.2]; omega
  ·simp [G0, h]
 refine B3Q (Hc := Bd b 305 a v q xs) (Hk := []) N2 (by rfl) (fun w' hw' => y5 w' b _ a v q xs _ ha A23 (by omega) hw'.self) ?_
 rintro v' _ rfl
 (have zz:=trivial;repeat((first|clear zz|with_reducible first|refine A3 ?_|refine A5 fun _=>?_|refine A4 fun _=>?_|refine E2 fun _=>?_|refine D9 (hK:=fun _=>?_)|refine E4 (hK:=fun _=>?_)|refine E1 (hK:=fun _=>?_)|refine E0 (hK:=fun _=>?_)|refine E3 (hK:=fun _=>?_));try simp(disch:=first|omega|assumption|((repeat(first|exact A1|exact uH|apply A2|apply uT));first|done|fail)|(simp;first|done|omega|fail))[]))
 exact B1 v' rfl (by simp only [Bd]; (repeat' constructor))
def B3A (src dst rest : ByteArray) (proto : Int) : ByteArray := G0 1610612736 4 ++ G0 rest.size 2 ++ G0 proto 1 ++ G0 64 1 ++ src ++ dst ++ rest
def B45 (rest : ByteArray) : Nat → Nat | 0 => 8 | 1 => 24 | 2 => 40 | _ => 40 + rest.size
def B5A (src dst rest : ByteArray) (proto : Int) : Nat → ByteArray
 | 0 => G0 1610612736 4 ++ G0 rest.size 2 ++ G0 proto 1 ++ G0 64 1
 | 1 => G0 1610612736 4 ++ G0 rest.size 2 ++ G0 proto 1 ++ G0 64 1 ++ src
 | 2 => G0 1610612736 4 ++ G0 rest.size 2 ++ G0 proto 1 ++ G0 64 1 ++ src ++ dst
 | _ => B3A src dst rest proto
def A8w (src dst rest : ByteArray) (proto : Int) : ByteArray × Nat :=
 if src.size ≠ 16 ∨ dst.size ≠ 16 ∨ proto < 0 ∨ 255 < proto then (H4, 1) else if 65535 < rest.size then (H4, 4) else (B3A src dst rest proto, 0)
theorem C3F (w : World) (src dst rest : ByteArray) (proto : Int) (hrs : rest.size < 2 ^ 40) :
  Fn PR C0 125 #[.agg #[.string src, .string dst, .int .i64 proto], .string rest] w (fun v w' => v = .tuple #[.string (A8w src dst rest proto).1, .int .i64 (A8w src dst rest proto).2] ∧ D2 [] w w') := by
 refine Fn.pure (C0q (TW.go (κ := false) (S := []) ?_))
 unfold B4b
 by_cases c1 : src.size = 16
 case neg =>
  have c1' : ¬ (src.size : Int) = 16 := by omega
  (have zz:=trivial;repeat((first|clear zz|with_reducible first|refine A3 ?_|refine A5 fun _=>?_|refine A4 fun _=>?_|refine E2 fun _=>?_|refine D9 (hK:=fun _=>?_)|refine E4 (hK:=fun _=>?_)|refine E1 (hK:=fun _=>?_)|refine E0 (hK:=fun _=>?_)|refine E3 (hK:=fun _=>?_));try simp(disch:=first|omega|assumption|((repeat(first|exact A1|exact uH|apply A2|apply uT));first|done|fail)|(simp;first|done|omega|fail))[c1'])); exact B0 (by simp [A8w, c1])
 by_cases c2 : dst.size = 16
 case neg =>
  have c2' : ¬ (dst.size : Int) = 16 := by omega
  (have zz:=trivial;repeat((first|clear zz|with_reducible first|refine A3 ?_|refine A5 fun _=>?_|refine A4 fun _=>?_|refine E2 fun _=>?_|refine D9 (hK:=fun _=>?_)|refine E4 (hK:=fun _=>?_)|refine E1 (hK:=fun _=>?_)|refine E0 (hK:=fun _=>?_)|refine E3 (hK:=fun _=>?_));try simp(disch:=first|omega|assumption|((repeat(first|exact A1|exact uH|apply A2|apply uT));first|done|fail)|(simp;first|done|omega|fail))[c1, c2'])); exact B0 (by simp [A8w, c2])
 by_cases c3 : proto < 0
 ·(have zz:=trivial;repeat((first|clear zz|with_reducible first|refine A3 ?_|refine A5 fun _=>?_|refine A4 fun _=>?_|refine E2 fun _=>?_|refine D9 (hK:=fun _=>?_)|refine E4 (hK:=fun _=>?_)|refine E1 (hK:=fun _=>?_)|refine E0 (hK:=fun _=>?_)|refine E3 (hK:=fun _=>?_));try simp(disch:=first|omega|assumption|((repeat(first|exact A1|exact uH|apply A2|apply uT));first|done|fail)|(simp;first|done|omega|fail))[c1, c2, c3])); exact B0 (by simp [A8w, c3])
 by_cases c4 : 255 < proto
 ·(have zz:=trivial;repeat((first|clear zz|with_reducible first|refine A3 ?_|refine A5 fun _=>?_|refine A4 fun _=>?_|refine E2 fun _=>?_|refine D9 (hK:=fun _=>?_)|refine E4 (hK:=fun _=>?_)|refine E1 (hK:=fun _=>?_)|refine E0 (hK:=fun _=>?_)|refine E3 (hK:=fun _=>?_));try simp(disch:=first|omega|assumption|((repeat(first|exact A1|exact uH|apply A2|apply uT));first|done|fail)|(simp;first|done|omega|fail))[c1, c2, c3, c4])); exact B0 (by simp [A8w, c4])
 by_cases c5 : 65535 < rest.size
 ·have c5' : 65535 < (rest.size : Int) := by omega
  (have zz:=trivial;repeat((first|clear zz|with_reducible first|refine A3 ?_|refine A5 fun _=>?_|refine A4 fun _=>?_|refine E2 fun _=>?_|refine D9 (hK:=fun _=>?_)|refine E4 (hK:=fun _=>?_)|refine E1 (hK:=fun _=>?_)|refine E0 (hK:=fun _=>?_)|refine E3 (hK:=fun _=>?_));try simp(disch:=first|omega|assumption|((repeat(first|exact A1|exact uH|apply A2|apply uT));first|done|fail)|(simp;first|done|omega|fail))[c1, c2, c3, c4, c5'])); exact B0 (by simp [A8w, c1, c2, c3, c4, c5])
 have c5' : ¬ 65535 < (rest.size : Int) := by omega
 (have zz:=trivial;repeat((first|clear zz|with_reducible first|refine A3 ?_|refine A5 fun _=>?_|refine A4 fun _=>?_|refine E2 fun _=>?_|refine D9 (hK:=fun _=>?_)|refine E4 (hK:=fun _=>?_)|refine E1 (hK:=fun _=>?_)|refine E0 (hK:=fun _=>?_)|refine E3 (hK:=fun _=>?_));try simp(disch:=first|omega|assumption|((repeat(first|exact A1|exact uH|apply A2|apply uT));first|done|fail)|(simp;first|done|omega|fail))[c1, c2, c3, c4, c5']))
 rename_i bh bw
 refine l3 5 1 ?_
 refine D0 V7 (fun w' _ hs => A5r w' bw none (.slice none 0 0) 0 [] 1610612736 4 (Or.inl rfl) (by omega) (by omega) (by omega) hs) (by (repeat' constructor)) ?_
 rintro v1 _ rfl
 (have zz:=trivial;repeat((first|clear zz|with_reducible first|refine A3 ?_|refine A5 fun _=>?_|refine A4 fun _=>?_|refine E2 fun _=>?_|refine D9 (hK:=fun _=>?_)|refine E4 (hK:=fun _=>?_)|refine E1 (hK:=fun _=>?_)|refine E0 (hK:=fun _=>?_)|refine E3 (hK:=fun _=>?_));try simp(disch:=first|omega|assumption|((repeat(first|exact A1|exact uH|apply A2|apply uT));first|done|fail)|(simp;first|done|omega|fail))[]))
 refine D0 V7 (fun w' _ hs => A5r w' bw _ v1 4 _ rest.size 2 (Or.inr rfl) (by omega) (by omega) (by omega) hs) (by (repeat' constructor)) ?_
 rintro v2 _ rfl
 (have zz:=trivial;repeat((first|clear zz|with_reducible first|refine A3 ?_|refine A5 fun _=>?_|refine A4 fun _=>?_|refine E2 fun _=>?_|refine D9 (hK:=fun _=>?_)|refine E4 (hK:=fun _=>?_)|refine E1 (hK:=fun _=>?_)|refine E0 (hK:=fun _=>?_)|refine E3 (hK:=fun _=>?_));try simp(disch:=first|omega|assumption|((repeat(first|exact A1|exact uH|apply A2|apply uT));first|done|fail)|(simp;first|done|omega|fail))[]))
 refine D0 V7 (fun w' _ hs => A5r w' bw _ v2 6 _ proto 1 (Or.inr rfl) (by omega) (by omega) (by omega) hs) (by (repeat' constructor)) ?_
 rintro v3 _ rfl
 (have zz:=trivial;repeat((first|clear zz|with_reducible first|refine A3 ?_|refine A5 fun _=>?_|refine A4 fun _=>?_|refine E2 fun _=>?_|refine D9 (hK:=fun _=>?_)|refine E4 (hK:=fun _=>?_)|refine E1 (hK:=fun _=>?_)|refine E0 (hK:=fun _=>?_)|refine E3 (hK:=fun _=>?_));try simp(disch:=first|omega|assumption|((repeat(first|exact A1|exact uH|apply A2|apply uT));first|done|fail)|(simp;first|done|omega|fail))[]))
 refine D0 V7 (fun w' _ hs => A5r w' bw _ v3 7 _ 64 1 (Or.inr rfl) (by omega) (by omega) (by omega) hs) (by (repeat' constructor)) ?_
 rintro v4 _ rfl
 (have zz:=trivial;repeat((first|clear zz|with_reducible first|refine A3 ?_|refine A5 fun _=>?_|refine A4 fun _=>?_|refine E2 fun _=>?_|refine D9 (hK:=fun _=>?_)|refine E4 (hK:=fun _=>?_)|refine E1 (hK:=fun _=>?_)|refine E0 (hK:=fun _=>?_)|refine E3 (hK:=fun _=>?_));try simp(disch:=first|omega|assumption|((repeat(first|exact A1|exact uH|apply A2|apply uT));first|done|fail)|(simp;first|done|omega|fail))[]))
 rename_i bl
 refine A7B (α := Value) 3 (fun i v => [.own 9 1 (.slice (some ⟨bl, 0, none⟩) 3 3) 3 [.string src, .string dst, .string rest], .pt bw (.cells #[.pointer (some ⟨bw, 0, none⟩), v] 305),
  .own 5 1 v (B45 rest i) (G2 (B5A src dst rest proto i)), .pt bh (.cells #[.string src, .string dst, .int .i64 proto] 224)]) (fun _ _ => True) v4 trivial ?_ (by simp [B45, B5A, A1V])
 rintro i v hi _ L hL
 obtain rfl | rfl | rfl | rfl : i = 0 ∨ i = 1 ∨ i = 2 ∨ i = 3 := by omega
 ·have hL' := fun v' => hL (by omega) v' trivial
  simp only [B45, B5A, A1V, List.append_assoc] at hL' ⊢
  (have zz:=trivial;repeat((first|clear zz|with_reducible first|refine A3 ?_|refine A5 fun _=>?_|refine A4 fun _=>?_|refine E2 fun _=>?_|refine D9 (hK:=fun _=>?_)|refine E4 (hK:=fun _=>?_)|refine E1 (hK:=fun _=>?_)|refine E0 (hK:=fun _=>?_)|refine E3 (hK:=fun _=>?_));try simp(disch:=first|omega|assumption|((repeat(first|exact A1|exact uH|apply A2|apply uT));first|done|fail)|(simp;first|done|omega|fail))[]))
  refine D0 N2 (fun w' _ hs => y5 w' bw _ _ v 8 _ src (Or.inr rfl) A23 (by omega) hs) (by (repeat' constructor)) ?_
  rintro v' _ rfl
  (have zz:=trivial;repeat((first|clear zz|with_reducible first|refine A3 ?_|refine A5 fun _=>?_|refine A4 fun _=>?_|refine E2 fun _=>?_|refine D9 (hK:=fun _=>?_)|refine E4 (hK:=fun _=>?_)|refine E1 (hK:=fun _=>?_)|refine E0 (hK:=fun _=>?_)|refine E3 (hK:=fun _=>?_));try simp(disch:=first|omega|assumption|((repeat(first|exact A1|exact uH|apply A2|apply uT));first|done|fail)|(simp;first|done|omega|fail))[c1]))
  exact Sels.tw (by (repeat' constructor)) (hL' v')
 ·have hL' := fun v' => hL (by omega) v' trivial
  simp only [B45, B5A, A1V, List.append_assoc] at hL' ⊢
  (have zz:=trivial;repeat((first|clear zz|with_reducible first|refine A3 ?_|refine A5 fun _=>?_|refine A4 fun _=>?_|refine E2 fun _=>?_|refine D9 (hK:=fun _=>?_)|refine E4 (hK:=fun _=>?_)|refine E1 (hK:=fun _=>?_)|refine E0 (hK:=fun _=>?_)|refine E3 (hK:=fun _=>?_));try simp(disch:=first|omega|assumption|((repeat(first|exact A1|exact uH|apply A2|apply uT));first|done|fail)|(simp;first|done|omega|fail))[]))
  refine D0 N2 (fun w' _ hs => y5 w' bw _ _ v 24 _ dst (Or.inr rfl) A23 (by omega) hs) (by (repeat' constructor)) ?_
  rintro v' _ rfl
  (have zz:=trivial;repeat((first|clear zz|with_reducible first|refine A3 ?_|refine A5 fun _=>?_|refine A4 fun _=>?_|refine E2 fun _=>?_|refine D9 (hK:=fun _=>?_)|refine E4 (hK:=fun _=>?_)|refine E1 (hK:=fun _=>?_)|refine E0 (hK:=fun _=>?_)|refine E3 (hK:=fun _=>?_));try simp(disch:=first|omega|assumption|((repeat(first|exact A1|exact uH|apply A2|apply uT));first|done|fail)|(simp;first|done|omega|fail))[c2]))
  exact Sels.tw (by (repeat' constructor)) (hL' v')
 ·have hL' := fun v' => hL (by omega) v' trivial
  simp only [B45, B5A, B3A, A1V, List.append_assoc] at hL' ⊢
  (have zz:=trivial;repeat((first|clear zz|with_reducible first|refine A3 ?_|refine A5 fun _=>?_|refine A4 fun _=>?_|refine E2 fun _=>?_|refine D9 (hK:=fun _=>?_)|refine E4 (hK:=fun _=>?_)|refine E1 (hK:=fun _=>?_)|refine E0 (hK:=fun _=>?_)|refine E3 (hK:=fun _=>?_));try simp(disch:=first|omega|assumption|((repeat(first|exact A1|exact uH|apply A2|apply uT));first|done|fail)|(simp;first|done|omega|fail))[]))
  refine D0 N2 (fun w' _ hs => y5 w' bw _ _ v 40 _ rest (Or.inr rfl) A23 (by omega) hs) (by (repeat' constructor)) ?_
  rintro v' _ rfl
  (have zz:=trivial;repeat((first|clear zz|with_reducible first|refine A3 ?_|refine A5 fun _=>?_|refine A4 fun _=>?_|refine E2 fun _=>?_|refine D9 (hK:=fun _=>?_)|refine E4 (hK:=fun _=>?_)|refine E1 (hK:=fun _=>?_)|refine E0 (hK:=fun _=>?_)|refine E3 (hK:=fun _=>?_));try simp(disch:=first|omega|assumption|((repeat(first|exact A1|exact uH|apply A2|apply uT));first|done|fail)|(simp;first|done|omega|fail))[]))
  exact Sels.tw (by (repeat' constructor)) (hL' v')
 ·simp only [B45, B5A]
  (have zz:=trivial;repeat((first|clear zz|with_reducible first|refine A3 ?_|refine A5 fun _=>?_|refine A4 fun _=>?_|refine E2 fun _=>?_|refine D9 (hK:=fun _=>?_)|refine E4 (hK:=fun _=>?_)|refine E1 (hK:=fun _=>?_)|refine E0 (hK:=fun _=>?_)|refine E3 (hK:=fun _=>?_));try simp(disch:=first|omega|assumption|((repeat(first|exact A1|exact uH|apply A2|apply uT));first|done|fail)|(simp;first|done|omega|fail))[]))
  have hz : (B3A src dst rest proto).size = 40 + rest.size := by simp [B3A, c1, c2]
  refine D0 A3s (fun w' _ hs => C3V w' bw _ _ v (40 + rest.size) (G2 (B3A src dst rest proto)) (B3A src dst rest proto) hz.symm rfl (by omega) (by omega) hs) (by (repeat' constructor)) ?_
  rintro _ _ rfl
  (have zz:=trivial;repeat((first|clear zz|with_reducible first|refine A3 ?_|refine A5 fun _=>?_|refine A4 fun _=>?_|refine E2 fun _=>?_|refine D9 (hK:=fun _=>?_)|refine E4 (hK:=fun _=>?_)|refine E1 (hK:=fun _=>?_)|refine E0 (hK:=fun _=>?_)|refine E3 (hK:=fun _=>?_));try simp(disch:=first|omega|assumption|((repeat(first|exact A1|exact uH|apply A2|apply uT));first|done|fail)|(simp;first|done|omega|fail))[]))
  exact B0 (by simp [A8w, c1, c2, c3, c4, c5])
end Go.Proofs.YtjobgnabneddjaaGreat
namespace Go.Proofs.YtjobgnabneddjaaGreat
open Go
theorem B7B {κ : Bool} {X : Nat → Prop} {S : List Nat} {w0 : World} {H : List Res} {K : Value → WP} {g u : Value} {name : String} {args : List Value} {f : FuncId} {args' : Array Value} (hr : ∀ w, (callMethod g name args.toArray).run PR w = .ok (.enter f args') w)
  (hf : ∀ w, LW κ S w0 H w → Fn PR C0 f args' w (fun v w' => v = u ∧ D2 [] w w')) (hK : TW κ S w0 H (K u)) : TW κ S w0 H (inv PR X g name args K) := fun w hw =>
 ⟨f, args', hr w, (hf w hw).use fun v w' ⟨h1, h2⟩ hsk => by subst h1; exact hK w' (hw.ext (h2.ks fun _ => hsk))⟩
theorem C1c {P : Program} {t : TypeId} {n m : Nat} {z : Value} {ms : Array (String × TypeId)} {e : Nat} (h : TI P t (.interface ms) n m z) : EqV P (e + 1) t .nilIface .nilIface true := by
 intro w
 simp only [Op.equalIn, Sem.run_bind, h.run_und, Result.andThen_ok]; rfl
theorem C1P {P : Program} {t : TypeId} {n m : Nat} {z : Value} {ms : Array (String × TypeId)} {e : Nat} (h : TI P t (.interface ms) n m z) (u : TypeId) (v : Value) : EqV P (e + 1) t (.iface u v) .nilIface false := by
 intro w
 simp only [Op.equalIn, Sem.run_bind, h.run_und, Result.andThen_ok]; rfl
theorem C0H {t : TypeId} {op : BinOp} {x y : Operand} {g : Value} {r : Bool} {K : Value → WP} (hg : (eqGuard .eql t x y g .nilIface) = pure ()) (he : EqV PR 10000 t g .nilIface r) : A6 PR (H0 .eql t x y g .nilIface) K = K (.bool r) := by
 funext w
 refine T1 ?_ K
 have := he w
 simp [H0, hg, binOp, Op.equal, Op.maxDepth, this]
theorem A2Z {x : Operand} {c : Value} {K : Value → WP} : A6 PR (H0 .eql 250 x (.const c) .nilIface .nilIface) K = K (.bool true) := C0H (op := .eql) (by cases x <;> rfl) (C1c (e := 9999) B68)
theorem A2b {x y : Operand} {K : Value → WP} {u : TypeId} {v : Value} : A6 PR (H0 .eql 250 x y (.iface u v) .nilIface) K = K (.bool false) := C0H (op := .eql) (by rfl) (C1P (e := 9999) B68 u v)
abbrev B8S : Value := .iface 333 (.agg #[])
abbrev B8E : Value := .iface 334 (.agg #[])
def r5 : List (Int × Value) := [(6, B8S), (17, B8E)]
theorem B5p (w : World) : Fn PR C0 144 #[] w (Rn [] w (fun r v => v = .map (some r)) fun r => [.pt r (s9 (Value.int .i64) r5)]) := by
 refine B46 (TW.go (κ := false) (S := []) ?_)
 unfold A61
 refine C0Y (Value.int .i64) fun r => ?_
 (have zz:=trivial;repeat((first|clear zz|with_reducible first|refine A3 ?_|refine A5 fun _=>?_|refine A4 fun _=>?_);try simp(disch:=first|omega|assumption|((repeat(first|exact A1|exact uH|apply A2|apply uT));first|done|fail)|(simp;first|done|omega|fail))[]))
 refine B2m B66 (KeyT.int G9) (k := 6) (by (repeat constructor)) ?_
 (have zz:=trivial;repeat((first|clear zz|with_reducible first|refine A3 ?_|refine A5 fun _=>?_|refine A4 fun _=>?_);try simp(disch:=first|omega|assumption|((repeat(first|exact A1|exact uH|apply A2|apply uT));first|done|fail)|(simp;first|done|omega|fail))[]))
 refine B2m B66 (KeyT.int G9) (k := 17) (by (repeat constructor)) ?_
 exact m7 r rfl (by simp [n7, r5])
def B0n (s : ByteArray) : Nat × Nat := if s.size < 20 then (0, 2) else if G3 s 12 / 16 * 4 < 20 ∨ s.size < G3 s 12 / 16 * 4 then (0, 8) else (G3 s 13, 0)
def B1N (s : ByteArray) : Nat × Nat := if s.size < 8 then (0, 2) else if gv s 4 2 < 8 ∨ s.size < gv s 4 2 then (0, 4) else (0, 0)
theorem B9p (w : World) (s : ByteArray) (hs : s.size < 2 ^ 40) : Fn PR C0 339 #[.agg #[], .string s] w (fun v w' => v = .tuple #[.int .i64 (B0n s).1, .int .i64 (B0n s).2] ∧ D2 [] w w') := by
 refine Fn.pure (B13 (TW.go (κ := false) (S := []) ?_))
 unfold A33
 by_cases c1 : s.size < 20
 ·have c1' : (s.size : Int) < 20 := by omega
  (have zz:=trivial;repeat((first|clear zz|with_reducible first|refine A3 ?_|refine A5 fun _=>?_|refine A4 fun _=>?_);try simp(disch:=first|omega|assumption|((repeat(first|exact A1|exact uH|apply A2|apply uT));first|done|fail)|(simp;first|done|omega|fail))[c1'])); exact B0 (by simp [B0n, c1])
 have c1' : ¬ (s.size : Int) < 20 := by omega
 obtain ⟨by0, hb0, hb1⟩ := A0u (s := s) (i := 12) (by omega)
 obtain ⟨by1, hb2, hb3⟩ := A0u (s := s) (i := 13) (by omega)
 have hb0' : s[(12 : Int).toNat]? = some by0 := hb0
 have hb2' : s[(13 : Int).toNat]? = some by1 := hb2
 have hl0 := A1F s 12
 have hl1 := A1F s 13
 have e1 : ((by0.toNat : Nat) : Int).fdiv (2 ^ min 4 IntKind.u8.bits) = (G3 s 12 / 16 : Nat) := by rw [show (2 : Int) ^ min 4 IntKind.u8.bits = 16 from rfl, Int.fdiv_eq_ediv_of_nonneg _ (by omega), hb1]; omega
 have e2 : IntKind.i64.wrap (by1.toNat : Nat) = (G3 s 13 : Nat) := by rw [d9 (by omega) (by omega), hb3]
 have l1 : ∀ n : Nat, ((n * 4 : Nat) : Int) = (n : Int) * 4 := by omega
 by_cases c2 : G3 s 12 / 16 * 4 < 20
 ·have c2' : ((G3 s 12 : Nat) : Int) / 16 * 4 < 20 := by omega
  (have zz:=trivial;repeat((first|clear zz|with_reducible first|refine A3 ?_|refine A5 fun _=>?_|refine A4 fun _=>?_);try simp(disch:=first|omega|assumption|((repeat(first|exact A1|exact uH|apply A2|apply uT));first|done|fail)|(simp;first|done|omega|fail))[c1', g6]))
  rw [e1]
  (have zz:=trivial;repeat((first|clear zz|with_reducible first|refine A3 ?_|refine A5 fun _=>?_|refine A4 fun _=>?_);try simp(disch:=first|omega|assumption|((repeat(first|exact A1|exact uH|apply A2|apply uT));first|done|fail)|(simp;first|done|omega|fail))[c2']))
  exact B0 (by simp [B0n, c1, c2])
 have c2' : ¬ ((G3 s 12 : Nat) : Int) / 16 * 4 < 20 := by omega
 by_cases c3 : s.size < G3 s 12 / 16 * 4
 ·have c3' : (s.size : Int) < ((G3 s 12 : Nat) : Int) / 16 * 4 := by omega
  (have zz:=trivial;repeat((first|clear zz|with_reducible first|refine A3 ?_|refine A5 fun _=>?_|refine A4 fun _=>?_);try simp(disch:=first|omega|assumption|((repeat(first|exact A1|exact uH|apply A2|apply uT));first|done|fail)|(simp;first|done|omega|fail))[c1', g6]))
  rw [e1]
  (have zz:=trivial;repeat((first|clear zz|with_reducible first|refine A3 ?_|refine A5 fun _=>?_|refine A4 fun _=>?_);try simp(disch:=first|omega|assumption|((repeat(first|exact A1|exact uH|apply A2|apply uT));first|done|fail)|(simp;first|done|omega|fail))[c2', c3']))
  exact B0 (by simp [B0n, c1, c2, c3])
 have c3' : ¬ (s.size : Int) < ((G3 s 12 : Nat) : Int) / 16 * 4 := by omega
 (have zz:=trivial;repeat((first|clear zz|with_reducible first|refine A3 ?_|refine A5 fun _=>?_|refine A4 fun _=>?_);try simp(disch:=first|omega|assumption|((repeat(first|exact A1|exact uH|apply A2|apply uT));first|done|fail)|(simp;first|done|omega|fail))[c1', g6]))
 rw [e1]
 (have zz:=trivial;repeat((first|clear zz|with_reducible first|refine A3 ?_|refine A5 fun _=>?_|refine A4 fun _=>?_);try simp(disch:=first|omega|assumption|((repeat(first|exact A1|exact uH|apply A2|apply uT));first|done|fail)|(simp;first|done|omega|fail))[c2', c3', g6, e2]))
 exact B0 (by simp [B0n, c1, c2, c3, hb3])
def z1 : ByteArray := ByteArray.mk #[0]
def A4s (f : Int) : ByteArray × Nat := if f < 0 ∨ 255 < f then (H4, 1) else (B2z z1 8 ++ ByteArray.mk #[80] ++ G0 f 1 ++ B2z z1 6, 0)
def A6g (f : Int) : ByteArray × Nat := if f ≠ 0 then (H4, 1) else (ByteArray.mk #[0, 8, 0, 0], 0)
theorem D2D (w : World) : Fn PR C0 341 #[.string (ByteArray.mk #[0]), .int .i64 8] w (fun v w' => v = .string (B2z z1 8) ∧ D2 [] w w') := B53 w z1 8 (by omega) (by decide)
theorem D1E (w : World) : Fn PR C0 341 #[.string (ByteArray.mk #[0]), .int .i64 6] w (fun v w' => v = .string (B2z z1 6) ∧ D2 [] w w') := B53 w z1 6 (by omega) (by decide)
theorem x8 (c : Nat) : (B2z z1 c).size = c := by
 have : ∀ (l : List UInt8) (n : Nat), (Lib.repeatL l n).length = n * l.length := by
  intro l n
  induction n with
  | zero => simp [Lib.repeatL]
  | succ n ih => simp [Lib.repeatL, ih, Nat.add_mul, Nat.add_comm]
 show (Lib.repeatL z1.data.toList c).toArray.size = c
 rw [List.size_toArray, this]; simp [z1]
theorem C3u (w : World) (f : Int) : Fn PR C0 340 #[.agg #[], .int .i64 f] w (fun v w' => v = .tuple #[.string (A4s f).1, .int .i64 (A4s f).2] ∧ D2 [] w w') := by
 refine Fn.pure (B3z (TW.go (κ := false) (S := []) ?_))
 unfold A5x
 by_cases c1 : f < 0
 ·(have zz:=trivial;repeat((first|clear zz|with_reducible first|refine A3 ?_|refine A5 fun _=>?_|refine A4 fun _=>?_);try simp(disch:=first|omega|assumption|((repeat(first|exact A1|exact uH|apply A2|apply uT));first|done|fail)|(simp;first|done|omega|fail))[c1])); exact B0 (by simp [A4s, c1])
 by_cases c2 : 255 < f
 ·(have zz:=trivial;repeat((first|clear zz|with_reducible first|refine A3 ?_|refine A5 fun _=>?_|refine A4 fun _=>?_);try simp(disch:=first|omega|assumption|((repeat(first|exact A1|exact uH|apply A2|apply uT));first|done|fail)|(simp;first|done|omega|fail))[c1, c2])); exact B0 (by simp [A4s, c2])
 (have zz:=trivial;repeat((first|clear zz|with_reducible first|refine A3 ?_|refine A5 fun _=>?_|refine A4 fun _=>?_);try simp(disch:=first|omega|assumption|((repeat(first|exact A1|exact uH|apply A2|apply uT));first|done|fail)|(simp;first|done|omega|fail))[c1, c2]))
 have h8 := x8 8
 have h6 := x8 6
 refine C4 A3J (fun w' hw' => D2D w') ?_
 (have zz:=trivial;repeat((first|clear zz|with_reducible first|refine A3 ?_|refine A5 fun _=>?_|refine A4 fun _=>?_);try simp(disch:=first|omega|assumption|((repeat(first|exact A1|exact uH|apply A2|apply uT));first|done|fail)|(simp;first|done|omega|fail))[c1, c2, W7]))
 refine C4 J0 (fun w' hw' => Z4 w' _ _) ?_
 (have zz:=trivial;repeat((first|clear zz|with_reducible first|refine A3 ?_|refine A5 fun _=>?_|refine A4 fun _=>?_);try simp(disch:=first|omega|assumption|((repeat(first|exact A1|exact uH|apply A2|apply uT));first|done|fail)|(simp;first|done|omega|fail))[c1, c2, W7]))
 refine C4 A3J (fun w' hw' => D1E w') ?_
 (have zz:=trivial;repeat((first|clear zz|with_reducible first|refine A3 ?_|refine A5 fun _=>?_|refine A4 fun _=>?_);try simp(disch:=first|omega|assumption|((repeat(first|exact A1|exact uH|apply A2|apply uT));first|done|fail)|(simp;first|done|omega|fail))[c1, c2, W7]))
 exact B0 (by simp [A4s, c1, c2])
theorem B9H (w : World) (s : ByteArray) (hs : s.size < 2 ^ 40) : Fn PR C0 351 #[.agg #[], .string s] w (fun v w' => v = .tuple #[.int .i64 (B1N s).1, .int .i64 (B1N s).2] ∧ D2 [] w w') := by
 refine Fn.pure (B14 (TW.go (κ := false) (S := []) ?_))
 unfold A35
 by_cases c1 : s.size < 8
 ·have c1' : (s.size : Int) < 8 := by omega
  (have zz:=trivial;repeat((first|clear zz|with_reducible first|refine A3 ?_|refine A5 fun _=>?_|refine A4 fun _=>?_);try simp(disch:=first|omega|assumption|((repeat(first|exact A1|exact uH|apply A2|apply uT));first|done|fail)|(simp;first|done|omega|fail))[c1'])); exact B0 (by simp [B1N, c1])
 have c1' : ¬ (s.size : Int) < 8 := by omega
 (have zz:=trivial;repeat((first|clear zz|with_reducible first|refine A3 ?_|refine A5 fun _=>?_|refine A4 fun _=>?_);try simp(disch:=first|omega|assumption|((repeat(first|exact A1|exact uH|apply A2|apply uT));first|done|fail)|(simp;first|done|omega|fail))[c1']))
 refine C4 T5 (fun w' _ => A3W w' s (by omega) _ _) ?_
 have e1 := A7F s 4 2 (by omega) (by omega)
 have e1' : A6P s 4 2 = gv s 4 2 := e1
 have hg := A3A s 4
 by_cases c2 : gv s 4 2 < 8
 ·have c2' : ((gv s 4 2 : Nat) : Int) < 8 := by omega
  (have zz:=trivial;repeat((first|clear zz|with_reducible first|refine A3 ?_|refine A5 fun _=>?_|refine A4 fun _=>?_);try simp(disch:=first|omega|assumption|((repeat(first|exact A1|exact uH|apply A2|apply uT));first|done|fail)|(simp;first|done|omega|fail))[e1', c2, c2']))
  exact B0 (by simp [B1N, c1, c2])
 have c2' : ¬ ((gv s 4 2 : Nat) : Int) < 8 := by omega
 by_cases c3 : s.size < gv s 4 2
 ·have c3' : ((s.size : Nat) : Int) < gv s 4 2 := by omega
  (have zz:=trivial;repeat((first|clear zz|with_reducible first|refine A3 ?_|refine A5 fun _=>?_|refine A4 fun _=>?_);try simp(disch:=first|omega|assumption|((repeat(first|exact A1|exact uH|apply A2|apply uT));first|done|fail)|(simp;first|done|omega|fail))[e1', c2, c2', c3, c3']))
  exact B0 (by simp [B1N, c1, c2, c3])
 have c3' : ¬ ((s.size : Nat) : Int) < gv s 4 2 := by omega
 (have zz:=trivial;repeat((first|clear zz|with_reducible first|refine A3 ?_|refine A5 fun _=>?_|refine A4 fun _=>?_);try simp(disch:=first|omega|assumption|((repeat(first|exact A1|exact uH|apply A2|apply uT));first|done|fail)|(simp;first|done|omega|fail))[e1', c2, c2', c3, c3']))
 exact B0 (by simp [B1N, c1, c2, c3])
theorem C4K (w : World) (f : Int) : Fn PR C0 352 #[.agg #[], .int .i64 f] w (fun v w' => v = .tuple #[.string (A6g f).1, .int .i64 (A6g f).2] ∧ D2 [] w w') := by
 refine Fn.pure (B3W (TW.go (κ := false) (S := []) ?_))
 unfold A6B
 by_cases c1 : f = 0
 ·(have zz:=trivial;repeat((first|clear zz|with_reducible first|refine A3 ?_|refine A5 fun _=>?_|refine A4 fun _=>?_);try simp(disch:=first|omega|assumption|((repeat(first|exact A1|exact uH|apply A2|apply uT));first|done|fail)|(simp;first|done|omega|fail))[c1])); exact B0 (by simp [A6g, c1])
 ·(have zz:=trivial;repeat((first|clear zz|with_reducible first|refine A3 ?_|refine A5 fun _=>?_|refine A4 fun _=>?_);try simp(disch:=first|omega|assumption|((repeat(first|exact A1|exact uH|apply A2|apply uT));first|done|fail)|(simp;first|done|omega|fail))[c1])); exact B0 (by simp [A6g, c1])
def A28 (number : Int) (s : ByteArray) : Nat × Nat := if number = 6 then B0n s else if number = 17 then B1N s else (0, 7)
def d8 (number : Int) (s : ByteArray) : Nat × Nat × Nat × Nat := if (A28 number s).2 ≠ 0 then (0, 0, 0, (A28 number s).2) else (gv s 0 2, gv s 2 2, (A28 number s).1, 0)
def d8.val (x : Nat × Nat × Nat × Nat) : Value := .tuple #[.agg #[.int .i64 x.1, .int .i64 x.2.1, .int .i64 x.2.2.1], .int .i64 x.2.2.2]
theorem B3j (w : World) (s : ByteArray) : (callMethod B8S "gangplank/port.parse" [Value.string s].toArray).run PR w = .ok (.enter 339 #[.agg #[], .string s]) w := by kernel_rfl
theorem B4T (w : World) (s : ByteArray) : (callMethod B8E "gangplank/port.parse" [Value.string s].toArray).run PR w = .ok (.enter 351 #[.agg #[], .string s]) w := by kernel_rfl
theorem B6Y (w : World) (f : Int) : (callMethod B8S "gangplank/port.put" [Value.int .i64 f].toArray).run PR w = .ok (.enter 340 #[.agg #[], .int .i64 f]) w := by kernel_rfl
theorem B6p (w : World) (f : Int) : (callMethod B8E "gangplank/port.put" [Value.int .i64 f].toArray).run PR w = .ok (.enter 352 #[.agg #[], .int .i64 f]) w := by kernel_rfl
theorem B8m (w : World) (s : ByteArray) (hs : s.size < 2 ^ 40) (number : Int) : Fn PR C0 87 #[.int .i64 number, .string s] w (fun v w' => v = d8.val (d8 number s) ∧ D2 [] w w') := by
 refine Fn.pure (B6v (TW.go (κ := false) (S := []) ?_))
 unfold A9Q
 (have zz:=trivial;repeat((first|clear zz|with_reducible first|refine A3 ?_|refine A5 fun _=>?_|refine A4 fun _=>?_);try simp(disch:=first|omega|assumption|((repeat(first|exact A1|exact uH|apply A2|apply uT));first|done|fail)|(simp;first|done|omega|fail))[]))
 refine G4 A5p (fun w' _ => B5p w') ?_
 rintro r v rfl
 (have zz:=trivial;repeat((first|clear zz|with_reducible first|refine A3 ?_|refine A5 fun _=>?_|refine A4 fun _=>?_);try simp(disch:=first|omega|assumption|((repeat(first|exact A1|exact uH|apply A2|apply uT));first|done|fail)|(simp;first|done|omega|fail))[]))
 rw [B2f B66 B68 (KeyT.int G9) (l := r5) (by (repeat constructor))]
 have fin : ∀ {f1 : Nat} {b : Nat}, True := fun {_ _} => trivial
 have hg0 := A3A s 0
 have hg2 := A3A s 2
 have e1 : A6P s 0 2 = gv s 0 2 := A7F s 0 2 (by omega) (by omega)
 have e2 : A6P s 2 2 = gv s 2 2 := A7F s 2 2 (by omega) (by omega)
 by_cases c1 : number = 6
 ·rw [show (p8 number r5).getD .nilIface = B8S by subst c1; rfl]
  (have zz:=trivial;repeat((first|clear zz|with_reducible first|refine A3 ?_|refine A5 fun _=>?_|refine A4 fun _=>?_);try simp(disch:=first|omega|assumption|((repeat(first|exact A1|exact uH|apply A2|apply uT));first|done|fail)|(simp;first|done|omega|fail))[A2Z, A2b]))
  refine B7B (fun w => B3j w s) (fun w' hw' => B9p w' s hs) ?_
  by_cases c2 : (B0n s).2 = 0
  ·(have zz:=trivial;repeat((first|clear zz|with_reducible first|refine A3 ?_|refine A5 fun _=>?_|refine A4 fun _=>?_);try simp(disch:=first|omega|assumption|((repeat(first|exact A1|exact uH|apply A2|apply uT));first|done|fail)|(simp;first|done|omega|fail))[c2]))
   refine C4 T5 (fun w' _ => A3W w' s (by omega) _ _) ?_
   (have zz:=trivial;repeat((first|clear zz|with_reducible first|refine A3 ?_|refine A5 fun _=>?_|refine A4 fun _=>?_);try simp(disch:=first|omega|assumption|((repeat(first|exact A1|exact uH|apply A2|apply uT));first|done|fail)|(simp;first|done|omega|fail))[e1]))
   refine C4 T5 (fun w' _ => A3W w' s (by omega) _ _) ?_
   (have zz:=trivial;repeat((first|clear zz|with_reducible first|refine A3 ?_|refine A5 fun _=>?_|refine A4 fun _=>?_);try simp(disch:=first|omega|assumption|((repeat(first|exact A1|exact uH|apply A2|apply uT));first|done|fail)|(simp;first|done|omega|fail))[e1, e2]))
   exact B0 (by simp [d8, A28, d8.val, c1, c2])
  ·(have zz:=trivial;repeat((first|clear zz|with_reducible first|refine A3 ?_|refine A5 fun _=>?_|refine A4 fun _=>?_);try simp(disch:=first|omega|assumption|((repeat(first|exact A1|exact uH|apply A2|apply uT));first|done|fail)|(simp;first|done|omega|fail))[c2]))
   exact B0 (by simp [d8, A28, d8.val, c1, c2])
 by_cases c1' : number = 17
 ·rw [show (p8 number r5).getD .nilIface = B8E by subst c1'; rfl]
  (have zz:=trivial;repeat((first|clear zz|with_reducible first|refine A3 ?_|refine A5 fun _=>?_|refine A4 fun _=>?_);try simp(disch:=first|omega|assumption|((repeat(first|exact A1|exact uH|apply A2|apply uT));first|done|fail)|(simp;first|done|omega|fail))[A2Z, A2b]))
  refine B7B (fun w => B4T w s) (fun w' hw' => B9H w' s hs) ?_
  by_cases c2 : (B1N s).2 = 0
  ·(have zz:=trivial;repeat((first|clear zz|with_reducible first|refine A3 ?_|refine A5 fun _=>?_|refine A4 fun _=>?_);try simp(disch:=first|omega|assumption|((repeat(first|exact A1|exact uH|apply A2|apply uT));first|done|fail)|(simp;first|done|omega|fail))[c2]))
   refine C4 T5 (fun w' _ => A3W w' s (by omega) _ _) ?_
   (have zz:=trivial;repeat((first|clear zz|with_reducible first|refine A3 ?_|refine A5 fun _=>?_|refine A4 fun _=>?_);try simp(disch:=first|omega|assumption|((repeat(first|exact A1|exact uH|apply A2|apply uT));first|done|fail)|(simp;first|done|omega|fail))[e1]))
   refine C4 T5 (fun w' _ => A3W w' s (by omega) _ _) ?_
   (have zz:=trivial;repeat((first|clear zz|with_reducible first|refine A3 ?_|refine A5 fun _=>?_|refine A4 fun _=>?_);try simp(disch:=first|omega|assumption|((repeat(first|exact A1|exact uH|apply A2|apply uT));first|done|fail)|(simp;first|done|omega|fail))[e1, e2]))
   exact B0 (by simp [d8, A28, d8.val, c1', c2])
  ·(have zz:=trivial;repeat((first|clear zz|with_reducible first|refine A3 ?_|refine A5 fun _=>?_|refine A4 fun _=>?_);try simp(disch:=first|omega|assumption|((repeat(first|exact A1|exact uH|apply A2|apply uT));first|done|fail)|(simp;first|done|omega|fail))[c2]))
   exact B0 (by simp [d8, A28, d8.val, c1', c2])
 ·rw [show (p8 number r5).getD .nilIface = .nilIface by simp [p8, r5, c1, c1']]
  (have zz:=trivial;repeat((first|clear zz|with_reducible first|refine A3 ?_|refine A5 fun _=>?_|refine A4 fun _=>?_);try simp(disch:=first|omega|assumption|((repeat(first|exact A1|exact uH|apply A2|apply uT));first|done|fail)|(simp;first|done|omega|fail))[A2Z, A2b]))
  exact B0 (by simp [d8, A28, d8.val, c1, c1'])
theorem y7 (s : ByteArray) : s ++ H4 = s := by apply ByteArray.ext; rw [ByteArray.data_append]; simp
theorem y8 (s : ByteArray) : H4 ++ s = s := by apply ByteArray.ext; rw [ByteArray.data_append]; simp
def W0 (x : Int) : ByteArray := if 0 ≤ x ∧ x ≤ 65535 then G0 x 2 else H4
def W1 (x y : Int) : Bool := decide (0 ≤ x ∧ x ≤ 65535 ∧ 0 ≤ y ∧ y ≤ 65535)
theorem B7T (w : World) (x y z : Int) : Fn PR C0 171 #[.agg #[.int .i64 x, .int .i64 y, .int .i64 z]] w (fun v w' => v = .tuple #[.string (W0 x ++ W0 y), .bool (W1 x y)] ∧ D2 [] w w') := by
 refine Fn.pure (B6Z (TW.go (κ := false) (S := []) ?_))
 unfold A9P
 by_cases c1 : 0 ≤ x ∧ x ≤ 65535
 ·have c1' := c1.1; have c1'' := c1.2
  (have zz:=trivial;repeat((first|clear zz|with_reducible first|refine A3 ?_|refine A5 fun _=>?_|refine A4 fun _=>?_);try simp(disch:=first|omega|assumption|((repeat(first|exact A1|exact uH|apply A2|apply uT));first|done|fail)|(simp;first|done|omega|fail))[c1', c1'']))
  refine C4 J0 (fun w' hw' => Z4 w' _ _) ?_
  by_cases c2 : 0 ≤ y ∧ y ≤ 65535
  ·have c2' := c2.1; have c2'' := c2.2
   (have zz:=trivial;repeat((first|clear zz|with_reducible first|refine A3 ?_|refine A5 fun _=>?_|refine A4 fun _=>?_);try simp(disch:=first|omega|assumption|((repeat(first|exact A1|exact uH|apply A2|apply uT));first|done|fail)|(simp;first|done|omega|fail))[c1', c1'', c2', c2'']))
   refine C4 J0 (fun w' hw' => Z4 w' _ _) ?_
   (have zz:=trivial;repeat((first|clear zz|with_reducible first|refine A3 ?_|refine A5 fun _=>?_|refine A4 fun _=>?_);try simp(disch:=first|omega|assumption|((repeat(first|exact A1|exact uH|apply A2|apply uT));first|done|fail)|(simp;first|done|omega|fail))[c1', c1'', c2', c2'', W7]))
   exact B0 (by simp [y7, y8, W0, W1, c1, c2])
  ·by_cases c3 : 0 ≤ y
   ·have c4 : ¬ y ≤ 65535 := fun h => c2 ⟨c3, h⟩
    (have zz:=trivial;repeat((first|clear zz|with_reducible first|refine A3 ?_|refine A5 fun _=>?_|refine A4 fun _=>?_);try simp(disch:=first|omega|assumption|((repeat(first|exact A1|exact uH|apply A2|apply uT));first|done|fail)|(simp;first|done|omega|fail))[c1', c1'', c3, c4]))
    exact B0 (by simp [y7, y8, W0, W1, c1, c3, c4])
   ·(have zz:=trivial;repeat((first|clear zz|with_reducible first|refine A3 ?_|refine A5 fun _=>?_|refine A4 fun _=>?_);try simp(disch:=first|omega|assumption|((repeat(first|exact A1|exact uH|apply A2|apply uT));first|done|fail)|(simp;first|done|omega|fail))[c1', c1'', c3]))
    exact B0 (by simp [y7, y8, W0, W1, c1, c3])
 ·have hn : W0 x = H4 := by simp [W0, c1]
  have ho : W1 x y = false := by simp only [W1, decide_eq_false_iff_not]; exact fun h => c1 ⟨h.1, h.2.1⟩
  rw [hn, ho]
  have key : ∀ bx, TW false [] w [.pt bx (.cells #[.int .i64 x, .int .i64 y, .int .i64 z] 148)] = TW false [] w [.pt bx (.cells #[.int .i64 x, .int .i64 y, .int .i64 z] 148)] := fun _ => rfl
  by_cases c0 : 0 ≤ x
  ·have c0' : ¬ x ≤ 65535 := fun h => c1 ⟨c0, h⟩
   by_cases c2 : 0 ≤ y ∧ y ≤ 65535
   ·have c2' := c2.1; have c2'' := c2.2
    (have zz:=trivial;repeat((first|clear zz|with_reducible first|refine A3 ?_|refine A5 fun _=>?_|refine A4 fun _=>?_);try simp(disch:=first|omega|assumption|((repeat(first|exact A1|exact uH|apply A2|apply uT));first|done|fail)|(simp;first|done|omega|fail))[c0, c0', c2', c2'']))
    refine C4 J0 (fun w' hw' => Z4 w' _ _) ?_
    (have zz:=trivial;repeat((first|clear zz|with_reducible first|refine A3 ?_|refine A5 fun _=>?_|refine A4 fun _=>?_);try simp(disch:=first|omega|assumption|((repeat(first|exact A1|exact uH|apply A2|apply uT));first|done|fail)|(simp;first|done|omega|fail))[c0, c0', c2', c2'', W7]))
    exact B0 (by simp [y7, y8, W0, c2])
   ·by_cases c3 : 0 ≤ y
    ·have c4 : ¬ y ≤ 65535 := fun h => c2 ⟨c3, h⟩
     (have zz:=trivial;repeat((first|clear zz|with_reducible first|refine A3 ?_|refine A5 fun _=>?_|refine A4 fun _=>?_);try simp(disch:=first|omega|assumption|((repeat(first|exact A1|exact uH|apply A2|apply uT));first|done|fail)|(simp;first|done|omega|fail))[c0, c0', c3, c4]))
     exact B0 (by simp [y7, y8, W0, c3, c4])
    ·(have zz:=trivial;repeat((first|clear zz|with_reducible first|refine A3 ?_|refine A5 fun _=>?_|refine A4 fun _=>?_);try simp(disch:=first|omega|assumption|((repeat(first|exact A1|exact uH|apply A2|apply uT));first|done|fail)|(simp;first|done|omega|fail))[c0, c0', c3]))
     exact B0 (by simp [y7, y8, W0, c3])
  ·by_cases c2 : 0 ≤ y ∧ y ≤ 65535
   ·have c2' := c2.1; have c2'' := c2.2
    (have zz:=trivial;repeat((first|clear zz|with_reducible first|refine A3 ?_|refine A5 fun _=>?_|refine A4 fun _=>?_);try simp(disch:=first|omega|assumption|((repeat(first|exact A1|exact uH|apply A2|apply uT));first|done|fail)|(simp;first|done|omega|fail))[c0, c2', c2'']))
    refine C4 J0 (fun w' hw' => Z4 w' _ _) ?_
    (have zz:=trivial;repeat((first|clear zz|with_reducible first|refine A3 ?_|refine A5 fun _=>?_|refine A4 fun _=>?_);try simp(disch:=first|omega|assumption|((repeat(first|exact A1|exact uH|apply A2|apply uT));first|done|fail)|(simp;first|done|omega|fail))[c0, c2', c2'', W7]))
    exact B0 (by simp [y7, y8, W0, c2])
   ·by_cases c3 : 0 ≤ y
    ·have c4 : ¬ y ≤ 65535 := fun h => c2 ⟨c3, h⟩
     (have zz:=trivial;repeat((first|clear zz|with_reducible first|refine A3 ?_|refine A5 fun _=>?_|refine A4 fun _=>?_);try simp(disch:=first|omega|assumption|((repeat(first|exact A1|exact uH|apply A2|apply uT));first|done|fail)|(simp;first|done|omega|fail))[c0, c3, c4]))
     exact B0 (by simp [y7, y8, W0, c3, c4])
    ·(have zz:=trivial;repeat((first|clear zz|with_reducible first|refine A3 ?_|refine A5 fun _=>?_|refine A4 fun _=>?_);try simp(disch:=first|omega|assumption|((repeat(first|exact A1|exact uH|apply A2|apply uT));first|done|fail)|(simp;first|done|omega|fail))[c0, c3]))
     exact B0 (by simp [y7, y8, W0, c3])
def A4Z (number f : Int) : ByteArray × Nat := if number = 6 then A4s f else if number = 17 then A6g f else (H4, 7)
def a7 (number x y f : Int) : ByteArray × Nat := if number ≠ 6 ∧ number ≠ 17 then (H4, 7) else if W1 x y = false ∨ (A4Z number f).2 ≠ 0 then (H4, 1) else (G0 x 2 ++ G0 y 2 ++ (A4Z number f).1, 0)
theorem B7U {x y : Int} (h : W1 x y = true) : W0 x ++ W0 y = G0 x 2 ++ G0 y 2 := by
 simp only [W1, decide_eq_true_eq] at h
 unfold W0; rw [if_pos (by omega), if_pos (by omega)]
theorem A89 (w : World) (number x y f : Int) : Fn PR C0 124 #[.int .i64 number, .agg #[.int .i64 x, .int .i64 y, .int .i64 f]] w (fun v w' => v = .tuple #[.string (a7 number x y f).1, .int .i64 (a7 number x y f).2] ∧ D2 [] w w') := by
 refine Fn.pure (B9J (TW.go (κ := false) (S := []) ?_))
 unfold B2M
 (have zz:=trivial;repeat((first|clear zz|with_reducible first|refine A3 ?_|refine A5 fun _=>?_|refine A4 fun _=>?_);try simp(disch:=first|omega|assumption|((repeat(first|exact A1|exact uH|apply A2|apply uT));first|done|fail)|(simp;first|done|omega|fail))[]))
 refine G4 A5p (fun w' _ => B5p w') ?_
 rintro r v rfl
 (have zz:=trivial;repeat((first|clear zz|with_reducible first|refine A3 ?_|refine A5 fun _=>?_|refine A4 fun _=>?_);try simp(disch:=first|omega|assumption|((repeat(first|exact A1|exact uH|apply A2|apply uT));first|done|fail)|(simp;first|done|omega|fail))[]))
 rw [B2f B66 B68 (KeyT.int G9) (l := r5) (by (repeat constructor))]
 by_cases c1 : number = 6
 ·rw [show (p8 number r5).getD .nilIface = B8S by subst c1; rfl]
  (have zz:=trivial;repeat((first|clear zz|with_reducible first|refine A3 ?_|refine A5 fun _=>?_|refine A4 fun _=>?_);try simp(disch:=first|omega|assumption|((repeat(first|exact A1|exact uH|apply A2|apply uT));first|done|fail)|(simp;first|done|omega|fail))[A2Z, A2b]))
  refine C4 A7e (fun w' hw' => B7T w' _ _ _) ?_
  (have zz:=trivial;repeat((first|clear zz|with_reducible first|refine A3 ?_|refine A5 fun _=>?_|refine A4 fun _=>?_);try simp(disch:=first|omega|assumption|((repeat(first|exact A1|exact uH|apply A2|apply uT));first|done|fail)|(simp;first|done|omega|fail))[]))
  refine B7B (fun w => B6Y w f) (fun w' hw' => C3u w' f) ?_
  cases c3 : W1 x y with
  | false => (have zz:=trivial;repeat((first|clear zz|with_reducible first|refine A3 ?_|refine A5 fun _=>?_|refine A4 fun _=>?_);try simp(disch:=first|omega|assumption|((repeat(first|exact A1|exact uH|apply A2|apply uT));first|done|fail)|(simp;first|done|omega|fail))[c3])); exact B0 (by simp [a7, c1, c3])
  | true =>
   have hp := B7U c3
   by_cases c2 : (A4s f).2 = 0
   ·have hz : (W0 x).size + (W0 y).size + (A4s f).1.size < 2 ^ 30 := by
     have := congrArg ByteArray.size hp
     simp at this
     have h6 := x8 6
     have h8 := x8 8
     have : (A4s f).1.size ≤ 100 := by unfold A4s; split <;> simp [h6, h8]
     omega
    (have zz:=trivial;repeat((first|clear zz|with_reducible first|refine A3 ?_|refine A5 fun _=>?_|refine A4 fun _=>?_);try simp(disch:=first|omega|assumption|((repeat(first|exact A1|exact uH|apply A2|apply uT));first|done|fail)|(simp;first|done|omega|fail))[c2, c3, W7]))
    exact B0 (by simp [a7, A4Z, c1, c2, c3, hp])
   ·(have zz:=trivial;repeat((first|clear zz|with_reducible first|refine A3 ?_|refine A5 fun _=>?_|refine A4 fun _=>?_);try simp(disch:=first|omega|assumption|((repeat(first|exact A1|exact uH|apply A2|apply uT));first|done|fail)|(simp;first|done|omega|fail))[c2, c3]))
    exact B0 (by simp [a7, A4Z, c1, c2, c3])
 by_cases c1' : number = 17
 ·rw [show (p8 number r5).getD .nilIface = B8E by subst c1'; rfl]
  (have zz:=trivial;repeat((first|clear zz|with_reducible first|refine A3 ?_|refine A5 fun _=>?_|refine A4 fun _=>?_);try simp(disch:=first|omega|assumption|((repeat(first|exact A1|exact uH|apply A2|apply uT));first|done|fail)|(simp;first|done|omega|fail))[A2Z, A2b]))
  refine C4 A7e (fun w' hw' => B7T w' _ _ _) ?_
  (have zz:=trivial;repeat((first|clear zz|with_reducible first|refine A3 ?_|refine A5 fun _=>?_|refine A4 fun _=>?_);try simp(disch:=first|omega|assumption|((repeat(first|exact A1|exact uH|apply A2|apply uT));first|done|fail)|(simp;first|done|omega|fail))[]))
  refine B7B (fun w => B6p w f) (fun w' hw' => C4K w' f) ?_
  cases c3 : W1 x y with
  | false => (have zz:=trivial;repeat((first|clear zz|with_reducible first|refine A3 ?_|refine A5 fun _=>?_|refine A4 fun _=>?_);try simp(disch:=first|omega|assumption|((repeat(first|exact A1|exact uH|apply A2|apply uT));first|done|fail)|(simp;first|done|omega|fail))[c3])); exact B0 (by simp [a7, c1', c3])
  | true =>
   have hp := B7U c3
   by_cases c2 : (A6g f).2 = 0
   ·have hz : (W0 x).size + (W0 y).size + (A6g f).1.size < 2 ^ 30 := by
     have := congrArg ByteArray.size hp
     simp at this
     have : (A6g f).1.size ≤ 100 := by unfold A6g; split <;> simp
     omega
    (have zz:=trivial;repeat((first|clear zz|with_reducible first|refine A3 ?_|refine A5 fun _=>?_|refine A4 fun _=>?_);try simp(disch:=first|omega|assumption|((repeat(first|exact A1|exact uH|apply A2|apply uT));first|done|fail)|(simp;first|done|omega|fail))[c2, c3, W7]))
    exact B0 (by simp [a7, A4Z, c1', c2, c3, hp])
   ·(have zz:=trivial;repeat((first|clear zz|with_reducible first|refine A3 ?_|refine A5 fun _=>?_|refine A4 fun _=>?_);try simp(disch:=first|omega|assumption|((repeat(first|exact A1|exact uH|apply A2|apply uT));first|done|fail)|(simp;first|done|omega|fail))[c2, c3]))
    exact B0 (by simp [a7, A4Z, c1', c2, c3])
 ·rw [show (p8 number r5).getD .nilIface = .nilIface by simp [p8, r5, c1, c1']]
  (have zz:=trivial;repeat((first|clear zz|with_reducible first|refine A3 ?_|refine A5 fun _=>?_|refine A4 fun _=>?_);try simp(disch:=first|omega|assumption|((repeat(first|exact A1|exact uH|apply A2|apply uT));first|done|fail)|(simp;first|done|omega|fail))[A2Z, A2b]))
  exact B0 (by simp [a7, c1, c1'])
end Go.Proofs.YtjobgnabneddjaaGreat
